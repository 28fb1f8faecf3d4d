/- The walks of dec.may, state.fits and dec.band. -/
import Derived.Test.YtnohjidoelohkaaDoorDecS2
import Derived.Test.YtnohjidoelohkaaDoorRangN
namespace Go.Proofs.YtnohjidoelohkaaDoor
open Go.RowKit

theorem dmay_any (s : ByteArray) (w : World) : Calls Tryd.prog 10 #[.string s] w fun e w' => e = .returned (.bool (decide (10 ≤ s.size ∧ s.size ≤ 32))) ∧ w = w' := by
  by_cases h1 : (10 : Int) ≤ s.size
  · go_enter Tryd.func10, Tryd.ntmps10
    go_wp2
    go_ret
    exact ⟨by simp [show 10 ≤ s.size by omega]; omega, rfl⟩
  · go_enter Tryd.func10, Tryd.ntmps10
    go_wp2
    go_ret
    exact ⟨by simp [show ¬ 10 ≤ s.size by omega], rfl⟩
theorem fits32 (x : Int) (w : World) : Calls Tryd.prog 12 #[.int .i64 x, .int .i64 32] w fun e w' => e = .returned (.bool (Sp.cut 32 x == x)) ∧ w = w' := by
  go_enter Tryd.func12, Tryd.ntmps12
  go_wp2_with fail
  refine (Cut32 x _).mono ?_
  rintro e w1 ⟨rfl, rfl⟩
  go_wp2_with fail
  go_ret
  exact ⟨rfl, rfl⟩
theorem fits22 (x : Int) (w : World) : Calls Tryd.prog 12 #[.int .i64 x, .int .i64 22] w fun e w' => e = .returned (.bool (Sp.cut 22 x == x)) ∧ w = w' := by
  go_enter Tryd.func12, Tryd.ntmps12
  go_wp2_with fail
  refine (Cut22 x _).mono ?_
  rintro e w1 ⟨rfl, rfl⟩
  go_wp2_with fail
  go_ret
  exact ⟨rfl, rfl⟩

/-- A band's waves out of a decoder: which, and the decoder then. -/
def bandV (d : Sp.Dec) (b lev k : Nat) : List Int :=
  if k = 0 then List.replicate (bandN b) 0 else fillL lev (Sp.vec (bandN b) k ((Sp.Dec.bitF 3 d (Sp.vbits (bandN b) k) 0 0).1 % (Sp.cnt (bandN b) k : Nat)))
def bandD (d : Sp.Dec) (b k : Nat) : Sp.Dec := if k = 0 then d else (Sp.Dec.bitF 3 d (Sp.vbits (bandN b) k) 0 0).2
set_option maxRecDepth 100000 in
set_option maxHeartbeats 1600000 in
theorem band_zero (g : Nat) (b lev : Nat) (hb : b < 4) (w : World) (hW : BandsW w) (tk : Value) :
    Calls Tryd.prog 21 #[tk, .int .i64 b, .int .i64 lev, .int .i64 0] w fun e w' => ∃ v, e = .returned v ∧ Row w' 3 v (intsV (List.replicate (bandN b) 0)) ∧ Below w.heap.size w w' ∧ Hid (∀ g, v.ownBlock = some g → w.heap.size ≤ g) := by
  have hmk : ∀ w, (Instr.makeSlice 54 (.int .i64 (bandN b : Int)) (.int .i64 (bandN b : Int))).run Tryd.prog w = .ok (.slice (some ⟨w.heap.size, 0, none⟩) (bandN b) (bandN b)) (w.alloc (.cells (madeCells #[.int .i64 0] (bandN b)) 3)) :=
    run_make_row' 54 3 (.int .i64 0) 8 Tryd.underlying54 madeI rfl .i64 .i64 (bandN b) (by have := bandN_bd hb; omega) (by have := bandN_bd hb; omega)
  go_enter Tryd.func21, Tryd.ntmps21
  go_wp2_with fail
  refine (Size_any b hb _ hW).mono ?_
  rintro e w1 ⟨rfl, hK1⟩
  have hb1 : Below w.heap.size w w1 := hK1.below (fun _ h => h.elim) (Nat.le_refl _)
  have hs1 := hb1.size
  go_wp2_with fail
  go_ret
  exact ⟨_, rfl, Row.made w1 (bandN b) (by have := bandN_bd hb; omega), hb1.alloc hs1 _, Lib.hid (by intro g hg; simp [Value.ownBlock] at hg; omega)⟩
end Go.Proofs.YtnohjidoelohkaaDoor
