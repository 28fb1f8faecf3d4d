/- The walks of package spare: what pulses cost, how many each band has. -/
import Derived.Test.YtnohjidoelohkaaDoorDecP
import Derived.Test.YtnohjidoelohkaaDoorVect2
import Derived.Deep.RegionHeld3
namespace Go.Proofs.YtnohjidoelohkaaDoor
open Go.RowKit

/-- An array's number, by its place. -/
theorem run_index_arr (t : TypeId) (n : Nat) (l : List Int) (hl : l.length = n) (hu : Tryd.prog.underlying t = some (.array n 3)) (k : Nat) (hk : k < n) (w : World) :
    (Instr.index t (.agg (arrV l)) (.int .i64 (k : Int))).run Tryd.prog w = .ok (.int .i64 (l.getD k 0)) w := by
  have hkl : k < l.length := by omega
  have h1 : (sizeOf 3).run Tryd.prog w = .ok 1 w := by kernel_rfl
  have h2 : (isAgg 3).run Tryd.prog w = .ok false w := by kernel_rfl
  simp [Instr.index, run_underlying hu, asIntOf, hk, go_sem, h1, h2, List.getElem?_eq_getElem hkl]
def costB (b k : Nat) : Nat := Sp.vbits (bandN b) k
theorem bandN_bd {b : Nat} (h : b < 4) : bandN b ≤ 8 := by
  have hb4 : b = 0 ∨ b = 1 ∨ b = 2 ∨ b = 3 := by omega
  rcases hb4 with rfl | rfl | rfl | rfl <;> decide
theorem cost_any (b k : Nat) (hb : b < 4) (hk : k ≤ 8) (w : World) (hW : BandsW w) : Calls Tryd.prog 35 #[.int .i64 b, .int .i64 k] w fun e w' => e = .returned (.int .i64 (costB b k : Nat)) ∧ Below w.heap.size w w' := by
  go_enter Tryd.func35, Tryd.ntmps35
  go_wp2_with fail
  refine (Size_any b hb _ hW).mono ?_
  rintro e w1 ⟨rfl, hK1⟩
  go_wp2_with fail
  refine (VBits_any (bandN b) k (bandN_bd hb) hk _).mono ?_
  rintro e w2 ⟨rfl, hb2⟩
  go_wp2_with fail
  go_ret
  exact ⟨rfl, (hK1.below (fun _ h => h.elim) (Nat.le_refl _)).trans (hb2.mono hK1.size)⟩
theorem costB_bd {b k : Nat} (hb : b < 4) (hk : k ≤ 8) : costB b k ≤ 20 := Sp.vbits_bd (bandN_bd hb) hk
theorem Room_any (n : Nat) (hn0 : 10 ≤ n) (hn1 : n ≤ 32) (u : Int) (hu0 : 0 ≤ u) (hu1 : u ≤ 1000000) (w : World) : Calls Tryd.prog 17 #[.int .i64 n, .int .i64 u] w fun e w' => e = .returned (.int .i64 (max (8 * (n : Int) - 40 - u) 0)) ∧ w = w' := by
  go_enter Tryd.func17, Tryd.ntmps17
  go_wp2
  go_ret
  exact ⟨rfl, rfl⟩

/-- Levels that may be. -/
def LevelsOk (ls : List Int) : Prop := ls.length = 4 ∧ ∀ x ∈ ls, 0 ≤ x ∧ x ≤ 20
theorem LevelsOk.get {ls : List Int} (h : LevelsOk ls) {k : Nat} (hk : k < 4) : 0 ≤ ls.getD k 0 ∧ ls.getD k 0 ≤ 20 := by
  have hkl : k < ls.length := by rw [h.1]; exact hk
  rw [List.getD_eq_getElem?_getD, List.getElem?_eq_getElem hkl, Option.getD_some]
  exact h.2 _ (List.getElem_mem hkl)
theorem fourInfo : (Tryd.prog.info? 23).map (·.size) = some 4 := by kernel_rfl
set_option maxRecDepth 100000 in
set_option maxHeartbeats 800000 in
theorem sright_yes (ls : List Int) (hL : LevelsOk ls) (bits : Int) (h0 : 0 ≤ bits) (h1 : bits ≤ 1048576) (w : World) : Calls Tryd.prog 34 #[.agg (arrV ls), .int .i64 bits] w fun e w' => e = .returned (.bool true) ∧ Below w.heap.size w w' := by
  have hidx := fun k (hk : k < 4) (w : World) => run_index_arr 23 4 ls hL.1 Tryd.underlying23 k hk w
  have hX := Blk.new w (arrV ls) 23
  have hsz : (Tryd.prog.info? 23).map (·.size) = some (arrV ls).size := by rw [arr_size, hL.1]; exact fourInfo
  have hb1 : Below w.heap.size w (w.alloc (.cells (arrV ls) 23)) := (Below.refl _ _).alloc (Nat.le_refl _) _
  have HI := Lib.hid hidx
  clear hidx
  go_enter Tryd.func34, Tryd.ntmps34
  go_wp2_with (first | (refine wpList_load_blk rfl 23 (.tmp 2) rfl w.heap.size rfl (arrV ls) 23 hX Tryd.underlying23 hsz ?_))
  go_loop [8] (fun i => ∃ k : Nat, k ≤ 4 ∧ i = .int .i64 k) (fun i => 4 - (intOf i).toNat)
  case atStart => exact ⟨0, by omega, rfl⟩
  case round =>
    obtain ⟨k, hk, rfl⟩ := hrel
    by_cases hlt : k < 4
    · have hi := HI.out k hlt
      obtain ⟨x0, x1⟩ := hL.get hlt
      obtain ⟨x, hx⟩ : ∃ x, ls.getD k 0 = x := ⟨_, rfl⟩
      rw [hx] at hi x0 x1
      clear hx
      go_wp2_with fail
      go_round
      case rel => exact ⟨k + 1, hlt, by go_num⟩
      case measure => simp [intOf]; omega
    · obtain rfl : k = 4 := by omega
      go_wp2_with fail
      go_ret
      exact ⟨rfl, hb1⟩

/-- One band looked at: the best so far, and its price. -/
def pstep (ls ks : List Int) (bits : Int) (acc : Int × Int) (b : Nat) : Int × Int :=
  if ls.getD b 0 = 0 ∨ ks.getD b 0 = 8 ∨ (0 ≤ acc.1 ∧ 2 * ls.getD b 0 - 3 * ks.getD b 0 ≤ 2 * ls.getD acc.1.toNat 0 - 3 * ks.getD acc.1.toNat 0) then acc
  else if (costB b (ks.getD b 0 + 1).toNat : Int) - (costB b (ks.getD b 0).toNat : Int) ≤ bits then ((b : Int), (costB b (ks.getD b 0 + 1).toNat : Int) - (costB b (ks.getD b 0).toNat : Int)) else acc
def pbest (ls ks : List Int) (bits : Int) (n : Nat) : Int × Int := (List.range n).foldl (pstep ls ks bits) (-1, 0)
theorem pbest_next (ls ks : List Int) (bits : Int) (n : Nat) : pbest ls ks bits (n + 1) = pstep ls ks bits (pbest ls ks bits n) n := by simp [pbest, List.range_succ]
/-- The pulses given, one by one. -/
def pulses (ls : List Int) : Nat → List Int → Int → List Int
  | 0, ks, _ => ks
  | f + 1, ks, bits => if (pbest ls ks bits 4).1 < 0 then ks else pulses ls f (ks.set (pbest ls ks bits 4).1.toNat (ks.getD (pbest ls ks bits 4).1.toNat 0 + 1)) (bits - (pbest ls ks bits 4).2)
/-- Pulses that may be. -/
def PulsesOk (ks : List Int) : Prop := ks.length = 4 ∧ ∀ k < 4, 0 ≤ ks.getD k 0 ∧ ks.getD k 0 ≤ 8
/-- What is told of the best: a band that has room, at a price that can be paid. -/
structure BestOk (ls ks : List Int) (bits : Int) (p : Int × Int) : Prop where
  lo : -1 ≤ p.1
  hi : p.1 < 4
  room : 0 ≤ p.1 → ks.getD p.1.toNat 0 < 8 ∧ ls.getD p.1.toNat 0 ≠ 0
  pay : 0 ≤ p.1 → p.2 ≤ bits
  bd : -20 ≤ p.2 ∧ p.2 ≤ 20
theorem best_ok (ls ks : List Int) (bits : Int) (hk : PulsesOk ks) (n : Nat) (hn : n ≤ 4) : BestOk ls ks bits (pbest ls ks bits n) := by
  induction n with
  | zero => exact ⟨by simp [pbest], by simp [pbest], fun h => by simp [pbest] at h, fun h => by simp [pbest] at h, by simp [pbest]⟩
  | succ n ih =>
    have h := ih (by omega)
    rw [pbest_next]
    obtain ⟨p, hp⟩ : ∃ p, pbest ls ks bits n = p := ⟨_, rfl⟩
    rw [hp] at h ⊢
    unfold pstep
    split
    · exact h
    · rename_i hno
      simp only [not_or] at hno
      split
      · rename_i hpay
        have h8 := hk.2 n (by omega)
        have c1 := costB_bd (b := n) (k := (ks.getD n 0 + 1).toNat) (by omega) (by omega)
        have c2 := costB_bd (b := n) (k := (ks.getD n 0).toNat) (by omega) (by omega)
        exact ⟨by simp only; omega, by simp only; omega, fun _ => by simp only [Int.toNat_natCast]; exact ⟨by omega, hno.1⟩, fun _ => hpay, by simp only; omega⟩
      · exact h
end Go.Proofs.YtnohjidoelohkaaDoor
