/- The walk of spoollaw15.EncSizes: whatever comes in, it returns true. -/
import Derived.Test.YtkoljgmapclhkaaGreatDoorLaw15b
set_option linter.unusedSimpArgs false
set_option linter.unusedVariables false
namespace Go.Proofs.YtkoljgmapclhkaaGreatDoor
open Go.RowKit

theorem el_Sixteen : ElemT 22 16 := ⟨fun _ => by kernel_rfl, .agg #[.int .i64 0, .int .i64 0, .int .i64 0, .int .i64 0, .int .i64 0, .int .i64 0, .int .i64 0, .int .i64 0, .int .i64 0, .int .i64 0, .int .i64 0, .int .i64 0, .int .i64 0, .int .i64 0, .int .i64 0, .int .i64 0], fun _ => by kernel_rfl, by kernel_rfl⟩
theorem ERightE_any {e : ESt} (h : e.Ok) (w : World) : Calls Tryz.prog 52 #[.agg (arrV e.l)] w fun r w' => r = .returned (.bool true) ∧ Below w.heap.size w w' := by
  have h2 := NRight_any e.P e.L e.last h.1 h.2.1 w
  rw [h.2.2] at h2
  exact h2
theorem frames_one {b : List Int} : frames [b] = [frame b] := rfl
/-- The first of a slice of one block. -/
theorem SL.rng {W : World} {lo hi g o n c : Nat} {F : List Int} (h : SL W lo hi 16 (some ⟨g, o, none⟩) n c (intsV F)) : W.rangeAt g o (arrV F).toList := fun j u hu => h.2.2.2.2.2.2 _ rfl j u (by simpa using hu)
/-- Of a byte so many bytes for a packet. -/
theorem size23 {sz : Int} (h : 0 ≤ sz ∧ sz ≤ 255) : ∃ m : Nat, sz.tmod 23 = m ∧ m ≤ 22 := by
  have h1 := Int.tmod_lt_of_pos sz (show (0 : Int) < 23 by decide)
  have h2 := Int.tmod_nonneg (a := sz) 23 h.1
  exact ⟨(sz.tmod 23).toNat, by omega, by omega⟩
/-- Whatever is encoded of a frame that has 16 bits. -/
theorem Encode_both (e : ESt) (h1 : e.P.length = 16) (h2 : e.L.length = 38) {b : List Int} (hb : S16 b) {m : Nat} (hm : m ≤ 22) (w : World) (hW : BandsW w) :
    ∃ (R : ByteArray) (X : List Int) (f : Int), Len X 55 ∧ (∀ w, BandsW w → Calls Tryz.prog 31 #[.agg (arrV e.l), .agg (arrV b), .int .i64 (10 + (m : Int))] w fun r w' => r = .returned (.tuple #[.string R, .agg (arrV X), .int .i64 f]) ∧ Below w.heap.size w w') ∧
      ((e.Ok ∧ f = 0 ∧ R = packE (10 + m) e b ∧ X = (nextE (10 + m) e b).l) ∨ (rightN e.P e.last e.L = false ∧ f = 1 ∧ R = ⟨#[]⟩ ∧ X = zs 55)) := by
  have hc : (((10 + m : Nat)) : Int) = 10 + (m : Int) := by omega
  by_cases hr : rightN e.P e.last e.L = true
  · have he : e.Ok := ⟨h1, h2, hr⟩
    refine ⟨_, _, 0, Len.mk (est_len (nextE_ok (size := 10 + m) (by omega) (by omega) he hb)), fun w hW => ?_, .inl ⟨he, rfl, rfl, rfl⟩⟩
    have h := EncodeE_any (size := 10 + m) (by omega) (by omega) he hb w hW
    rw [hc] at h
    exact h
  · refine ⟨_, _, 1, Len.zs 55, fun w hW => ?_, .inr ⟨by simpa using hr, rfl, rfl, rfl⟩⟩
    exact Encode_arg e.P e.L b e.last h1 h2 hb.1 (10 + (m : Int)) (by omega) (by omega) (fun h => hr h.1) w
theorem Frames_sl (l : List (List Int)) {n : Nat} (hn : (frames l).length = n) (p : Option Addr) (cap : Nat) (w : World) (hE : SixIn w p cap l) :
    Calls Tryz.prog 12 #[.slice p l.length cap] w fun e w' => ∃ p2 c2 lo hi, e = .returned (.slice p2 n c2) ∧ SL w' lo hi 16 p2 n c2 ((frames l).flatMap intsV) ∧ w.heap.size ≤ lo ∧ hi ≤ w'.heap.size ∧ Below w.heap.size w w' := by
  subst hn
  refine (Frames_any l p cap w hE).mono ?_
  rintro e w2 ⟨v, rfl, hv, hb⟩
  obtain ⟨p2, c2, rfl, hs⟩ := hv.sl
  exact ⟨p2, c2, _, _, rfl, hs, Nat.le_refl _, Nat.le_refl _, hb⟩
theorem Frames_one (b : List Int) (p : Option Addr) (cap : Nat) (w : World) (hE : SixIn w p cap [b]) :
    Calls Tryz.prog 12 #[.slice p 1 cap] w fun e w' => ∃ g o c lo hi, e = .returned (.slice (some ⟨g, o, none⟩) 1 c) ∧ SL w' lo hi 16 (some ⟨g, o, none⟩) 1 c (intsV (frame b)) ∧ w.heap.size ≤ lo ∧ hi ≤ w'.heap.size ∧ Below w.heap.size w w' := by
  refine (Frames_sl [b] (n := 1) rfl p cap w hE).mono ?_
  rintro e w2 ⟨p2, c2, lo, hi, rfl, hs, h1, h2, hb⟩
  obtain ⟨g, o, rfl, -, -, -⟩ := hs.form (by omega)
  exact ⟨g, o, c2, lo, hi, rfl, by simpa [frames_one] using hs, h1, h2, hb⟩
end Go.Proofs.YtkoljgmapclhkaaGreatDoor
