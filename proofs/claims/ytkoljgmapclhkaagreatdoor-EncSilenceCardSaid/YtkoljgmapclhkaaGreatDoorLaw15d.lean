/- The walk of spoollaw15.EncDecodes: whatever comes in, it returns true. -/
import Derived.Test.YtkoljgmapclhkaaGreatDoorLaw15c
set_option linter.unusedSimpArgs false
set_option linter.unusedVariables false
namespace Go.Proofs.YtkoljgmapclhkaaGreatDoor
open Go.RowKit

/-- A string of a slice of strings. -/
theorem SL.str {W : World} {lo hi g o n c : Nat} {ps : List ByteArray} (h : SL W lo hi 1 (some ⟨g, o, none⟩) n c (strsV ps)) {i : Nat} {P : ByteArray} (hp : ps[i]? = some P) : W.cell? ⟨g, o + i, none⟩ = some (.string P) :=
  h.2.2.2.2.2.2 _ rfl i _ (by unfold strsV; rw [List.getElem?_map, hp]; rfl)
/-- What All answers, of a slice that is read. -/
theorem All_sl {m : Nat} (hm : m ≤ 22) {l : List (List Int)} {n : Nat} (hn : l.length = n) (hl : n ≤ 1000) (hS : ∀ b ∈ l, S16 b) (p : Option Addr) (lo hi cap : Nat) (w : World) (hW : BandsW w) (hB : SL w lo hi 16 p n cap (l.flatMap intsV)) :
    Calls Tryz.prog 10 #[.slice p n cap, .int .i64 (10 + (m : Int))] w fun e w' => ∃ p2 c2 lo2 hi2, e = .returned (.tuple #[.slice p2 n c2, .agg (arrV (allE (10 + m) e0 l).2.l), .int .i64 0]) ∧ SL w' lo2 hi2 1 p2 n c2 (strsV (allE (10 + m) e0 l).1) ∧ w.heap.size ≤ lo2 ∧ hi2 ≤ w'.heap.size ∧ Below w.heap.size w w' := by
  subst hn
  have hc : (((10 + m : Nat)) : Int) = 10 + (m : Int) := by omega
  have h := All_any (size := 10 + m) (by omega) (by omega) l hl hS p lo hi cap w hW hB
  rw [hc] at h
  refine h.mono ?_
  rintro e w2 ⟨v, rfl, hv, hb⟩
  obtain ⟨p2, c2, rfl, hs⟩ := hv.sl
  have hln := (allE_ok (size := 10 + m) (by omega) (by omega) l e0 e0_ok hS).2.1
  rw [hln] at hs ⊢
  exact ⟨p2, c2, _, _, rfl, hs, Nat.le_refl _, Nat.le_refl _, hb⟩
/-- One packet of All, decoded. -/
theorem dec_step {size : Nat} (h0 : 10 ≤ size) (h1 : size ≤ 32) {l : List (List Int)} (hS : ∀ b ∈ l, S16 b) {i : Nat} (hi : i < l.length) :
    ∃ (P : ByteArray) (O : List Int), (allE size e0 l).1[i]? = some P ∧ P.size = size ∧ Len O 16 ∧ Len (allE size e0 (l.take i)).2.L 38 ∧ Len (allE size e0 (l.take (i + 1))).2.L 38 ∧
      (∀ w, BandsW w → Calls Tryz.prog 11 #[.agg (arrV (allE size e0 (l.take i)).2.L), .string P] w fun e w' => e = .returned (.tuple #[.agg (arrV O), .agg (arrV (allE size e0 (l.take (i + 1))).2.L), .int .i64 0]) ∧ Below w.heap.size w w') ∧
      ∀ b, l[i]? = some b → O = outE size (allE size e0 (l.take i)).2 b := by
  obtain ⟨b, hb⟩ : ∃ b, l[i]? = some b := ⟨_, List.getElem?_eq_getElem hi⟩
  have hok : ∀ k, (allE size e0 (l.take k)).2.Ok := fun k => (allE_ok h0 h1 (l.take k) e0 e0_ok (fun b hb => hS b (List.mem_of_mem_take hb))).1
  obtain ⟨g1, g2⟩ := allE_get (size := size) l e0 i b hb
  have hg := packE_good h0 h1 (hok i) b
  have hps := packE_size h0 (hok i) b
  have hd := dec_good (allE size e0 (l.take i)).2.L (packE size (allE size e0 (l.take i)).2 b) (by rw [hps]; exact ⟨h0, h1⟩) (right_st (hok i))
  refine ⟨_, _, g1, hps, Len.mk hd.2.1, Len.mk (hok i).2.1, Len.mk (hok (i + 1)).2.1, fun w hW => ?_, fun b' hb' => ?_⟩
  · have h := Decode_any (allE size e0 (l.take i)).2.L (hok i).2.1 (packE size (allE size e0 (l.take i)).2 b) w hW
    rw [hg, ← nextE_L, ← g2] at h
    exact h
  · rw [hb] at hb'; cases hb'; rfl
end Go.Proofs.YtkoljgmapclhkaaGreatDoor
