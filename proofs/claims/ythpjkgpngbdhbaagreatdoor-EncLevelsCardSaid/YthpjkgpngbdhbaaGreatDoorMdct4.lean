/- The walks of slices.Grow and slices.Concat of numbers. -/
import Derived.Test.YthpjkgpngbdhbaaGreatDoorTilt3
import Derived.Test.YthpjkgpngbdhbaaGreatDoorLevel
import Derived.Lib.AppendZerosOnto
import Derived.Lib.Walk
import Derived.Lib.SliceRun
set_option linter.unusedSimpArgs false
set_option linter.unusedVariables false
namespace Go.Proofs.YthpjkgpngbdhbaaGreatDoor
open Go.RowKit

theorem info_int : (Tryz.prog.info? 3).map (fun i => (i.zero, i.size, i.bytes)) = some (some (.int .i64 0), 1, 8) := by kernel_rfl
set_option maxRecDepth 100000 in
set_option maxHeartbeats 1600000 in
theorem Grow_any (n : Nat) (h1 : 1 ≤ n) (h2 : n ≤ 1000) (w : World) : Calls Tryz.prog 96 #[.slice none 0 0, .int .i64 n] w fun e w' => ∃ v, e = .returned v ∧ OW w' w.heap.size w'.heap.size 3 1 v 0 [] ∧ Below w.heap.size w w' := by
  obtain ⟨i0, hi, hz0, hz1, hz2⟩ := info_parts info_int
  have hold : (Builtin.firstCells i0.size 0 (.slice none 0 0)).run Tryz.prog w.drew = .ok #[] w.drew := run_firstCells_none w.drew i0.size 0 0 0
  have hrz : ∀ ty, (Builtin.append_ #[62, 3] ty #[.slice none 0 0, .int .i64 (n : Int)]).run Tryz.prog w =
      .ok (.slice (some ⟨w.heap.size, 0, none⟩) n (grownCap w (0 + n) 0 3)) (w.drew.alloc (.cells (([] : List Value).toArray ++ Builtin.zeroCells (Value.int .i64 0).cells n ++ Builtin.zeroCells (Value.int .i64 0).cells (grownCap w (0 + n) 0 3 - (0 + n))) 3)) := fun ty => by
    have h := Lib.run_append_grow_zeros w 62 3 ty 3 i0 (.int .i64 0) .i64 .i64 Tryz.underlying62 Tryz.underlying3 hi hz0 none 0 0 [] hold n (by omega) (by omega) (by omega) (by omega) (by rw [hz2]; omega) (by rw [hz2]; exact growslice_fits (by omega) (by omega))
    rw [Nat.zero_add] at h ⊢
    exact h
  have hG1 := grownCap_ge w (0 + n) 0 3
  have hG2 := grownCap_le_maxLen w (0 + n) 0 3 (by unfold maxLen; omega)
  obtain ⟨G, hG⟩ : ∃ G, grownCap w (0 + n) 0 3 = G := ⟨_, rfl⟩
  rw [hG] at hG1 hG2
  simp only [hG] at hrz
  unfold maxLen at hG2
  have hn0 : (0 : Int) < n := by omega
  clear hold hG
  go_enter Tryz.func96, Tryz.ntmps96
  go_wp2_with (at_builtin; refine Lib.wpList_append_run _ rfl _ _ _ _ rfl _ _ rfl rfl _ _ (hrz _) ?_)
  go_ret
  refine ⟨_, rfl, ⟨⟨rfl, .inr ⟨w.heap.size, G, _, rfl, Nat.le_refl _, Blk.new w _ _, by omega, by unfold maxLen; omega, ?_, rfl⟩⟩, fun k hk => ?_, Nat.le_refl _⟩, ((Below.refl _ _).alloc (Nat.le_refl _) _).drew⟩
  · simp [size_zeroCells, Value.cells]; omega
  · simp [Value.ownBlock] at hk; simp; omega
set_option maxRecDepth 100000 in
set_option maxHeartbeats 4000000 in
theorem Concat_any (a b : List Int) (ha : a.length = 16) (hb : b.length = 16) (bs lo hi : Nat) (pa pb : Option Addr) (ca cb : Nat) (w : World) (hS : Blk w bs #[.slice pa 16 ca, .slice pb 16 cb] 62) (hA : SL w lo hi 1 pa 16 ca (intsV a)) (hBb : SL w lo hi 1 pb 16 cb (intsV b)) (hbs : bs < w.heap.size) :
    Calls Tryz.prog 55 #[.slice (some ⟨bs, 0, none⟩) 2 2] w fun e w' => ∃ v, e = .returned v ∧ OW w' w.heap.size w'.heap.size 3 1 v 32 (intsV (a ++ b)) ∧ Below w.heap.size w w' := by
  obtain ⟨i0, hi0, hz0, hz1, hz2⟩ := info_parts info_int
  have hca := hA.2.1
  have hcb := hBb.2.1
  have hcam := hA.2.2.1
  have hcbm := hBb.2.2.1
  unfold maxLen at hcam hcbm
  have hhi := hA.2.2.2.1
  obtain ⟨B, hB⟩ : ∃ B, w.heap.size = B := ⟨_, rfl⟩
  rw [hB] at hbs hhi ⊢
  have hfar := Below.refl B w
  have c0 := hS.cell 0
  have c1 := hS.cell 1
  simp only [List.getElem?_toArray, List.getElem?_cons_zero, List.getElem?_cons_succ] at c0 c1
  go_enter Tryz.func55, Tryz.ntmps55
  go_wp2_with fail
  go_loopw [3, 11] (fun s i wr => ∃ k : Nat, k ≤ 2 ∧ i = .int .i64 k ∧ s = .int .i64 ((16 * k : Nat) : Int) ∧ w = wr) (fun _ i _ => 2 - (intOf i).toNat)
  case atStart => exact ⟨0, by omega, rfl, rfl, rfl⟩
  case round =>
    obtain ⟨k, hk, rfl, rfl, rfl⟩ := hrel
    have hk3 : k = 0 ∨ k = 1 ∨ k = 2 := by omega
    rcases hk3 with rfl | rfl | rfl
    · go_wp2_with fail
      go_roundw
      case rel => exact ⟨1, by omega, rfl, rfl, by first | rfl | trivial⟩
      case measure => simp [intOf]
    · go_wp2_with fail
      go_roundw
      case rel => exact ⟨2, by omega, rfl, rfl, by first | rfl | trivial⟩
      case measure => simp [intOf]
    · go_wp2_with fail
      refine (Grow_any 32 (by omega) (by omega) _).mono ?_
      rintro e w1 ⟨v1, rfl, hv1, hb1⟩
      rw [hB] at hv1
      have hf1 : Below B w w1 := hfar.trans (hb1.mono (by omega))
      have hA1 := hA.newB hb1
      have hB1 := hBb.newB hb1
      have hS1 := hS.newB hb1
      have hs1 : B ≤ w1.heap.size := by have := hb1.size; omega
      go_wp2_with fail
      go_loopw [6, 27] (fun v i wr => ∃ k : Nat, k ≤ 2 ∧ i = .int .i64 k ∧ OW wr B wr.heap.size 3 1 v (16 * k) (intsV ((a ++ b).take (16 * k))) ∧ Below B w wr ∧ B ≤ wr.heap.size) (fun _ i _ => 2 - (intOf i).toNat)
      case atStart => exact ⟨0, by omega, rfl, hv1, hf1, hs1⟩
      case round =>
        clear hv1 hf1 hA1 hB1 hS1 hs1
        obtain ⟨k, hk, rfl, hR, hf, hs⟩ := hrel
        have hAr := hA.below (hf.mono hhi)
        have hBr := hBb.below (hf.mono hhi)
        have hSr := hS.below hf hbs
        have c0 := hSr.cell 0
        have c1 := hSr.cell 1
        simp only [List.getElem?_toArray, List.getElem?_cons_zero, List.getElem?_cons_succ] at c0 c1
        have hvb : ∀ j, u6.ownBlock = some j → B ≤ j := fun j hj => (World.ownsRow.lt hR.1 j hj).1
        have HVB := Lib.hid hvb
        have hk3 : k = 0 ∨ k = 1 ∨ k = 2 := by omega
        rcases hk3 with rfl | rfl | rfl
        · have ht : (a ++ b).take (16 * 1) = (a ++ b).take (16 * 0) ++ a := by
            rw [Nat.mul_zero, List.take_zero, List.nil_append, Nat.mul_one, ← ha, List.take_left]
          have HT := Lib.hid ht
          clear hvb ht
          go_wp2_with (refine ap 62 rfl (by rfl) rfl B 3 i0 (.int .i64 0) 1 8 Tryz.underlying62 hi0 hz0 hz1 hz2 rfl (by omega) rfl hR.1 rfl hAr (ints_each _) (by unfold maxLen; omega) (by omega) (by omega) ?_; intro v' w3 hown hgr _)
          have hf3 : Below B w w3 := hf.grown hgr (by omega) (fun j hj => HVB.out j hj)
          have hs3 := hgr.size
          go_roundw
          case rel => exact ⟨1, by omega, rfl, by rw [HT.out]; unfold intsV; rw [List.map_append]; exact OW.mk0 hown, hf3, by omega⟩
          case measure => simp [intOf]
        · have ht : (a ++ b).take (16 * 2) = (a ++ b).take (16 * 1) ++ b := by
            rw [Nat.mul_one, List.take_of_length_le (by rw [List.length_append]; omega), ← ha, List.take_left]
          have HT := Lib.hid ht
          clear hvb ht
          go_wp2_with (refine ap 62 rfl (by rfl) rfl B 3 i0 (.int .i64 0) 1 8 Tryz.underlying62 hi0 hz0 hz1 hz2 rfl (by omega) rfl hR.1 rfl hBr (ints_each _) (by unfold maxLen; omega) (by omega) (by omega) ?_; intro v' w3 hown hgr _)
          have hf3 : Below B w w3 := hf.grown hgr (by omega) (fun j hj => HVB.out j hj)
          have hs3 := hgr.size
          go_roundw
          case rel => exact ⟨2, by omega, rfl, by rw [HT.out]; unfold intsV; rw [List.map_append]; exact OW.mk0 hown, hf3, by omega⟩
          case measure => simp [intOf]
        · have ht : (a ++ b).take (16 * 2) = a ++ b := List.take_of_length_le (by rw [List.length_append]; omega)
          rw [ht] at hR
          go_wp2_with fail
          go_ret
          exact ⟨_, rfl, hR, by (try rw [hB]); exact hf⟩
end Go.Proofs.YthpjkgpngbdhbaaGreatDoor
