/- The walks of rec.Right, model.New, Left, Running, Frozen, Entries. -/
import Derived.Test.YtkoljgmapclhkaaGreatDoorModE
import Derived.Test.YtkoljgmapclhkaaGreatDoorSpecMod2
set_option linter.unusedSimpArgs false
set_option linter.unusedVariables false
namespace Go.Proofs.YtkoljgmapclhkaaGreatDoor
open Go.RowKit

def everyP (n : Int) : Bool := decide (1 ≤ n) && decide (n ≤ 1000)
def rightP (sz sy ck : Int) : Bool := decide (10 ≤ sz) && decide (sz ≤ 32) && everyP sy && everyP ck
theorem every_any25 (n : Int) (w : World) : Calls Tryz.prog 73 #[.int .i64 n] w fun r w' => r = .returned (.bool (everyP n)) ∧ w = w' := by
  unfold everyP
  by_cases h1 : 1 ≤ n
  · by_cases h2 : n ≤ 1000
    · rw [decide_eq_true h1, decide_eq_true h2]
      go_enter Tryz.func73, Tryz.ntmps73
      go_wp2
      go_ret
      exact ⟨rfl, rfl⟩
    · rw [decide_eq_false h2, Bool.and_false]
      go_enter Tryz.func73, Tryz.ntmps73
      go_wp2
      go_ret
      exact ⟨rfl, rfl⟩
  · rw [decide_eq_false h1, Bool.false_and]
    go_enter Tryz.func73, Tryz.ntmps73
    go_wp2
    go_ret
    exact ⟨rfl, rfl⟩
theorem w_Policy : Whole 41 3 := ⟨_, Tryz.underlying41, rfl, by kernel_rfl⟩
set_option maxRecDepth 100000 in
set_option maxHeartbeats 2000000 in
theorem PRight_any (sz sy ck : Int) (w : World) : Calls Tryz.prog 36 #[.agg #[.int .i64 sz, .int .i64 sy, .int .i64 ck]] w fun r w' => r = .returned (.bool (rightP sz sy ck)) ∧ Below w.heap.size w w' := by
  have hy := fun w => every_any25 sy w
  have hc := fun w => every_any25 ck w
  unfold rightP
  obtain ⟨Y, hY⟩ : ∃ Y, everyP sy = Y := ⟨_, rfl⟩
  obtain ⟨C, hC⟩ : ∃ C, everyP ck = C := ⟨_, rfl⟩
  simp only [hY, hC] at hy hc ⊢
  have HY := Lib.hid hy
  have HC := Lib.hid hc
  clear hY hC hy hc
  obtain ⟨B, hB⟩ : ∃ B, w.heap.size = B := ⟨_, rfl⟩
  have hfar := Below.refl B w
  have hsz : B ≤ w.heap.size := by omega
  obtain ⟨R, hR⟩ : ∃ R, (decide (10 ≤ sz) && decide (sz ≤ 32) && Y && C) = R := ⟨_, rfl⟩
  rw [hR]
  have HR := Lib.hid hR
  clear hR
  go_enter Tryz.func36, Tryz.ntmps36
  go_upto_region 1 with (fail)
  refine wp_gen (fun W => Blk W (B) (#[.int .i64 sz, .int .i64 sy, .int .i64 ck]) 41 ∧ Below (B) w W ∧ B + 1 ≤ W.heap.size) ⟨bk_, bl_, sz_⟩ ?_
  clear hfar hsz
  rintro w1 ⟨hA, hfar, hsz⟩
  have d0 := hA.cell 0
  have d1 := hA.cell 1
  have d2 := hA.cell 2
  simp only [List.getElem?_toArray, List.getElem?_cons_zero, List.getElem?_cons_succ] at d0 d1 d2
  by_cases h1 : 10 ≤ sz
  · by_cases h2 : sz ≤ 32
    · cases Y with
      | false =>
        obtain rfl : R = false := by rw [← HR.out]; simp
        go_wp2_with fail
        refine (HY.out _).mono ?_
        rintro e w2 ⟨rfl, rfl⟩
        go_wp2_with fail
        go_ret
        exact ⟨rfl, (by (try rw [hB]); exact bl_)⟩
      | true =>
        obtain rfl : R = C := by rw [← HR.out]; simp [h1, h2]
        go_wp2_with fail
        refine (HY.out _).mono ?_
        rintro e w2 ⟨rfl, rfl⟩
        go_wp2_with fail
        refine (HC.out _).mono ?_
        rintro e w2 ⟨rfl, rfl⟩
        go_wp2_with fail
        go_ret
        exact ⟨rfl, (by (try rw [hB]); exact bl_)⟩
    · obtain rfl : R = false := by rw [← HR.out]; simp [h2]
      go_wp2_with fail
      go_ret
      exact ⟨rfl, (by (try rw [hB]); exact bl_)⟩
  · obtain rfl : R = false := by rw [← HR.out]; simp [h1]
    go_wp2_with fail
    go_ret
    exact ⟨rfl, (by (try rw [hB]); exact bl_)⟩
def rightG (pages : Int) : Bool := decide (32 ≤ pages) && decide (pages ≤ 1024) && decide (pages.tmod 16 = 0)
set_option maxRecDepth 100000 in
theorem mod_built (pages : Nat) (sz sy ck : Int) : Tryz.prog.built 83 [(0, .agg #[.int .i64 sz, .int .i64 sy, .int .i64 ck]), (1, .int .i64 pages), (11, .int .i64 (-1))] = some (modA (newM pages sz sy ck) (.slice none 0 0)) := by kernel_rfl
set_option maxRecDepth 100000 in
set_option maxHeartbeats 4000000 in
theorem New_right (pages : Nat) (sz sy ck : Int) (hg : rightG pages = true) (hp : rightP sz sy ck = true) (w : World) : Calls Tryz.prog 14 #[.int .i64 pages, .agg #[.int .i64 sz, .int .i64 sy, .int .i64 ck]] w fun r w' => ∃ g, r = .returned (.tuple #[.pointer (some ⟨g, 0, none⟩), .int .i64 0]) ∧ w.heap.size ≤ g ∧ MB w' g (newM pages sz sy ck) (.slice none 0 0) ∧ Below w.heap.size w w' := by
  have hr := fun w => PRight_any sz sy ck w
  rw [hp] at hr
  have HRT := Lib.hid hr
  unfold rightG at hg
  simp only [Bool.and_eq_true, decide_eq_true_eq] at hg
  obtain ⟨⟨g1, g2⟩, g3⟩ := hg
  clear hr hp
  obtain ⟨B, hB⟩ : ∃ B, w.heap.size = B := ⟨_, rfl⟩
  have hfar := Below.refl B w
  have hsz : B ≤ w.heap.size := by omega
  go_enter Tryz.func14, Tryz.ntmps14
  go_upto_region 1 with (fail)
  refine wp_gen (fun W => Blk W (B) (#[.int .i64 sz, .int .i64 sy, .int .i64 ck]) 41 ∧ Below (B) w W ∧ B + 1 ≤ W.heap.size) ⟨bk_, bl_, sz_⟩ ?_
  clear hfar hsz
  rintro w1 ⟨hA, hfar, hsz⟩
  go_wp2_with (refine ld 41 rfl (by rfl) w_Policy rfl bk_ (by rfl) ?_)
  refine (HRT.out _).mono ?_
  rintro e w2 ⟨rfl, hb2⟩
  replace hA := hA.newB hb2
  replace hfar := hfar.trans (hb2.mono (by omega))
  replace hsz := Nat.le_trans hsz hb2.size
  obtain ⟨C, hC⟩ : ∃ C, w2.heap.size = C := ⟨_, rfl⟩
  have hBC : B + 1 ≤ C := by omega
  go_wp2_with (first | (refine ld 41 rfl (by rfl) w_Policy rfl bk_ (by rfl) ?_) | (refine bd 83 rfl (by rfl) rfl (mod_built _ _ _ _) ?_))
  go_ret2
  exact ⟨C, rfl, by omega, ⟨Blk.newAt hC.symm, World.ownsRow_nil _ _ _ _, Len.out (Len.zs 38), e0_len⟩, (by (try rw [hB]); exact bl_)⟩
end Go.Proofs.YtkoljgmapclhkaaGreatDoor
