/- The walk of spoollaw25.ModelRefuses: whatever comes in, it returns true. -/
import Derived.Test.YtkoljgmapclhkaaGreatDoorLaw25a
set_option linter.unusedSimpArgs false
set_option linter.unusedVariables false
namespace Go.Proofs.YtkoljgmapclhkaaGreatDoor
open Go.RowKit

theorem RG_any (x : Int) (w : World) : Calls Tryz.prog 20 #[.int .i64 x] w fun r w' => r = .returned (.bool (rightG x)) ∧ w = w' := by
  unfold rightG
  by_cases h1 : 32 ≤ x
  · have e : x.tmod 16 = x % 16 := Int.tmod_eq_emod_of_nonneg (by omega)
    by_cases h2 : x ≤ 1024
    · rw [decide_eq_true h1, decide_eq_true h2, e]
      clear e
      go_enter Tryz.func20, Tryz.ntmps20
      go_wp2
      go_ret
      exact ⟨retBool (by rw [Bool.eq_iff_iff]; simp), rfl⟩
    · rw [decide_eq_true h1, decide_eq_false h2]
      clear e
      go_enter Tryz.func20, Tryz.ntmps20
      go_wp2
      go_ret
      exact ⟨rfl, rfl⟩
  · rw [decide_eq_false h1]
    go_enter Tryz.func20, Tryz.ntmps20
    go_wp2
    go_ret
    exact ⟨rfl, rfl⟩
theorem RP_any (a b c : Int) (w : World) : Calls Tryz.prog 21 #[.int .i64 a, .int .i64 b, .int .i64 c] w fun r w' => r = .returned (.bool (rightP a b c)) ∧ w = w' := by
  unfold rightP everyP
  by_cases h1 : 10 ≤ a
  · by_cases h2 : a ≤ 32
    · by_cases h3 : 1 ≤ b
      · by_cases h4 : b ≤ 1000
        · by_cases h5 : 1 ≤ c
          · rw [decide_eq_true h1, decide_eq_true h2, decide_eq_true h3, decide_eq_true h4, decide_eq_true h5]
            go_enter Tryz.func21, Tryz.ntmps21
            go_wp2
            go_ret
            exact ⟨retBool (by simp), rfl⟩
          all_goals
            simp only [h1, h2, h3, h4, h5, decide_true, decide_false, Bool.and_true, Bool.and_false, Bool.false_and]
            go_enter Tryz.func21, Tryz.ntmps21
            go_wp2
            go_ret
            exact ⟨rfl, rfl⟩
        all_goals
          simp only [h1, h2, h3, h4, decide_true, decide_false, Bool.and_true, Bool.and_false, Bool.false_and]
          go_enter Tryz.func21, Tryz.ntmps21
          go_wp2
          go_ret
          exact ⟨rfl, rfl⟩
      all_goals
        simp only [h1, h2, h3, decide_true, decide_false, Bool.and_true, Bool.and_false, Bool.false_and]
        go_enter Tryz.func21, Tryz.ntmps21
        go_wp2
        go_ret
        exact ⟨rfl, rfl⟩
    all_goals
      simp only [h1, h2, decide_true, decide_false, Bool.and_true, Bool.and_false, Bool.false_and]
      go_enter Tryz.func21, Tryz.ntmps21
      go_wp2
      go_ret
      exact ⟨rfl, rfl⟩
  all_goals
    simp only [h1, decide_false, Bool.and_true, Bool.and_false, Bool.false_and]
    go_enter Tryz.func21, Tryz.ntmps21
    go_wp2
    go_ret
    exact ⟨rfl, rfl⟩
theorem new_acts {pn : Nat} {sz sy ck d : Int} : ∃ N E O, doM (newM pn sz sy ck) ⟨d, [], 0⟩ = (N, E, O) ∧ (d = 0 → E = 0 ∧ N.run = true) ∧ (3 ≤ d ∧ d ≤ 5 → E = 8) ∧ (¬ (0 ≤ d ∧ d ≤ 8) → E = 1) := by
  refine ⟨(doM (newM pn sz sy ck) ⟨d, [], 0⟩).1, (doM (newM pn sz sy ck) ⟨d, [], 0⟩).2.1, (doM (newM pn sz sy ck) ⟨d, [], 0⟩).2.2, rfl, fun h => ?_, fun h => ?_, fun h => ?_⟩
  · subst h; exact ⟨rfl, rfl⟩
  · rcases (show d = 3 ∨ d = 4 ∨ d = 5 by omega) with rfl | rfl | rfl <;> rfl
  · rw [act_none (a := ⟨d, [], 0⟩) (fun i hi e => h (by have e' : d = i := e; omega))]
set_option maxRecDepth 100000 in
theorem fld_0 (e : Int) (s : Value) (w : World) : (Instr.field 46 (.agg #[.int .i64 e, s]) 0).run Tryz.prog w = .ok (.int .i64 e) w := by kernel_rfl
set_option maxRecDepth 100000 in
set_option maxHeartbeats 16000000 in
theorem MRefuses_any (pages sz sy ck d : Int) (hd : -9223372036854775808 ≤ d ∧ d ≤ 9223372036854775807) (w : World) (hW : BandsW w) :
    Calls Tryz.prog 5 #[.int .i64 pages, .int .i64 sz, .int .i64 sy, .int .i64 ck, .int .i64 d] w fun r w' => r = .returned (.bool true) ∧ Below w.heap.size w w' := by
  have hBW : Blk w 0 bandC 164 := hW
  have hB0 := hW.lt
  have hfd := fld_0
  have hrg := fun w => RG_any pages w
  have hrp := fun w => RP_any sz sy ck w
  obtain ⟨G, hG⟩ : ∃ G, rightG pages = G := ⟨_, rfl⟩
  obtain ⟨P, hP⟩ : ∃ P, rightP sz sy ck = P := ⟨_, rfl⟩
  simp only [hG] at hrg
  simp only [hP] at hrp
  have HRG := Lib.hid hrg
  have HRP := Lib.hid hrp
  clear hrg hrp hW
  obtain ⟨B, hB⟩ : ∃ B, w.heap.size = B := ⟨_, rfl⟩
  rw [hB] at hB0
  have hfar := Below.refl B w
  have hsz : B ≤ w.heap.size := by omega
  have hand : (G && P) = true ∨ (P = false ∨ G = false) := by cases G <;> cases P <;> simp
  rcases hand with hgp | hgp
  case inr =>
    have hnew := fun w => New_wrong pages sz sy ck (by rw [hP, hG]; exact hgp) w
    have HNEW := Lib.hid hnew
    have HGP := Lib.hid hgp
    clear hnew hP hG hgp
    go_enter Tryz.func5, Tryz.ntmps5
    go_wp2_with fail
    refine (awake25_any _ hBW).mono ?_
    rintro e w1 ⟨rfl, hb1⟩
    replace hBW := hBW.newB hb1
    replace hfar := hfar.trans (hb1.mono (by omega))
    replace hsz := Nat.le_trans hsz hb1.size
    go_wp2_with (refine bd 41 rfl (by rfl) rfl (pol_built _ _ _) ?_)
    refine (HNEW.out _).mono ?_
    rintro e w2 ⟨rfl, hb2⟩
    replace hBW := hBW.newB hb2
    replace hfar := hfar.trans (hb2.mono (by omega))
    replace hsz := Nat.le_trans hsz hb2.size
    go_wp2_with fail
    refine (HRG.out _).mono ?_
    rintro e w3 ⟨rfl, rfl⟩
    cases G with
    | false =>
      go_wp2_with (refine bd 50 rfl (by rfl) rfl mact_0 ?_)
      refine (Do_nil rfl _).mono ?_
      rintro e w4 ⟨rfl, hb4⟩
      replace hBW := hBW.newB hb4
      replace hfar := hfar.trans (hb4.mono (by omega))
      replace hsz := Nat.le_trans hsz hb4.size
      go_wp2_with fail
      refine (MEntries_nil _).mono ?_
      rintro e w5 ⟨rfl, rfl⟩
      go_wp2_with fail
      refine (Left_nil _).mono ?_
      rintro e w5 ⟨rfl, rfl⟩
      go_wp2_with fail
      refine (Running_nil _).mono ?_
      rintro e w5 ⟨rfl, rfl⟩
      go_wp2_with fail
      refine (Frozen_nil _).mono ?_
      rintro e w5 ⟨rfl, rfl⟩
      go_wp2_with fail
      go_ret
      exact ⟨rfl, (by (try rw [hB]); exact bl_)⟩
    | true =>
      obtain rfl : P = false := by rcases HGP.out with h | h <;> first | exact h | cases h
      go_wp2_with fail
      refine (HRP.out _).mono ?_
      rintro e w3 ⟨rfl, rfl⟩
      go_wp2_with (refine bd 50 rfl (by rfl) rfl mact_0 ?_)
      refine (Do_nil rfl _).mono ?_
      rintro e w4 ⟨rfl, hb4⟩
      replace hBW := hBW.newB hb4
      replace hfar := hfar.trans (hb4.mono (by omega))
      replace hsz := Nat.le_trans hsz hb4.size
      go_wp2_with fail
      refine (MEntries_nil _).mono ?_
      rintro e w5 ⟨rfl, rfl⟩
      go_wp2_with fail
      refine (Left_nil _).mono ?_
      rintro e w5 ⟨rfl, rfl⟩
      go_wp2_with fail
      refine (Running_nil _).mono ?_
      rintro e w5 ⟨rfl, rfl⟩
      go_wp2_with fail
      refine (Frozen_nil _).mono ?_
      rintro e w5 ⟨rfl, rfl⟩
      go_wp2_with fail
      go_ret
      exact ⟨rfl, (by (try rw [hB]); exact bl_)⟩
  case inl =>
    obtain ⟨rfl, rfl⟩ : G = true ∧ P = true := by simpa using hgp
    have hG2 := hG
    have hP2 := hP
    unfold rightG at hG2
    unfold rightP everyP at hP2
    simp only [Bool.and_eq_true, decide_eq_true_eq] at hG2 hP2
    obtain ⟨pn, rfl⟩ : ∃ pn : Nat, pages = pn := ⟨pages.toNat, by omega⟩
    have hnew := fun w => New_right pn sz sy ck hG hP w
    have hOk := newM_ok (pages := pn) (sz := sz) (sy := sy) (ck := ck) (by omega) hP2.1.1 hP2.1.2 hP2.2
    obtain ⟨N, E, OO, hdo, he0, he3, he1⟩ := @new_acts pn sz sy ck d
    obtain ⟨M0, hM0⟩ : ∃ M, newM pn sz sy ck = M := ⟨_, rfl⟩
    simp only [hM0] at hnew hOk hdo
    have hDo : ∀ w g v, MB w g M0 v → BandsW w → Calls Tryz.prog 15 #[.pointer (some ⟨g, 0, none⟩), .agg (actV ⟨d, [], 0⟩ none 0)] w (RetD w g v (N, E, OO)) := fun w g v h hW => by
      have := Do_any h hOk (by omega) (by omega) hW (a := ⟨d, [], 0⟩) (p := none) (cap := 0) (FrIn.nil _ _ _ _ (by omega)) (by show 0 ≤ 1000000; omega) hd
      rw [hdo] at this; exact this
    have HNEW := Lib.hid hnew
    have HDO := Lib.hid hDo
    have HE0 := Lib.hid he0
    have HE3 := Lib.hid he3
    have HE1 := Lib.hid he1
    clear hnew hDo hG hP hG2 hP2 hgp hM0 hOk hdo he0 he3 he1
    go_enter Tryz.func5, Tryz.ntmps5
    go_wp2_with fail
    refine (awake25_any _ hBW).mono ?_
    rintro e w1 ⟨rfl, hb1⟩
    replace hBW := hBW.newB hb1
    replace hfar := hfar.trans (hb1.mono (by omega))
    replace hsz := Nat.le_trans hsz hb1.size
    go_wp2_with (refine bd 41 rfl (by rfl) rfl (pol_built _ _ _) ?_)
    refine (HNEW.out _).mono ?_
    rintro e w2 ⟨g, rfl, hg, h, hb2⟩
    replace hBW := hBW.newB hb2
    replace hfar := hfar.trans (hb2.mono (by omega))
    replace hsz := Nat.le_trans hsz hb2.size
    have hs1 := hb1.size
    have hgB : B ≤ g := by omega
    go_wp2_with fail
    refine (HRG.out _).mono ?_
    rintro e w3 ⟨rfl, rfl⟩
    go_wp2_with fail
    refine (HRP.out _).mono ?_
    rintro e w3 ⟨rfl, rfl⟩
    go_wp2_with (refine bd 50 rfl (by rfl) rfl mact_0 ?_)
    refine (Do_nil rfl _).mono ?_
    rintro e w4 ⟨rfl, hb4⟩
    replace hBW := hBW.newB hb4
    replace h := h.newB hb4
    replace hfar := hfar.trans (hb4.mono (by omega))
    replace hsz := Nat.le_trans hsz hb4.size
    go_wp2_with fail
    refine (MEntries_nil _).mono ?_
    rintro e w5 ⟨rfl, rfl⟩
    go_wp2_with fail
    refine (Left_nil _).mono ?_
    rintro e w5 ⟨rfl, rfl⟩
    go_wp2_with fail
    refine (Running_nil _).mono ?_
    rintro e w5 ⟨rfl, rfl⟩
    go_wp2_with fail
    refine (Frozen_nil _).mono ?_
    rintro e w5 ⟨rfl, rfl⟩
    go_wp2_with (refine bd 50 rfl (by rfl) rfl (mact_d _) ?_)
    refine (HDO.out _ _ _ h hBW).mono ?_
    rintro e w6 ⟨v6, q, n, cp, lo, hi, rfl, hn, hs, hlo, h6, ht6⟩
    dsimp only at h6
    have hfar6 : Below B w w6 := hfar.trans (ht6.below h hgB)
    obtain ⟨F, hF⟩ : ∃ F, w6.heap.size = F := ⟨_, rfl⟩
    have HVB : VB v6 F := h6.vb hF
    have hgF := h6.lt
    rw [hF] at hgF
    have hsz6 : F ≤ w6.heap.size := by omega
    clear hBW h hfar hsz ht6 hs hlo hn HDO HNEW
    have h := h6
    have hfar := hfar6
    have hsz := hsz6
    clear h6 hfar6 hsz6
    go_upto_region 13 with (refine st 46 rfl (by rfl) w_Reply rfl rfl bk_ zz_ zz_ one_ ?_)
    refine wp_gen (fun W => MB W (g) (N) (v6) ∧ Blk W (F) (#[.int .i64 E, .slice q n cp]) 46 ∧ Below (B) w W ∧ F + 1 ≤ W.heap.size) ⟨mb_, bk_, bl_, sz_⟩ ?_
    clear h hfar hsz
    rintro w7 ⟨h, hP, hfar, hsz⟩
    have p0 := hP.cell 0
    simp only [List.getElem?_toArray, List.getElem?_cons_zero] at p0
    by_cases d0 : d = 0
    · obtain ⟨rfl, hrun⟩ := HE0.out d0
      subst d0
      have hR := Running_any h
      rw [hrun] at hR
      have HR := Lib.hid hR
      clear hR
      go_wp2_with fail
      refine HR.out.mono ?_
      rintro e w8 ⟨rfl, rfl⟩
      go_wp2_with fail
      go_ret
      exact ⟨rfl, (by (try rw [hB]); exact bl_)⟩
    · by_cases hk : 0 ≤ d ∧ d ≤ 8
      · obtain ⟨hk1, hk2⟩ := hk
        by_cases d3 : d < 3
        · go_wp2_with fail
          go_ret
          exact ⟨rfl, (by (try rw [hB]); exact bl_)⟩
        · by_cases d5 : 5 < d
          · go_wp2_with fail
            go_ret
            exact ⟨rfl, (by (try rw [hB]); exact bl_)⟩
          · obtain rfl := HE3.out ⟨by omega, by omega⟩
            go_wp2_with fail
            go_ret
            exact ⟨rfl, (by (try rw [hB]); exact bl_)⟩
      · obtain rfl := HE1.out hk
        by_cases dn : 0 ≤ d
        · have d8 : ¬ d ≤ 8 := fun e => hk ⟨dn, e⟩
          clear hk
          have d5 : 5 < d := by omega
          have d3 : ¬ d < 3 := by omega
          go_wp2_with fail
          go_ret
          exact ⟨rfl, (by (try rw [hB]); exact bl_)⟩
        · clear hk
          have d3 : d < 3 := by omega
          go_wp2_with fail
          go_ret
          exact ⟨rfl, (by (try rw [hB]); exact bl_)⟩
end Go.Proofs.YtkoljgmapclhkaaGreatDoor
