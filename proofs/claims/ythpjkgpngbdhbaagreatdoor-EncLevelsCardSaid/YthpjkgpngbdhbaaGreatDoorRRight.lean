/- The walks of the document's Held and Right. -/
import Derived.Test.YthpjkgpngbdhbaaGreatDoorLot6
set_option linter.unusedSimpArgs false
set_option linter.unusedVariables false
namespace Go.Proofs.YthpjkgpngbdhbaaGreatDoor
open Go.RowKit

theorem sixteenInfo : (Tryz.prog.info? 22).map (·.size) = some 16 := by kernel_rfl
set_option maxHeartbeats 1600000 in
theorem RHeld_any (l : List Int) (hl : l.length = 16) (w : World) : Calls Tryz.prog 77 #[.agg (arrV l)] w fun e w' => e = .returned (.bool (!l.any wideP)) ∧ Below w.heap.size w w' := by
  have hX := Blk.new w (arrV l) 22
  have hb1 : Below w.heap.size w (w.alloc (.cells (arrV l) 22)) := (Below.refl _ _).alloc (Nat.le_refl _) _
  obtain ⟨B, hB⟩ : ∃ B, w.heap.size = B := ⟨_, rfl⟩
  rw [hB] at hX hb1
  have hyes : ∀ (k : Nat) (x : Int), l[k]? = some x → wideP x = true → l.any wideP = true := fun k x hx h => List.any_eq_true.2 ⟨x, List.mem_of_getElem? hx, h⟩
  have HY := Lib.hid hyes
  clear hyes
  go_enter Tryz.func77, Tryz.ntmps77
  go_upto_region 1 with (fail)
  try simp only [hB]
  generalize (w.alloc (.cells (arrV l) 22)) = w0 at hX hb1 ⊢
  go_wp2_with fail
  go_loop [3] (fun i => ∃ k : Nat, k ≤ 16 ∧ i = .int .i64 k ∧ Hid ((l.take k).any wideP = false)) (fun i => 16 - (intOf i).toNat)
  case atStart => exact ⟨0, by omega, rfl, Lib.hid rfl⟩
  case round =>
    obtain ⟨k, hk, rfl, HA⟩ := hrel
    by_cases hlt : k < 16
    · have hx : l[k]? = some (l.getD k 0) := by rw [List.getD_eq_getElem?_getD, List.getElem?_eq_getElem (by omega)]; rfl
      have c1 := (hX.cell k).trans (arr_get (by rw [hl]; exact hlt))
      obtain ⟨x, hxe⟩ : ∃ x, l.getD k 0 = x := ⟨_, rfl⟩
      rw [hxe] at c1 hx
      have HX := Lib.hid hx
      clear hx hxe
      by_cases h1 : x < -1048576
      · have HNO := Lib.hid (HY.out k x HX.out (by simp [wideP, h1]))
        go_wp2_with fail
        go_ret
        exact ⟨by rw [HNO.out]; rfl, by first | exact hb1 | (rw [hB]; exact hb1)⟩
      by_cases h2 : 1048576 < x
      · have HNO := Lib.hid (HY.out k x HX.out (by simp [wideP, h2]))
        go_wp2_with fail
        go_ret
        exact ⟨by rw [HNO.out]; rfl, by first | exact hb1 | (rw [hB]; exact hb1)⟩
      go_wp2_with fail
      go_round
      case rel => exact ⟨k + 1, hlt, by go_num, Lib.hid (by rw [List.take_add_one, HX.out, Option.toList_some, List.any_append, HA.out]; simp [wideP]; omega)⟩
      case measure => simp [intOf]; omega
    · obtain rfl : k = 16 := by omega
      have h := HA.out
      rw [List.take_of_length_le (by omega)] at h
      go_wp2_with fail
      go_ret
      exact ⟨by first | (rw [h]; rfl) | rfl, by first | exact hb1 | (rw [hB]; exact hb1)⟩
theorem fitP_eq (x : Int) : fitP x = decide (-2147483648 ≤ x ∧ x ≤ 2147483647) := by
  have e : Sp.cut 32 x = max (min x 2147483647) (-2147483648) := rfl
  unfold fitP
  rw [e, Bool.eq_iff_iff, beq_iff_eq, decide_eq_true_eq]
  omega
theorem cut22_eq (x : Int) : (Sp.cut 22 x == x) = decide (-2097152 ≤ x ∧ x < 2097152) := by
  have e : Sp.cut 22 x = max (min x 2097151) (-2097152) := rfl
  rw [e, Bool.eq_iff_iff, beq_iff_eq, decide_eq_true_eq]
  omega
theorem mem_at {L : List Int} (h : Len L 38) {k : Nat} (hk : k < 16) : (memL L)[k]? = some (L.getD k 0) := by
  have hl := h.out
  unfold memL
  rw [List.getElem?_take, if_pos hk, List.getD_eq_getElem?_getD, List.getElem?_eq_getElem (by omega)]; rfl
theorem lev_at {L : List Int} (h : Len L 38) {k : Nat} (hk : k < 4) : (levL L)[k]? = some (L.getD (17 + k) 0) := by
  have hl := h.out
  unfold levL
  rw [List.getElem?_take, if_pos hk, List.getElem?_drop, List.getD_eq_getElem?_getD, List.getElem?_eq_getElem (by omega)]; rfl
theorem all_take_false {l : List Int} {q : Int → Bool} {k : Nat} {x : Int} (h : l[k]? = some x) (hq : q x = false) : l.all q = false := by
  rw [List.all_eq_false]; exact ⟨x, List.mem_of_getElem? h, by simp [hq]⟩
set_option maxRecDepth 100000 in
set_option maxHeartbeats 4000000 in
theorem RRight_any (L : List Int) (hL : L.length = 38) (w : World) : Calls Tryz.prog 29 #[.agg (arrV L)] w fun r w' => r = .returned (.bool (rightS L)) ∧ Below w.heap.size w w' := by
  have LL := Len.mk hL
  obtain ⟨R, hR⟩ : ∃ R, rightS L = R := ⟨_, rfl⟩
  rw [hR]
  have HR := Lib.hid hR
  clear hR hL
  have L16 := LL.mem
  have L4 := LL.lev
  obtain ⟨B, hB⟩ : ∃ B, w.heap.size = B := ⟨_, rfl⟩
  have hfar := Below.refl B w
  have hsz : B ≤ w.heap.size := by omega
  go_enter Tryz.func29, Tryz.ntmps29
  go_upto_region 1 with (fail)
  refine wp_gen (fun W => Blk W (B) (arrV L) 25 ∧ Below (B) w W ∧ B + 1 ≤ W.heap.size) ⟨bk_, bl_, sz_⟩ ?_
  clear hfar hsz
  rintro w1 ⟨hA, hfar, hsz⟩
  go_wp2_with fail
  go_loop [3] (fun i => ∃ k : Nat, k ≤ 16 ∧ i = .int .i64 k ∧ Hid (((memL L).take k).all fitP = true)) (fun i => 16 - (intOf i).toNat)
  case atStart => exact ⟨0, by omega, rfl, Lib.hid (by simp)⟩
  case round =>
    obtain ⟨k, hk, rfl, HM⟩ := hrel
    by_cases hlt : k < 16
    · have hm := mem_at LL hlt
      have c0 := (hA.cell k).trans (arr_get (l := L) (by rw [LL.out]; omega))
      obtain ⟨x, hx⟩ : ∃ x, L.getD k 0 = x := ⟨_, rfl⟩
      rw [hx] at hm c0
      have HX := Lib.hid hm
      have hf := fitP_eq x
      have HF := Lib.hid hf
      clear hm hx hf
      by_cases h1 : x < -2147483648
      · have hr : R = false := by
          rw [← HR.out]; unfold rightS
          rw [all_take_false HX.out (by rw [HF.out]; simp; omega)]; rfl
        subst hr
        go_wp2_with fail
        go_ret
        exact ⟨rfl, (by (try rw [hB]); exact bl_)⟩
      · by_cases h2 : 2147483647 < x
        · have hr : R = false := by
            rw [← HR.out]; unfold rightS
            rw [all_take_false HX.out (by rw [HF.out]; simp; omega)]; rfl
          subst hr
          go_wp2_with fail
          go_ret
          exact ⟨rfl, (by (try rw [hB]); exact bl_)⟩
        · go_wp2_with fail
          go_round
          case rel => exact ⟨k + 1, hlt, by go_num, Lib.hid (by rw [List.take_add_one, HX.out, Option.toList_some, List.all_append, HM.out]; simp [HF.out]; omega)⟩
          case measure => simp [intOf]; omega
    · obtain rfl : k = 16 := by omega
      have hmem : (memL L).all fitP = true := by
        have := HM.out
        rwa [List.take_of_length_le (by rw [L16.out]; omega)] at this
      have HMEM := Lib.hid hmem
      clear hmem HM
      rw [show ((16 : Nat) : Int) = 16 from rfl]
      go_wp2_with fail
      go_loop [4] (fun i => ∃ k : Nat, k ≤ 4 ∧ i = .int .i64 k ∧ Hid (((levL L).take k).all levP = true)) (fun i => 4 - (intOf i).toNat)
      case atStart => exact ⟨0, by omega, rfl, Lib.hid (by simp)⟩
      case round =>
        obtain ⟨k, hk, rfl, HM⟩ := hrel
        by_cases hlt : k < 4
        · have hm := lev_at LL hlt
          have c0 := (hA.cell (17 + k)).trans (arr_get (l := L) (by rw [LL.out]; omega))
          obtain ⟨x, hx⟩ : ∃ x, L.getD (17 + k) 0 = x := ⟨_, rfl⟩
          rw [hx] at hm c0
          have HX := Lib.hid hm
          clear hm hx
          by_cases h1 : x < 0
          · have hr : R = false := by
              rw [← HR.out]; unfold rightS
              rw [HMEM.out, all_take_false HX.out (by unfold levP; simp; omega)]; rfl
            subst hr
            go_wp2_with fail
            go_ret
            exact ⟨rfl, (by (try rw [hB]); exact bl_)⟩
          · by_cases h2 : 20 < x
            · have hr : R = false := by
                rw [← HR.out]; unfold rightS
                rw [HMEM.out, all_take_false HX.out (by unfold levP; simp; omega)]; rfl
              subst hr
              go_wp2_with fail
              go_ret
              exact ⟨rfl, (by (try rw [hB]); exact bl_)⟩
            · go_wp2_with fail
              go_round
              case rel => exact ⟨k + 1, hlt, by go_num, Lib.hid (by rw [List.take_add_one, HX.out, Option.toList_some, List.all_append, HM.out]; simp [levP]; omega)⟩
              case measure => simp [intOf]; omega
        · obtain rfl : k = 4 := by omega
          have hlev : (levL L).all levP = true := by
            have := HM.out
            rwa [List.take_of_length_le (by rw [L4.out]; omega)] at this
          have hRe : R = (decide (-2097152 ≤ lastL L ∧ lastL L < 2097152) && !(wavL L).any wideP && decide (0 ≤ lostL L) && decide (lostL L ≤ 255)) := by
            rw [← HR.out]; unfold rightS; rw [HMEM.out, hlev, cut22_eq]; simp
          have hhd := fun w => RHeld_any (wavL L) LL.wav.out w
          have c16 := (hA.cell 16).trans (arr_get (l := L) (by rw [LL.out]; omega))
          change w1.cell? ⟨B, 16, none⟩ = some (.int .i64 (lastL L)) at c16
          obtain ⟨x, hx⟩ : ∃ x, lastL L = x := ⟨_, rfl⟩
          obtain ⟨y, hy⟩ : ∃ y, lostL L = y := ⟨_, rfl⟩
          obtain ⟨d, hd⟩ : ∃ d, (wavL L).any wideP = d := ⟨_, rfl⟩
          rw [hx] at hRe c16
          rw [hy] at hRe
          rw [hd] at hRe
          simp only [hd] at hhd
          have HHD := Lib.hid hhd
          have HRE := Lib.hid hRe
          have HY := Lib.hid hy
          clear hlev HM hx hy hd hhd hRe
          rw [show ((4 : Nat) : Int) = 4 from rfl]
          by_cases h1 : -2097152 ≤ x
          · by_cases h2 : x < 2097152
            · go_wp2_with (first | (refine ldp 22 rfl (by rfl) w_Sixteen rfl (by exact bk_) (by assumption) (by omega) ?_) | (refine ldp 32 rfl (by rfl) w_Block rfl (by exact bk_) (by assumption) (by omega) ?_))
              refine (HHD.out _).mono ?_
              rintro e w2 ⟨rfl, hb2⟩
              replace hA := hA.newB hb2
              replace hfar := hfar.trans (hb2.mono (by omega))
              replace hsz := Nat.le_trans hsz hb2.size
              cases d with
              | true =>
                have hr : R = false := by rw [HRE.out]; simp
                subst hr
                go_wp2_with fail
                go_ret
                exact ⟨rfl, (by (try rw [hB]); exact bl_)⟩
              | false =>
                have c37 := (hA.cell 37).trans (arr_get (l := L) (by rw [LL.out]; omega))
                rw [show L.getD 37 0 = y from HY.out] at c37
                clear c16
                by_cases h3 : 0 ≤ y
                · by_cases h4 : y ≤ 255
                  · have hr : R = true := by rw [HRE.out]; simp [h1, h2, h3, h4]
                    subst hr
                    go_wp2_with fail
                    go_ret
                    exact ⟨rfl, (by (try rw [hB]); exact bl_)⟩
                  · have hr : R = false := by rw [HRE.out]; simp [h4]
                    subst hr
                    go_wp2_with fail
                    go_ret
                    exact ⟨retBool (decide_eq_false (by omega)), (by (try rw [hB]); exact bl_)⟩
                · have hr : R = false := by rw [HRE.out]; simp [h3]
                  subst hr
                  go_wp2_with fail
                  go_ret
                  exact ⟨rfl, (by (try rw [hB]); exact bl_)⟩
            · have hr : R = false := by rw [HRE.out]; simp [h2]
              subst hr
              go_wp2_with fail
              go_ret
              exact ⟨rfl, (by (try rw [hB]); exact bl_)⟩
          · have hr : R = false := by rw [HRE.out]; simp [h1]
            subst hr
            go_wp2_with fail
            go_ret
            exact ⟨rfl, (by (try rw [hB]); exact bl_)⟩
end Go.Proofs.YthpjkgpngbdhbaaGreatDoor
