/- The walk of spoollaw21.SpecChecks: whatever comes in, it returns true. -/
import Derived.Test.YtbpdocdomjafbaaDoorApp
import Derived.Test.YtbpdocdomjafbaaDoorChk
import Derived.Test.YtbpdocdomjafbaaDoorLot8
set_option linter.unusedSimpArgs false
set_option linter.unusedVariables false
namespace Go.Proofs.YtbpdocdomjafbaaDoor
open Go.RowKit

theorem checks_fold (L : List Int) (a b : List Ent) (c : Ent) (h : c.kind = 3) : foldO L (a ++ [c] ++ b) = foldO L (a ++ b) ∧ foldS L (a ++ [c] ++ b) = foldS L (a ++ b) ∧ soundsE (a ++ [c] ++ b) = soundsE (a ++ b) := by
  have h1 : ∀ M, foldO M [c] = [] := fun M => by rw [foldO, (chk_step h).1]; rfl
  have h2 : ∀ M, foldS M [c] = M := fun M => by rw [foldS_cons, (chk_step h).2, foldS_nil]
  refine ⟨?_, ?_, ?_⟩
  · rw [foldO_app, foldO_app, h1, List.append_nil, foldS_app, h2, foldO_app]
  · rw [foldS_app, foldS_app, h2, foldS_app]
  · rw [soundsE_app, soundsE_app, soundsE_app, soundsE_cons, chk_heard h]; simp [soundsE]
set_option maxRecDepth 100000 in
set_option maxHeartbeats 8000000 in
theorem SpecChecks_any (L : List Int) (hL : L.length = 38) (l : List Ent) (p : Option Addr) (cap : Nat) (i : Int) (X : List Int) (hX : X.length = 38) (hi0 : 0 ≤ i) (hi255 : i ≤ 255) (w : World) (hW : BandsW w) (hE : EntIn w p cap l) :
    Calls Tryd.prog 7 #[.agg (arrV L), .slice p l.length cap, .int .u8 i, .agg (arrV X)] w fun r w' => r = .returned (.bool true) ∧ Below w.heap.size w w' := by
  have hBW : Blk w 0 bandC 142 := hW
  have hB0 := hW.lt
  have LL := Len.mk hL
  have LX := Len.mk hX
  have hc1 := hE.1
  have hc2 := hE.2.1
  have hfew := few_any l p cap
  have hCk := fun w => Check_any 5 X hX w
  obtain ⟨n, hn⟩ : ∃ n, l.length = n := ⟨_, rfl⟩
  have HN := Lib.hid hn
  have hOf := fun h w => Of21_any l h p cap w
  rw [hn] at hc1 hfew hOf ⊢
  obtain ⟨E, hEe⟩ : ∃ E, bytesE X = E := ⟨_, rfl⟩
  obtain ⟨C, hC⟩ : ∃ C, chkV 5 X = C := ⟨_, rfl⟩
  simp only [hEe, hC] at hCk
  have HEE := Lib.hid hEe
  have HC := Lib.hid hC
  have HCK := Lib.hid hCk
  have HFEW := Lib.hid hfew
  have HOF := Lib.hid hOf
  have HE := Lib.hid hE
  clear hE hn hW hfew hOf hL hX hCk hEe hC
  obtain ⟨B, hB⟩ : ∃ B, w.heap.size = B := ⟨_, rfl⟩
  rw [hB] at hB0
  have hfar := Below.refl B w
  have hsz : B ≤ w.heap.size := by omega
  go_enter Tryd.func7, Tryd.ntmps7
  go_upto_region 1 with (fail)
  refine wp_gen (fun W => Blk W (0) (bandC) 142 ∧ Blk W (B) (arrV L) 25 ∧ Blk W (B + 1) (arrV X) 25 ∧ Below (B) w W ∧ B + 2 ≤ W.heap.size) ⟨bk_, bk_, bk_, bl_, sz_⟩ ?_
  clear hBW hfar hsz
  rintro w1 ⟨hBW, hA, hX, hfar, hsz⟩
  go_wp2_with fail
  refine (awake_any _ hBW).mono ?_
  rintro e w2 ⟨rfl, hb2⟩
  replace hBW := hBW.newB hb2
  replace hA := hA.newB hb2
  replace hX := hX.newB hb2
  replace hfar := hfar.trans (hb2.mono (by omega))
  replace hsz := Nat.le_trans hsz hb2.size
  go_wp2_with fail
  refine (HFEW.out _ (HE.out.below hB.symm hfar)).mono ?_
  rintro r wf ⟨rfl, rfl⟩
  cases hf : fewE l with
  | false =>
    go_wp2_with fail
    refine (awake_any _ hBW).mono ?_
    rintro e w3 ⟨rfl, hb3⟩
    replace hBW := hBW.newB hb3
    replace hA := hA.newB hb3
    replace hX := hX.newB hb3
    replace hfar := hfar.trans (hb3.mono (by omega))
    replace hsz := Nat.le_trans hsz hb3.size
    go_wp2_with fail
    go_ret
    exact ⟨rfl, (by (try rw [hB]); exact bl_)⟩
  | true =>
    have h25 : n ≤ 25 := by rw [← HN.out]; exact few_len hf
    clear hf
    go_wp2_with (first | (refine ld 25 rfl (by rfl) w_RState rfl bk_ lz_ ?_))
    refine (Of_any X LX.out _).mono ?_
    rintro e w3 ⟨rfl, hb3⟩
    replace hBW := hBW.newB hb3
    replace hA := hA.newB hb3
    replace hX := hX.newB hb3
    replace hfar := hfar.trans (hb3.mono (by omega))
    replace hsz := Nat.le_trans hsz hb3.size
    go_wp2_with fail
    refine (HCK.out _).mono ?_
    rintro e w4 ⟨rfl, hb4⟩
    replace hBW := hBW.newB hb4
    replace hA := hA.newB hb4
    replace hX := hX.newB hb4
    replace hfar := hfar.trans (hb4.mono (by omega))
    replace hsz := Nat.le_trans hsz hb4.size
    obtain ⟨g, hs_g⟩ : ∃ g, w4.heap.size = g := ⟨_, rfl⟩
    have hk_g : B + 2 ≤ g := by omega
    go_upto_region 4 with (first | (refine st 43 rfl (by rfl) w_Entry rfl rfl bk_ zz_ zz_ one_ ?_) | (refine ld 43 rfl (by rfl) w_Entry rfl bk_ zz_ ?_) | (refine bd 34 rfl (by rfl) rfl state_zs ?_) | (refine bd 32 rfl (by rfl) rfl block_zs ?_) | (refine ld 34 rfl (by rfl) w_State rfl bk_ lz_ ?_) | (refine ld 32 rfl (by rfl) w_Block rfl bk_ lz_ ?_) | (refine ldp 32 rfl (by rfl) w_Block rfl bk_ ln_ (by omega) ?_) | (refine ld 23 rfl (by rfl) w_Four rfl bk_ lz_ ?_) | (refine ldp 23 rfl (by rfl) w_Four rfl bk_ ln_ (by omega) ?_) | (refine st 34 rfl (by rfl) w_State rfl rfl bk_ lz_ lz_ one_ ?_) | (refine st 32 rfl (by rfl) w_Block rfl rfl bk_ lz_ lz_ one_ ?_) | (refine st 23 rfl (by rfl) w_Four rfl rfl bk_ lz_ lz_ one_ ?_))
    refine wp_gen (fun W => Blk W (0) (bandC) 142 ∧ Blk W (B) (arrV L) 25 ∧ Blk W (B + 1) (arrV X) 25 ∧ Blk W (g) (entV C) 43 ∧ Below (B) w W ∧ g + 1 ≤ W.heap.size) ⟨bk_, bk_, bk_, bk_, bl_, sz_⟩ ?_
    clear hBW hA hX hfar hsz
    rintro w5 ⟨hBW, hA, hX, hCb, hfar, hsz⟩
    cases hr : rightS X with
    | false =>
      have e2 : E = 1 := by rw [← HEE.out]; unfold bytesE; rw [hr]; rfl
      subst e2
      go_wp2_with fail
      go_ret
      exact ⟨rfl, (by (try rw [hB]); exact bl_)⟩
    | true =>
      have e2 : E = 0 := by rw [← HEE.out]; unfold bytesE; rw [hr]; rfl
      have e3 : C.kind = 3 := by rw [← HC.out]; unfold chkV; rw [hr]; rfl
      subst e2
      clear hr
      obtain ⟨k, hk, hkn⟩ := mod_natA i n
      have HK := Lib.hid hk
      clear hk
      go_wp2_with fail
      have hk := HK.out
      simp only [hk]
      clear hk
      refine (HOF.out (by omega) _ (HE.out.below hB.symm hfar)).mono ?_
      obtain ⟨q0, hq0⟩ : ∃ q, w5.heap.size = q := ⟨_, rfl⟩
      have hq0B : g + 1 ≤ q0 := by omega
      rintro r w6 ⟨v6, rfl, hv6, hb6⟩
      replace hBW := hBW.newB hb6
      replace hA := hA.newB hb6
      replace hX := hX.newB hb6
      replace hCb := hCb.newB hb6
      replace hfar := hfar.trans (hb6.mono (by omega))
      replace hsz := Nat.le_trans hsz hb6.size
      obtain ⟨p2, c2, rfl, hQ⟩ := hv6.sl
      rw [HN.out] at hQ ⊢
      have hnc : n ≤ c2 := hQ.2.1
      have hcm := hQ.2.2.1
      unfold maxLen at hcm
      obtain ⟨q1, hq1⟩ : ∃ q, w6.heap.size = q := ⟨_, rfl⟩
      rw [hq0, hq1] at hQ
      have hq1B : g + 1 ≤ q1 := by omega
      have HQ1 := Lib.hid hq1
      replace hsz : q1 ≤ w6.heap.size := by omega
      clear hv6 hq0 hq1
      obtain ⟨i0, hi, hz0, hz1, hz2⟩ := info_parts info_Entry
      obtain ⟨p1, hp1⟩ : ∃ p', (if c2 = k then p2 else p2.map (·.add (k * 3))) = p' := ⟨_, rfl⟩
      obtain ⟨m, hm⟩ : ∃ m, n - k = m := ⟨_, rfl⟩
      have hQk := es_take hQ HN.out hkn
      have hQr := es_rest hQ HN.out hkn hp1 hm
      have hlen : 0 + k + 1 + m = n + 1 := by omega
      have hkc : k ≤ c2 := by omega
      have hmn : m ≤ n := by omega
      have hml : (l.take k ++ [C] ++ l.drop k).length = n + 1 := by rw [List.length_append, List.length_append, List.length_take, List.length_drop, HN.out]; simp; omega
      have hcf := checks_fold L (l.take k) (l.drop k) C e3
      rw [List.take_append_drop] at hcf
      obtain ⟨Z, hZ⟩ : ∃ Z, l.take k ++ [C] ++ l.drop k = Z := ⟨_, rfl⟩
      rw [hZ] at hml hcf
      have hfl : [] ++ flE (l.take k) ++ (entV C).toList ++ flE (l.drop k) = flE Z := by rw [← hZ]; simp only [flE, List.flatMap_append, List.flatMap_singleton, List.nil_append]
      have HP1 := Lib.hid hp1
      have HM := Lib.hid hm
      have HLEN := Lib.hid hlen
      have HFL := Lib.hid hfl
      clear hp1 hm hlen hfl
      go_upto_region 8 with (fail)
      go_cut [13] from 42 to 53 (fun s13 wx => ∃ (p3 : Option Addr) (c3 lo hi : Nat), s13 = .slice p3 (n + 1) c3 ∧ SL wx lo hi 3 p3 (n + 1) c3 (flE Z) ∧ Blk wx 0 bandC 142 ∧ Blk wx B (arrV L) 25 ∧ SL wx q0 q1 3 p2 n c2 (flE l) ∧ Below B w wx ∧ q1 ≤ wx.heap.size)
      case first =>
        refine wp_region_held_drew (S := fun W => Below q1 w6 W) (by kernel_rfl) ((Below.refl q1 w6).drew) (fun hH => ?_)
        refine wpAnyH_take (i := 1) (oi := { dst := some 43, op := Op.move (Operand.tmp 12), type := 29, pos := "law.go:82", after := _, guard := none }) (v := _) rfl (by kernel_rfl) (by kernel_rfl) (by kernel_rfl) (fun _ _ _ h => h) (.inl ⟨by rfl, fun w hS => by (go_simp; try rfl)⟩) hH ?_
        try simp only [Act.put, List.setIfInBounds_toArray, List.set_cons_zero, List.set_cons_succ]
        refine wpAnyH_take (i := 2) (oi := { dst := some 44, op := Op.move (Operand.tmp 11), type := 3, pos := "law.go:82", after := _, guard := none }) (v := _) rfl (by kernel_rfl) (by kernel_rfl) (by kernel_rfl) (fun _ _ _ h => h) (.inl ⟨by rfl, fun w hS => by (go_simp; try rfl)⟩) hH ?_
        try simp only [Act.put, List.setIfInBounds_toArray, List.set_cons_zero, List.set_cons_succ]
        refine wpAnyH_take (i := 3) (oi := { dst := some 45, op := Op.slice 29 (Operand.tmp 43) none (some (Operand.tmp 44)) none, type := 29, pos := "law.go:82", after := _, guard := none }) (v := .slice p2 k c2) rfl (by kernel_rfl) (by kernel_rfl) (by kernel_rfl) (fun _ _ _ h => h) (yieldsIf_slh (by rfl) 29 rfl rfl rfl Tryd.underlying29 el_Entry.1 hkc) hH ?_
        try simp only [Act.put, List.setIfInBounds_toArray, List.set_cons_zero, List.set_cons_succ]
        refine wpAnyH_take (i := 5) (oi := { dst := some 47, op := Op.load 43 (Operand.tmp 9), type := 43, pos := "law.go:82", after := _, guard := none }) (v := .agg (entV C)) rfl (by kernel_rfl) (by kernel_rfl) (by kernel_rfl) (fun _ _ _ h => h) (yieldsIf_ld (by rfl) 43 rfl w_Entry rfl (fun _ hS => hCb.below hS (by omega)) rfl) hH ?_
        try simp only [Act.put, List.setIfInBounds_toArray, List.set_cons_zero, List.set_cons_succ]
        refine wpAnyH_take (i := 8) (oi := { dst := some 50, op := Op.move (Operand.tmp 12), type := 29, pos := "law.go:82", after := _, guard := none }) (v := _) rfl (by kernel_rfl) (by kernel_rfl) (by kernel_rfl) (fun _ _ _ h => h) (.inl ⟨by rfl, fun w hS => by (go_simp; try rfl)⟩) hH ?_
        try simp only [Act.put, List.setIfInBounds_toArray, List.set_cons_zero, List.set_cons_succ]
        refine wpAnyH_take (i := 9) (oi := { dst := some 51, op := Op.move (Operand.tmp 11), type := 3, pos := "law.go:82", after := _, guard := none }) (v := _) rfl (by kernel_rfl) (by kernel_rfl) (by kernel_rfl) (fun _ _ _ h => h) (.inl ⟨by rfl, fun w hS => by (go_simp; try rfl)⟩) hH ?_
        try simp only [Act.put, List.setIfInBounds_toArray, List.set_cons_zero, List.set_cons_succ]
        refine wpAnyH_take (i := 10) (oi := { dst := some 52, op := Op.slice 29 (Operand.tmp 50) (some (Operand.tmp 51)) none none, type := 29, pos := "law.go:82", after := _, guard := none }) (v := .slice p1 m (c2 - k)) rfl (by kernel_rfl) (by kernel_rfl) (by kernel_rfl) (fun _ _ _ h => h) (yieldsIf_sllm (by rfl) 29 rfl rfl rfl Tryd.underlying29 el_Entry.1 hkn HP1.out HM.out) hH ?_
        try simp only [Act.put, List.setIfInBounds_toArray, List.set_cons_zero, List.set_cons_succ]
        refine wpAnyH_ready (rs := [0, 6]) (by kernel_rfl) (by simp) ?_
        refine AllReadyH.cons (o := { dst := some 42, op := Op.buildSlice 29 0 #[], type := 29, pos := "law.go:82", after := _, guard := none }) rfl (fun K hK => ?_) ?_
        · rw [if_pos (by rfl)]
          have hb0 : q1 ≤ _ := Nat.le_trans (Nat.le_of_eq HQ1.out.symm) hH.size
          refine wp_bs0 29 rfl Tryd.underlying29 el_Entry (fun v0 w0 hr0 hb => ?_)
          have hbz := hb.size
          try replace hc := hc.newB hb
          refine hK.out _ _ (hH.trans (hb.mono hb0)) (fun hH => ?_)
          clear hK K
          try simp only [Act.put, List.setIfInBounds_toArray, List.set_cons_zero, List.set_cons_succ]
          refine wpAnyH_ready (rs := [4, 6]) (by kernel_rfl) (by simp) ?_
          refine AllReadyH.cons (o := { dst := some 46, op := Op.call { callee := Callee.builtin Builtin.append, args := #[Operand.tmp 42, Operand.tmp 45], argTypes := #[29, 29] }, type := 29, pos := "law.go:82", after := _, guard := none }) rfl (fun K hK => ?_) ?_
          · rw [if_pos (by rfl)]
            refine wp_apb 29 rfl rfl 43 i0 (.agg #[.int .i64 0, .int .u32 0, .string ⟨#[]⟩]) 3 32 Tryd.underlying29 hi hz0 hz1 hz2 rfl (by omega) rfl hr0 q1 hb0 hbz rfl (hQk.below hH) (flatE_one _) (by unfold maxLen; omega) (by omega) (fun v4 w4 hr4 hgr hb => ?_)
            try replace hc := hc.apart hr0 hgr (by omega)
            replace hbz := Nat.le_trans hbz hb.size
            refine hK.out _ _ (hH.trans hb) (fun hH => ?_)
            clear hK K
            try simp only [Act.put, List.setIfInBounds_toArray, List.set_cons_zero, List.set_cons_succ]
            refine wpAnyH_ready (rs := [6]) (by kernel_rfl) (by simp) ?_
            refine AllReadyH.cons (o := { dst := some 48, op := Op.buildSlice 29 1 #[(0, Operand.tmp 47)], type := 29, pos := "law.go:82", after := _, guard := none }) rfl (fun K hK => ?_) AllReadyH.nil
            rw [if_pos (by rfl)]
            have hbx : q1 ≤ _ := Nat.le_trans (Nat.le_of_eq HQ1.out.symm) hH.size
            refine wp_bs1b 29 rfl rfl Tryd.underlying29 el_Entry (by omega) (by omega) rfl (fun b wb hbe hc hb hbl => ?_)
            try replace hbz := Nat.le_trans hbz hb.size
            try replace hr0 := hr0.newB hb
            try replace hr4 := hr4.newB hb
            refine hK.out _ _ (hH.trans (hb.mono hbx)) (fun hH => ?_)
            clear hK K
            try simp only [Act.put, List.setIfInBounds_toArray, List.set_cons_zero, List.set_cons_succ]
            refine wpAnyH_ready (rs := [7]) (by kernel_rfl) (by simp) ?_
            refine AllReadyH.cons (o := { dst := some 49, op := Op.call { callee := Callee.builtin Builtin.append, args := #[Operand.tmp 46, Operand.tmp 48], argTypes := #[29, 29] }, type := 29, pos := "law.go:82", after := _, guard := none }) rfl (fun K hK => ?_) AllReadyH.nil
            rw [if_pos (by rfl)]
            refine wp_apb 29 rfl rfl 43 i0 (.agg #[.int .i64 0, .int .u32 0, .string ⟨#[]⟩]) 3 32 Tryd.underlying29 hi hz0 hz1 hz2 rfl (by omega) rfl hr4 q1 hb0 hbz rfl (SL.blk hc (n := 1) (size := 3) rfl (by unfold maxLen; omega)) (fun u hu => flatE_one [C] u (by simpa using hu)) (by unfold maxLen; omega) (by omega) (fun v7 w7 hr7 hgr hb => ?_)
            replace hbz := Nat.le_trans hbz hb.size
            refine hK.out _ _ (hH.trans hb) (fun hH => ?_)
            clear hK K
            try simp only [Act.put, List.setIfInBounds_toArray, List.set_cons_zero, List.set_cons_succ]
            refine wpAnyH_ready (rs := [11]) (by kernel_rfl) (by simp) ?_
            refine AllReadyH.cons (o := { dst := some 53, op := Op.call { callee := Callee.builtin Builtin.append, args := #[Operand.tmp 49, Operand.tmp 52], argTypes := #[29, 29] }, type := 29, pos := "law.go:82", after := _, guard := none }) rfl (fun K hK => ?_) AllReadyH.nil
            rw [if_pos (by rfl)]
            refine wp_apb 29 rfl rfl 43 i0 (.agg #[.int .i64 0, .int .u32 0, .string ⟨#[]⟩]) 3 32 Tryd.underlying29 hi hz0 hz1 hz2 rfl (by omega) rfl hr7 q1 hb0 hbz rfl (hQr.below hH) (flatE_one _) (by unfold maxLen; omega) (by omega) (fun v11 w11 hr11 hgr hb => ?_)
            obtain ⟨p3, c3, rfl, hs3⟩ := hr11.sl
            refine hK.out _ _ (hH.trans hb) (fun hH => ?_)
            clear hK K
            try simp only [Act.put, List.setIfInBounds_toArray, List.set_cons_zero, List.set_cons_succ]
            refine wpAnyH_take (i := 12) (oi := { dst := some 13, op := Op.assign (Operand.tmp 53), type := 29, pos := "law.go:82", after := _, guard := none }) (v := _) rfl (by kernel_rfl) (by kernel_rfl) (by kernel_rfl) (fun _ _ _ h => h) (.inl ⟨by rfl, fun w hS => by (go_simp; try rfl)⟩) hH ?_
            try simp only [Act.put, List.setIfInBounds_toArray, List.set_cons_zero, List.set_cons_succ]
            refine wpAnyH_done (by kernel_rfl) ?_ _
            go_wp2_with fail
            go_meet
            case rel => exact ⟨p3, c3, _, _, by rw [show k + 1 + m = n + 1 from by have := HLEN.out; omega], by rw [← HLEN.out, ← HFL.out]; exact hs3, hBW.below hH (by omega), hA.below hH (by omega), hQ.below hH, hfar.trans (hH.mono (by omega)), by have := hH.size; omega⟩
          refine AllReadyH.cons (o := { dst := some 48, op := Op.buildSlice 29 1 #[(0, Operand.tmp 47)], type := 29, pos := "law.go:82", after := _, guard := none }) rfl (fun K hK => ?_) AllReadyH.nil
          rw [if_pos (by rfl)]
          have hbx : q1 ≤ _ := Nat.le_trans (Nat.le_of_eq HQ1.out.symm) hH.size
          refine wp_bs1b 29 rfl rfl Tryd.underlying29 el_Entry (by omega) (by omega) rfl (fun b wb hbe hc hb hbl => ?_)
          try replace hbz := Nat.le_trans hbz hb.size
          try replace hr0 := hr0.newB hb
          try replace hr4 := hr4.newB hb
          refine hK.out _ _ (hH.trans (hb.mono hbx)) (fun hH => ?_)
          clear hK K
          try simp only [Act.put, List.setIfInBounds_toArray, List.set_cons_zero, List.set_cons_succ]
          refine wpAnyH_ready (rs := [4]) (by kernel_rfl) (by simp) ?_
          refine AllReadyH.cons (o := { dst := some 46, op := Op.call { callee := Callee.builtin Builtin.append, args := #[Operand.tmp 42, Operand.tmp 45], argTypes := #[29, 29] }, type := 29, pos := "law.go:82", after := _, guard := none }) rfl (fun K hK => ?_) AllReadyH.nil
          rw [if_pos (by rfl)]
          refine wp_apb 29 rfl rfl 43 i0 (.agg #[.int .i64 0, .int .u32 0, .string ⟨#[]⟩]) 3 32 Tryd.underlying29 hi hz0 hz1 hz2 rfl (by omega) rfl hr0 q1 hb0 hbz rfl (hQk.below hH) (flatE_one _) (by unfold maxLen; omega) (by omega) (fun v4 w4 hr4 hgr hb => ?_)
          try replace hc := hc.apart hr0 hgr (by omega)
          replace hbz := Nat.le_trans hbz hb.size
          refine hK.out _ _ (hH.trans hb) (fun hH => ?_)
          clear hK K
          try simp only [Act.put, List.setIfInBounds_toArray, List.set_cons_zero, List.set_cons_succ]
          refine wpAnyH_ready (rs := [7]) (by kernel_rfl) (by simp) ?_
          refine AllReadyH.cons (o := { dst := some 49, op := Op.call { callee := Callee.builtin Builtin.append, args := #[Operand.tmp 46, Operand.tmp 48], argTypes := #[29, 29] }, type := 29, pos := "law.go:82", after := _, guard := none }) rfl (fun K hK => ?_) AllReadyH.nil
          rw [if_pos (by rfl)]
          refine wp_apb 29 rfl rfl 43 i0 (.agg #[.int .i64 0, .int .u32 0, .string ⟨#[]⟩]) 3 32 Tryd.underlying29 hi hz0 hz1 hz2 rfl (by omega) rfl hr4 q1 hb0 hbz rfl (SL.blk hc (n := 1) (size := 3) rfl (by unfold maxLen; omega)) (fun u hu => flatE_one [C] u (by simpa using hu)) (by unfold maxLen; omega) (by omega) (fun v7 w7 hr7 hgr hb => ?_)
          replace hbz := Nat.le_trans hbz hb.size
          refine hK.out _ _ (hH.trans hb) (fun hH => ?_)
          clear hK K
          try simp only [Act.put, List.setIfInBounds_toArray, List.set_cons_zero, List.set_cons_succ]
          refine wpAnyH_ready (rs := [11]) (by kernel_rfl) (by simp) ?_
          refine AllReadyH.cons (o := { dst := some 53, op := Op.call { callee := Callee.builtin Builtin.append, args := #[Operand.tmp 49, Operand.tmp 52], argTypes := #[29, 29] }, type := 29, pos := "law.go:82", after := _, guard := none }) rfl (fun K hK => ?_) AllReadyH.nil
          rw [if_pos (by rfl)]
          refine wp_apb 29 rfl rfl 43 i0 (.agg #[.int .i64 0, .int .u32 0, .string ⟨#[]⟩]) 3 32 Tryd.underlying29 hi hz0 hz1 hz2 rfl (by omega) rfl hr7 q1 hb0 hbz rfl (hQr.below hH) (flatE_one _) (by unfold maxLen; omega) (by omega) (fun v11 w11 hr11 hgr hb => ?_)
          obtain ⟨p3, c3, rfl, hs3⟩ := hr11.sl
          refine hK.out _ _ (hH.trans hb) (fun hH => ?_)
          clear hK K
          try simp only [Act.put, List.setIfInBounds_toArray, List.set_cons_zero, List.set_cons_succ]
          refine wpAnyH_take (i := 12) (oi := { dst := some 13, op := Op.assign (Operand.tmp 53), type := 29, pos := "law.go:82", after := _, guard := none }) (v := _) rfl (by kernel_rfl) (by kernel_rfl) (by kernel_rfl) (fun _ _ _ h => h) (.inl ⟨by rfl, fun w hS => by (go_simp; try rfl)⟩) hH ?_
          try simp only [Act.put, List.setIfInBounds_toArray, List.set_cons_zero, List.set_cons_succ]
          refine wpAnyH_done (by kernel_rfl) ?_ _
          go_wp2_with fail
          go_meet
          case rel => exact ⟨p3, c3, _, _, by rw [show k + 1 + m = n + 1 from by have := HLEN.out; omega], by rw [← HLEN.out, ← HFL.out]; exact hs3, hBW.below hH (by omega), hA.below hH (by omega), hQ.below hH, hfar.trans (hH.mono (by omega)), by have := hH.size; omega⟩
        refine AllReadyH.cons (o := { dst := some 48, op := Op.buildSlice 29 1 #[(0, Operand.tmp 47)], type := 29, pos := "law.go:82", after := _, guard := none }) rfl (fun K hK => ?_) AllReadyH.nil
        rw [if_pos (by rfl)]
        have hbx : q1 ≤ _ := Nat.le_trans (Nat.le_of_eq HQ1.out.symm) hH.size
        refine wp_bs1b 29 rfl rfl Tryd.underlying29 el_Entry (by omega) (by omega) rfl (fun b wb hbe hc hb hbl => ?_)
        try replace hbz := Nat.le_trans hbz hb.size
        try replace hr0 := hr0.newB hb
        try replace hr4 := hr4.newB hb
        refine hK.out _ _ (hH.trans (hb.mono hbx)) (fun hH => ?_)
        clear hK K
        try simp only [Act.put, List.setIfInBounds_toArray, List.set_cons_zero, List.set_cons_succ]
        refine wpAnyH_ready (rs := [0]) (by kernel_rfl) (by simp) ?_
        refine AllReadyH.cons (o := { dst := some 42, op := Op.buildSlice 29 0 #[], type := 29, pos := "law.go:82", after := _, guard := none }) rfl (fun K hK => ?_) AllReadyH.nil
        rw [if_pos (by rfl)]
        have hb0 : q1 ≤ _ := Nat.le_trans (Nat.le_of_eq HQ1.out.symm) hH.size
        refine wp_bs0 29 rfl Tryd.underlying29 el_Entry (fun v0 w0 hr0 hb => ?_)
        have hbz := hb.size
        try replace hc := hc.newB hb
        refine hK.out _ _ (hH.trans (hb.mono hb0)) (fun hH => ?_)
        clear hK K
        try simp only [Act.put, List.setIfInBounds_toArray, List.set_cons_zero, List.set_cons_succ]
        refine wpAnyH_ready (rs := [4]) (by kernel_rfl) (by simp) ?_
        refine AllReadyH.cons (o := { dst := some 46, op := Op.call { callee := Callee.builtin Builtin.append, args := #[Operand.tmp 42, Operand.tmp 45], argTypes := #[29, 29] }, type := 29, pos := "law.go:82", after := _, guard := none }) rfl (fun K hK => ?_) AllReadyH.nil
        rw [if_pos (by rfl)]
        refine wp_apb 29 rfl rfl 43 i0 (.agg #[.int .i64 0, .int .u32 0, .string ⟨#[]⟩]) 3 32 Tryd.underlying29 hi hz0 hz1 hz2 rfl (by omega) rfl hr0 q1 hb0 hbz rfl (hQk.below hH) (flatE_one _) (by unfold maxLen; omega) (by omega) (fun v4 w4 hr4 hgr hb => ?_)
        try replace hc := hc.apart hr0 hgr (by omega)
        replace hbz := Nat.le_trans hbz hb.size
        refine hK.out _ _ (hH.trans hb) (fun hH => ?_)
        clear hK K
        try simp only [Act.put, List.setIfInBounds_toArray, List.set_cons_zero, List.set_cons_succ]
        refine wpAnyH_ready (rs := [7]) (by kernel_rfl) (by simp) ?_
        refine AllReadyH.cons (o := { dst := some 49, op := Op.call { callee := Callee.builtin Builtin.append, args := #[Operand.tmp 46, Operand.tmp 48], argTypes := #[29, 29] }, type := 29, pos := "law.go:82", after := _, guard := none }) rfl (fun K hK => ?_) AllReadyH.nil
        rw [if_pos (by rfl)]
        refine wp_apb 29 rfl rfl 43 i0 (.agg #[.int .i64 0, .int .u32 0, .string ⟨#[]⟩]) 3 32 Tryd.underlying29 hi hz0 hz1 hz2 rfl (by omega) rfl hr4 q1 hb0 hbz rfl (SL.blk hc (n := 1) (size := 3) rfl (by unfold maxLen; omega)) (fun u hu => flatE_one [C] u (by simpa using hu)) (by unfold maxLen; omega) (by omega) (fun v7 w7 hr7 hgr hb => ?_)
        replace hbz := Nat.le_trans hbz hb.size
        refine hK.out _ _ (hH.trans hb) (fun hH => ?_)
        clear hK K
        try simp only [Act.put, List.setIfInBounds_toArray, List.set_cons_zero, List.set_cons_succ]
        refine wpAnyH_ready (rs := [11]) (by kernel_rfl) (by simp) ?_
        refine AllReadyH.cons (o := { dst := some 53, op := Op.call { callee := Callee.builtin Builtin.append, args := #[Operand.tmp 49, Operand.tmp 52], argTypes := #[29, 29] }, type := 29, pos := "law.go:82", after := _, guard := none }) rfl (fun K hK => ?_) AllReadyH.nil
        rw [if_pos (by rfl)]
        refine wp_apb 29 rfl rfl 43 i0 (.agg #[.int .i64 0, .int .u32 0, .string ⟨#[]⟩]) 3 32 Tryd.underlying29 hi hz0 hz1 hz2 rfl (by omega) rfl hr7 q1 hb0 hbz rfl (hQr.below hH) (flatE_one _) (by unfold maxLen; omega) (by omega) (fun v11 w11 hr11 hgr hb => ?_)
        obtain ⟨p3, c3, rfl, hs3⟩ := hr11.sl
        refine hK.out _ _ (hH.trans hb) (fun hH => ?_)
        clear hK K
        try simp only [Act.put, List.setIfInBounds_toArray, List.set_cons_zero, List.set_cons_succ]
        refine wpAnyH_take (i := 12) (oi := { dst := some 13, op := Op.assign (Operand.tmp 53), type := 29, pos := "law.go:82", after := _, guard := none }) (v := _) rfl (by kernel_rfl) (by kernel_rfl) (by kernel_rfl) (fun _ _ _ h => h) (.inl ⟨by rfl, fun w hS => by (go_simp; try rfl)⟩) hH ?_
        try simp only [Act.put, List.setIfInBounds_toArray, List.set_cons_zero, List.set_cons_succ]
        refine wpAnyH_done (by kernel_rfl) ?_ _
        go_wp2_with fail
        go_meet
        case rel => exact ⟨p3, c3, _, _, by rw [show k + 1 + m = n + 1 from by have := HLEN.out; omega], by rw [← HLEN.out, ← HFL.out]; exact hs3, hBW.below hH (by omega), hA.below hH (by omega), hQ.below hH, hfar.trans (hH.mono (by omega)), by have := hH.size; omega⟩
      case rest =>
        clear hBW hA hX hCb hQ hQk hQr hfar hsz
        obtain ⟨p3, c3, lo3, hi3, rfl, hZs, hBW, hA, hQ, hfar, hsz⟩ := hcut
        have hF1 := fun w (hW : BandsW w) (hs : SL w q0 q1 3 p2 n c2 (flE l)) => toBN (Fold_all LL HN.out (by omega) hW hs)
        have hF2 := fun w (hW : BandsW w) (hs : SL w lo3 hi3 3 p3 (n + 1) c3 (flE Z)) => toBN (Fold_all LL hml (by omega) hW hs)
        have hS1 := fun w (hs : SL w q0 q1 3 p2 n c2 (flE l)) => Sounds_any HN.out (by omega) hs
        have hS2 := fun w (hs : SL w lo3 hi3 3 p3 (n + 1) c3 (flE Z)) => Sounds_any hml (by omega) hs
        simp only [hcf.1, hcf.2.1] at hF2
        simp only [hcf.2.2] at hS2
        have hA16 := foldO_len L l
        have hAl := foldO_le L l
        have LM := Len.mk (foldS_len LL.out l)
        have hSm := fun lo1 hi1 lo2 hi2 p1 p2 c1 c2 w h1 h2 => Same_any (foldO L l) hA16 (by have := HN.out; omega) lo1 hi1 lo2 hi2 p1 p2 c1 c2 w h1 h2
        simp only [BS] at hSm
        obtain ⟨A, hAe⟩ : ∃ A, foldO L l = A := ⟨_, rfl⟩
        obtain ⟨M, hMe⟩ : ∃ M, foldS L l = M := ⟨_, rfl⟩
        obtain ⟨sd, hsd⟩ : ∃ d, soundsE l = d := ⟨_, rfl⟩
        obtain ⟨fZ, hfZ⟩ : ∃ x, flE Z = x := ⟨_, rfl⟩
        simp only [hAe, hMe, hsd, hfZ] at hF1 hF2 hS1 hS2 hSm LM hZs
        obtain ⟨na, hna⟩ : ∃ n, A.length = n := ⟨_, rfl⟩
        simp only [hna] at hF1 hF2 hSm
        have HF1 := Lib.hid hF1
        have HF2 := Lib.hid hF2
        have HS1 := Lib.hid hS1
        have HS2 := Lib.hid hS2
        have HSM := Lib.hid hSm
        clear hF1 hF2 hS1 hS2 hSm hA16 hAl hAe hMe hsd hfZ hna hcf hml hZ e3 hz0 hz1 hz2 hi
        obtain ⟨N, hN⟩ : ∃ N, wc.heap.size = N := ⟨_, rfl⟩
        have hqN : q1 ≤ N := by omega
        have h3N : hi3 ≤ N := by rw [← hN]; exact hZs.2.2.2.1
        replace hsz : N ≤ wc.heap.size := by omega
        clear hN
        go_wp2_with (first | (refine ld 25 rfl (by rfl) w_RState rfl bk_ lz_ ?_))
        refine (Of_any L LL.out _).mono ?_
        rintro e w7 ⟨rfl, hb7⟩
        replace hBW := hBW.newB hb7
        replace hA := hA.newB hb7
        replace hQ := hQ.newB hb7
        replace hZs := hZs.newB hb7
        replace hfar := hfar.trans (hb7.mono (by omega))
        replace hsz := Nat.le_trans hsz hb7.size
        go_wp2_with fail
        refine (HF1.out _ hBW hQ).mono ?_
        rintro r w8 ⟨v8, rfl, hv8, hb8⟩
        replace hBW := hBW.newB hb8
        replace hA := hA.newB hb8
        replace hQ := hQ.newB hb8
        replace hZs := hZs.newB hb8
        replace hfar := hfar.trans (hb8.mono (by omega))
        replace hsz := Nat.le_trans hsz hb8.size
        obtain ⟨pa, ca, loa, hia, rfl, hsa, hloa, hha⟩ := own_ex hv8
        obtain ⟨N8, hN8⟩ : ∃ N, w8.heap.size = N := ⟨_, rfl⟩
        rw [hN8] at hha
        have hNN8 : N ≤ N8 := by omega
        clear hv8 hloa
        go_upto_region 10 with (first | (refine st 43 rfl (by rfl) w_Entry rfl rfl bk_ zz_ zz_ one_ ?_) | (refine ld 43 rfl (by rfl) w_Entry rfl bk_ zz_ ?_) | (refine bd 34 rfl (by rfl) rfl state_zs ?_) | (refine bd 32 rfl (by rfl) rfl block_zs ?_) | (refine ld 34 rfl (by rfl) w_State rfl bk_ lz_ ?_) | (refine ld 32 rfl (by rfl) w_Block rfl bk_ lz_ ?_) | (refine ldp 32 rfl (by rfl) w_Block rfl bk_ ln_ (by omega) ?_) | (refine ld 23 rfl (by rfl) w_Four rfl bk_ lz_ ?_) | (refine ldp 23 rfl (by rfl) w_Four rfl bk_ ln_ (by omega) ?_) | (refine st 34 rfl (by rfl) w_State rfl rfl bk_ lz_ lz_ one_ ?_) | (refine st 32 rfl (by rfl) w_Block rfl rfl bk_ lz_ lz_ one_ ?_) | (refine st 23 rfl (by rfl) w_Four rfl rfl bk_ lz_ lz_ one_ ?_))
        refine wp_gen (fun W => Blk W (0) (bandC) 142 ∧ Blk W (B) (arrV L) 25 ∧ SL W (q0) (q1) (3) (p2) (n) (c2) (flE l) ∧ SL W (lo3) (hi3) (3) (p3) (n + 1) (c3) (fZ) ∧ SL W (loa) (hia) (16) (pa) (na) (ca) (A.flatMap intsV) ∧ Blk W (N8) (arrV M) 34 ∧ Below (B) w W ∧ N8 + 1 ≤ W.heap.size) ⟨bk_, bk_, sl_, sl_, sl_, bk_, bl_, sz_⟩ ?_
        clear hBW hA hQ hZs hsa hfar hsz
        rintro w9 ⟨hBW, hA, hQ, hZs, hsa, hM1, hfar, hsz⟩
        go_wp2_with (first | (refine ld 25 rfl (by rfl) w_RState rfl bk_ lz_ ?_))
        refine (Of_any L LL.out _).mono ?_
        rintro e w10 ⟨rfl, hb10⟩
        replace hBW := hBW.newB hb10
        replace hA := hA.newB hb10
        replace hQ := hQ.newB hb10
        replace hZs := hZs.newB hb10
        replace hsa := hsa.newB hb10
        replace hM1 := hM1.newB hb10
        replace hfar := hfar.trans (hb10.mono (by omega))
        replace hsz := Nat.le_trans hsz hb10.size
        go_wp2_with fail
        refine (HF2.out _ hBW hZs).mono ?_
        rintro r w11 ⟨v11, rfl, hv11, hb11⟩
        replace hBW := hBW.newB hb11
        replace hA := hA.newB hb11
        replace hQ := hQ.newB hb11
        replace hZs := hZs.newB hb11
        replace hsa := hsa.newB hb11
        replace hM1 := hM1.newB hb11
        replace hfar := hfar.trans (hb11.mono (by omega))
        replace hsz := Nat.le_trans hsz hb11.size
        obtain ⟨pb, cb, lob, hib, rfl, hsb, hlob, hhb⟩ := own_ex hv11
        obtain ⟨N11, hN11⟩ : ∃ N, w11.heap.size = N := ⟨_, rfl⟩
        rw [hN11] at hhb
        have hNN11 : N8 + 1 ≤ N11 := by omega
        clear hv11 hlob
        go_upto_region 11 with (first | (refine st 43 rfl (by rfl) w_Entry rfl rfl bk_ zz_ zz_ one_ ?_) | (refine ld 43 rfl (by rfl) w_Entry rfl bk_ zz_ ?_) | (refine bd 34 rfl (by rfl) rfl state_zs ?_) | (refine bd 32 rfl (by rfl) rfl block_zs ?_) | (refine ld 34 rfl (by rfl) w_State rfl bk_ lz_ ?_) | (refine ld 32 rfl (by rfl) w_Block rfl bk_ lz_ ?_) | (refine ldp 32 rfl (by rfl) w_Block rfl bk_ ln_ (by omega) ?_) | (refine ld 23 rfl (by rfl) w_Four rfl bk_ lz_ ?_) | (refine ldp 23 rfl (by rfl) w_Four rfl bk_ ln_ (by omega) ?_) | (refine st 34 rfl (by rfl) w_State rfl rfl bk_ lz_ lz_ one_ ?_) | (refine st 32 rfl (by rfl) w_Block rfl rfl bk_ lz_ lz_ one_ ?_) | (refine st 23 rfl (by rfl) w_Four rfl rfl bk_ lz_ lz_ one_ ?_))
        refine wp_gen (fun W => Blk W (0) (bandC) 142 ∧ Blk W (B) (arrV L) 25 ∧ SL W (q0) (q1) (3) (p2) (n) (c2) (flE l) ∧ SL W (lo3) (hi3) (3) (p3) (n + 1) (c3) (fZ) ∧ SL W (loa) (hia) (16) (pa) (na) (ca) (A.flatMap intsV) ∧ Blk W (N8) (arrV M) 34 ∧ SL W (lob) (hib) (16) (pb) (na) (cb) (A.flatMap intsV) ∧ Blk W (N11) (arrV M) 34 ∧ Below (B) w W ∧ N11 + 1 ≤ W.heap.size) ⟨bk_, bk_, sl_, sl_, sl_, bk_, sl_, bk_, bl_, sz_⟩ ?_
        clear hBW hA hQ hZs hsa hM1 hsb hfar hsz
        rintro w12 ⟨hBW, hA, hQ, hZs, hsa, hM1, hsb, hM2, hfar, hsz⟩
        go_wp2_with fail
        refine (HSM.out _ _ _ _ _ _ _ _ _ hsa hsb).mono ?_
        rintro e w13 ⟨rfl, hb13⟩
        replace hBW := hBW.newB hb13
        replace hA := hA.newB hb13
        replace hQ := hQ.newB hb13
        replace hZs := hZs.newB hb13
        replace hsa := hsa.newB hb13
        replace hM1 := hM1.newB hb13
        replace hsb := hsb.newB hb13
        replace hM2 := hM2.newB hb13
        replace hfar := hfar.trans (hb13.mono (by omega))
        replace hsz := Nat.le_trans hsz hb13.size
        go_wp2_with (first | (refine eqw 34 rfl (by rfl) rfl rfl eg_State (eq_state_self LM) ?_) | (first | (refine st 43 rfl (by rfl) w_Entry rfl rfl bk_ zz_ zz_ one_ ?_) | (refine ld 43 rfl (by rfl) w_Entry rfl bk_ zz_ ?_) | (refine bd 34 rfl (by rfl) rfl state_zs ?_) | (refine bd 32 rfl (by rfl) rfl block_zs ?_) | (refine ld 34 rfl (by rfl) w_State rfl bk_ lz_ ?_) | (refine ld 32 rfl (by rfl) w_Block rfl bk_ lz_ ?_) | (refine ldp 32 rfl (by rfl) w_Block rfl bk_ ln_ (by omega) ?_) | (refine ld 23 rfl (by rfl) w_Four rfl bk_ lz_ ?_) | (refine ldp 23 rfl (by rfl) w_Four rfl bk_ ln_ (by omega) ?_) | (refine st 34 rfl (by rfl) w_State rfl rfl bk_ lz_ lz_ one_ ?_) | (refine st 32 rfl (by rfl) w_Block rfl rfl bk_ lz_ lz_ one_ ?_) | (refine st 23 rfl (by rfl) w_Four rfl rfl bk_ lz_ lz_ one_ ?_)))
        refine (HS1.out _ hQ).mono ?_
        rintro e w14 ⟨rfl, hb14⟩
        replace hBW := hBW.newB hb14
        replace hA := hA.newB hb14
        replace hQ := hQ.newB hb14
        replace hZs := hZs.newB hb14
        replace hsa := hsa.newB hb14
        replace hM1 := hM1.newB hb14
        replace hsb := hsb.newB hb14
        replace hM2 := hM2.newB hb14
        replace hfar := hfar.trans (hb14.mono (by omega))
        replace hsz := Nat.le_trans hsz hb14.size
        go_wp2_with fail
        refine (HS2.out _ hZs).mono ?_
        rintro e w15 ⟨rfl, hb15⟩
        replace hBW := hBW.newB hb15
        replace hA := hA.newB hb15
        replace hQ := hQ.newB hb15
        replace hZs := hZs.newB hb15
        replace hsa := hsa.newB hb15
        replace hM1 := hM1.newB hb15
        replace hsb := hsb.newB hb15
        replace hM2 := hM2.newB hb15
        replace hfar := hfar.trans (hb15.mono (by omega))
        replace hsz := Nat.le_trans hsz hb15.size
        go_wp2_with fail
        go_ret
        exact ⟨rfl, (by (try rw [hB]); exact bl_)⟩
end Go.Proofs.YtbpdocdomjafbaaDoor
