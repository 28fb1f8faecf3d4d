/- The walk of mdct.Waves: two frames' waves. -/
import Derived.Test.YthpjkgpngbdhbaaGreatDoorMdct5
import Derived.Test.YthpjkgpngbdhbaaGreatDoorLot7
set_option linter.unusedSimpArgs false
set_option linter.unusedVariables false
namespace Go.Proofs.YthpjkgpngbdhbaaGreatDoor
open Go.RowKit

theorem waves_get {a b : List Int} (ha : a.any wideP = false) (hb : b.any wideP = false) {k : Nat} (hk : k < 16) : (wavesL a b).getD k 0 = wave1 a b k := by
  have h : ¬ (a.any wideP = true ∨ b.any wideP = true) := by rw [ha, hb]; decide
  unfold wavesL
  rw [if_neg h, List.getD_eq_getElem?_getD, List.getElem?_map, List.getElem?_range hk]; rfl
theorem wp_stI {op : Oper} {a : Act} {w : World} {K : Act → World → Prop} {Q : Exit → Act → World → Prop} {x y : Operand} (ho : op.op = .store 62 x y) {b : Nat} (hx : a.eval x = .pointer (some ⟨b, 0, none⟩)) {p : Option Addr} {n c : Nat} (hy : a.eval y = .slice p n c)
    (hb : Blk w b #[.slice none 0 0] 62) (h : K (a.put op.dst undef) (w.setCell ⟨b, 0, none⟩ (.slice p n c))) : op.wp Tryz.prog a w K Q := by
  have c0 := hb.cell 0
  simp only [List.getElem?_toArray, List.getElem?_cons_zero] at c0
  have f0 := hb.frozen 0
  unfold Oper.wp execOp
  simp only [ho, hx, hy]
  go_simp
  exact h
theorem waves_none {a b : List Int} (h : a.any wideP = true ∨ b.any wideP = true) : wavesL a b = zs 16 := by unfold wavesL; rw [if_pos h]; rfl
set_option maxRecDepth 100000 in
set_option maxHeartbeats 8000000 in
theorem Waves_any (a b : List Int) (ha : a.length = 16) (hb : b.length = 16) (w : World) : Calls Tryz.prog 20 #[.agg (arrV a), .agg (arrV b)] w fun e w' => e = .returned (.agg (arrV (wavesL a b))) ∧ Below w.heap.size w w' := by
  have LA := Len.mk ha
  have LB := Len.mk hb
  have hha := fun w => Held_any a ha w
  have hhb := fun w => Held_any b hb w
  have LV := Len.mk (wavesL_len a b)
  have HHA := Lib.hid hha
  have HHB := Lib.hid hhb
  obtain ⟨B, hB⟩ : ∃ B, w.heap.size = B := ⟨_, rfl⟩
  have hfar := Below.refl B w
  have hsz : B ≤ w.heap.size := by omega
  clear hha hhb
  obtain ⟨wa, hwa⟩ : ∃ x, a.any wideP = x := ⟨_, rfl⟩
  obtain ⟨wb, hwb⟩ : ∃ x, b.any wideP = x := ⟨_, rfl⟩
  rw [hwa] at HHA
  rw [hwb] at HHB
  obtain ⟨V, hV⟩ : ∃ V, wavesL a b = V := ⟨_, rfl⟩
  have hnone := fun h => (hV.symm.trans (waves_none (a := a) (b := b) h))
  rw [hwa, hwb] at hnone
  rw [hV] at LV ⊢
  have HNONE := Lib.hid hnone
  have HV := Lib.hid hV
  have HWA := Lib.hid hwa
  have HWB := Lib.hid hwb
  clear hnone hV hwa hwb
  go_enter Tryz.func20, Tryz.ntmps20
  go_upto_region 2 with (fail)
  refine wp_gen (fun W => Blk W (B) (arrV a) 32 ∧ Blk W (B + 1) (arrV b) 32 ∧ Blk W (B + 1 + 1) (arrV (zs 16)) 32 ∧ Blk W (B + 1 + 1 + 1) (arrV (zs 16)) 32 ∧ Below (B) w W ∧ B + 4 ≤ W.heap.size) ⟨bk_, bk_, bk_, bk_, bl_, sz_⟩ ?_
  clear hfar hsz
  rintro w1 ⟨hA, hC, hR, hO, hfar, hsz⟩
  go_wp2_with (refine ld 32 rfl (by rfl) w_Block rfl hA LA.sz ?_)
  refine (HHA.out _).mono ?_
  rintro e w2 ⟨rfl, hb2⟩
  replace hA := hA.newB hb2
  replace hC := hC.newB hb2
  replace hR := hR.newB hb2
  replace hO := hO.newB hb2
  replace hfar := hfar.trans (hb2.mono (by omega))
  replace hsz := Nat.le_trans hsz hb2.size
  cases wa with
  | true =>
    obtain rfl : V = zs 16 := HNONE.out (.inl rfl)
    go_wp2_with (first | (refine ld 32 rfl (by rfl) w_Block rfl hO LV.sz ?_) | (refine st 32 rfl (by rfl) w_Block rfl rfl bk_ lz_ LV.sz one_ ?_))
    exact bodyPost_ret (v := .agg (arrV (zs 16))) (res_c Tryz.results20 rfl w_Block (by exact bk_) LV.sz) rfl ⟨rfl, (by (try rw [hB]); exact bl_)⟩
  | false =>
    go_wp2_with (refine ld 32 rfl (by rfl) w_Block rfl hC LB.sz ?_)
    refine (HHB.out _).mono ?_
    rintro e w3 ⟨rfl, hb3⟩
    replace hA := hA.newB hb3
    replace hC := hC.newB hb3
    replace hR := hR.newB hb3
    replace hO := hO.newB hb3
    replace hfar := hfar.trans (hb3.mono (by omega))
    replace hsz := Nat.le_trans hsz hb3.size
    cases wb with
    | true =>
      obtain rfl : V = zs 16 := HNONE.out (.inr rfl)
      go_wp2_with (first | (refine ld 32 rfl (by rfl) w_Block rfl hO LV.sz ?_) | (refine st 32 rfl (by rfl) w_Block rfl rfl bk_ lz_ LV.sz one_ ?_))
      exact bodyPost_ret (v := .agg (arrV (zs 16))) (res_c Tryz.results20 rfl w_Block (by exact bk_) LV.sz) rfl ⟨rfl, (by (try rw [hB]); exact bl_)⟩
    | false =>
      have hga := fun k (hk : k < 16) => waves_get HWA.out HWB.out (k := k) hk
      simp only [HV.out] at hga
      have HGA := Lib.hid hga
      have hcon := fun W bs (h1 : Blk W B (arrV a) 32) (h2 : Blk W (B + 1) (arrV b) 32) (h3 : Blk W bs #[.slice (some ⟨B, 0, none⟩) 16 16, .slice (some ⟨B + 1, 0, none⟩) 16 16] 62) => by
        have hs := h2.lt
        have s1 := (sl_part h1 0 16 (by rw [LA.out]; omega) (by omega)).wider (lo' := B) (hi' := B + 2) (by omega) (by omega) (by omega)
        have s2 := (sl_part h2 0 16 (by rw [LB.out]; omega) (by omega)).wider (lo' := B) (hi' := B + 2) (by omega) (by omega) (by omega)
        rw [List.drop_zero, List.take_of_length_le (by rw [LA.out]; omega)] at s1
        rw [List.drop_zero, List.take_of_length_le (by rw [LB.out]; omega)] at s2
        exact Concat_any a b LA.out LB.out bs B (B + 2) _ _ 16 16 W h3 s1 s2 h3.lt
      have HCON := Lib.hid hcon
      clear hga hcon HNONE HV
      go_wp2_with fail
      have hsz3 : B + 4 ≤ w3.heap.size := hsz
      refine (made_any _).mono ?_
      rintro e w4 ⟨kb, hkb, rfl, hKer, hb4⟩
      replace hA := hA.newB hb4
      replace hC := hC.newB hb4
      replace hR := hR.newB hb4
      replace hO := hO.newB hb4
      replace hfar := hfar.trans (hb4.mono (by omega))
      replace hsz := Nat.le_trans hsz hb4.size
      obtain ⟨g, hg⟩ : ∃ g, w4.heap.size = g := ⟨_, rfl⟩
      have hkg : kb < g := by rw [← hg]; exact hKer.lt
      have hkB : B + 4 ≤ kb := by omega
      go_upto_region 5 with (fail)
      refine wp_gen (fun W => Blk W (B) (arrV a) 32 ∧ Blk W (B + 1) (arrV b) 32 ∧ Blk W (B + 1 + 1) (arrV (zs 16)) 32 ∧ Blk W (B + 1 + 1 + 1) (arrV (zs 16)) 32 ∧ Blk W (kb) (arrV kerL) 104 ∧ Blk W (g) (#[.pointer (some ⟨kb, 0, none⟩)]) 97 ∧ Below (B) w W ∧ g + 1 ≤ W.heap.size) ⟨bk_, bk_, bk_, bk_, bk_, bk_, bl_, sz_⟩ ?_
      clear hA hC hR hO hKer hfar hsz
      rintro w5 ⟨hA, hC, hR, hO, hKer, hT, hfar, hsz⟩
      obtain ⟨H, hH⟩ : ∃ H, w5.heap.size = H := ⟨_, rfl⟩
      have hgH : g + 1 ≤ H := by omega
      have hszH : H ≤ w5.heap.size := by omega
      clear hsz
      have hsz := hszH
      clear hszH
      go_cut [7] from 20 to 23 (fun s7 wx => ∃ b7 gx fx cX lo hi, s7 = .pointer (some ⟨b7, 0, none⟩) ∧ H ≤ b7 ∧ Blk wx b7 #[.slice (some ⟨gx, fx, none⟩) 32 cX] 62 ∧ SL wx lo hi 1 (some ⟨gx, fx, none⟩) 32 cX (intsV (a ++ b)) ∧ H ≤ lo ∧ hi ≤ wx.heap.size ∧ Blk wx (B + 1 + 1) (arrV (zs 16)) 32 ∧ Blk wx (B + 1 + 1 + 1) (arrV (zs 16)) 32 ∧ Blk wx kb (arrV kerL) 104 ∧ Blk wx g #[.pointer (some ⟨kb, 0, none⟩)] 97 ∧ Below B w wx ∧ H ≤ wx.heap.size)
      case first =>
        refine wp_region_held_drew (S := fun W => Blk W (B) (arrV a) 32 ∧ Blk W (B + 1) (arrV b) 32 ∧ Blk W (B + 1 + 1) (arrV (zs 16)) 32 ∧ Blk W (B + 1 + 1 + 1) (arrV (zs 16)) 32 ∧ Blk W (kb) (arrV kerL) 104 ∧ Blk W (g) (#[.pointer (some ⟨kb, 0, none⟩)]) 97 ∧ Below (B) w W ∧ H ≤ W.heap.size) (by kernel_rfl) (⟨hA.drew, hC.drew, hR.drew, hO.drew, hKer.drew, hT.drew, hfar.drew, hsz⟩) (fun hH => ?_)
        have hH2 := hH
        obtain ⟨hA, hC, hR, hO, hKer, hT, hfar, hsz⟩ := hH2
        refine wpAnyH_take (i := 0) (oi := { dst := some 20, op := Op.slice 32 (Operand.tmp 2) none none none, type := 62, pos := "mdct.go:54", after := _, guard := none }) (v := .slice (some ⟨B, 0, none⟩) 16 16) rfl (by kernel_rfl) (by kernel_rfl) (by kernel_rfl) (fun _ _ _ h => h) (.inl ⟨by rfl, fun w hS => by (go_simp; try rfl)⟩) hH ?_
        try simp only [Act.put, List.setIfInBounds_toArray, List.set_cons_zero, List.set_cons_succ]
        refine wpAnyH_take (i := 1) (oi := { dst := some 21, op := Op.slice 32 (Operand.tmp 3) none none none, type := 62, pos := "mdct.go:54", after := _, guard := none }) (v := .slice (some ⟨B + 1, 0, none⟩) 16 16) rfl (by kernel_rfl) (by kernel_rfl) (by kernel_rfl) (fun _ _ _ h => h) (.inl ⟨by rfl, fun w hS => by (go_simp; try rfl)⟩) hH ?_
        try simp only [Act.put, List.setIfInBounds_toArray, List.set_cons_zero, List.set_cons_succ]
        refine wpAnyH_ready (rs := [2, 4]) (by kernel_rfl) (by simp) ?_
        refine AllReadyH.cons (o := { dst := some 22, op := Op.buildSlice 135 2 #[(0, Operand.tmp 20), (1, Operand.tmp 21)], type := 135, pos := "mdct.go:54", after := _, guard := none }) rfl (fun K hK => ?_) ?_
        · rw [if_pos (by rfl)]
          go_simp
          refine hK.out _ _ ⟨bk_, bk_, bk_, bk_, bk_, bk_, bl_, sz_⟩ (fun hH2 => ?_)
          clear hH
          have hH := hH2
          obtain ⟨hA, hC, hR, hO, hKer, hT, hfar, hsz⟩ := hH2
          clear hK K
          try simp only [Act.put, List.setIfInBounds_toArray, List.set_cons_zero, List.set_cons_succ]
          refine wpAnyH_ready (rs := [3, 4]) (by kernel_rfl) (by simp) ?_
          refine AllReadyH.cons (o := { dst := some 23, op := Op.call { callee := Callee.value (Operand.func 55), args := #[Operand.tmp 22], argTypes := #[135] }, type := 62, pos := "mdct.go:54", after := _, guard := none }) rfl (fun K hK => ?_) ?_
          · rw [if_pos (by rfl)]
            go_simp
            refine (HCON.out _ _ bk_ bk_ bk_).mono ?_
            rintro r wq ⟨v5, rfl, hv5, hb⟩
            have hbs := hb.size
            try simp only [World.size_alloc, World.size_setCell, World.size_drew, size_setRow] at hbs
            obtain ⟨pX, cX, rfl, hsX⟩ := hv5.sl
            obtain ⟨gx, fx, rfl⟩ := sl_someE hsX (by omega)
            obtain ⟨lo2, hi2, hlo2, hhi2, hsY2⟩ := sl_named hsX
            clear hsX
            try simp only [World.size_alloc, World.size_setCell, World.size_drew, size_setRow] at hlo2
            go_wp2_with fail
            refine hK.out _ _ ⟨bk_, bk_, bk_, bk_, bk_, bk_, bl_, Nat.le_trans (sz_) hb.size⟩ (fun hH2 => ?_)
            clear hH
            have hH := hH2
            obtain ⟨hA, hC, hR, hO, hKer, hT, hfar, hsz⟩ := hH2
            clear hK K
            try simp only [Act.put, List.setIfInBounds_toArray, List.set_cons_zero, List.set_cons_succ]
            refine wpAnyH_ready (rs := [4]) (by kernel_rfl) (by simp) ?_
            refine AllReadyH.cons (o := { dst := some 7, op := Op.alloc 62, type := 0, pos := "mdct.go:54", after := _, guard := none }) rfl (fun K hK => ?_) AllReadyH.nil
            rw [if_pos (by rfl)]
            go_simp
            refine hK.out _ _ ⟨bk_, bk_, bk_, bk_, bk_, bk_, bl_, sz_⟩ (fun hH2 => ?_)
            clear hH
            have hH := hH2
            obtain ⟨hA, hC, hR, hO, hKer, hT, hfar, hsz⟩ := hH2
            clear hK K
            try simp only [Act.put, List.setIfInBounds_toArray, List.set_cons_zero, List.set_cons_succ]
            refine wpAnyH_ready (rs := [5]) (by kernel_rfl) (by simp) ?_
            refine AllReadyH.cons (o := { dst := none, op := Op.store 62 (Operand.tmp 7) (Operand.tmp 23), type := 0, pos := "mdct.go:54", after := _, guard := none }) rfl (fun K hK => ?_) AllReadyH.nil
            rw [if_pos (by rfl)]
            refine wp_stI rfl rfl rfl bk_ ?_
            refine hK.out _ _ ⟨bk_, bk_, bk_, bk_, bk_, bk_, bl_, sz_⟩ (fun hH2 => ?_)
            clear hH
            have hH := hH2
            obtain ⟨hA, hC, hR, hO, hKer, hT, hfar, hsz⟩ := hH2
            clear hK K
            try simp only [Act.put]
            refine wpAnyH_done (by kernel_rfl) ?_ _
            go_wp2_with fail
            go_meet
            case rel => exact ⟨_, gx, fx, cX, lo2, hi2, rfl, by exact sz_, by exact bk_, by exact sl_, by omega, by exact sz_, by exact bk_, by exact bk_, by exact bk_, by exact bk_, by exact bl_, by exact sz_⟩
          refine AllReadyH.cons (o := { dst := some 7, op := Op.alloc 62, type := 0, pos := "mdct.go:54", after := _, guard := none }) rfl (fun K hK => ?_) AllReadyH.nil
          rw [if_pos (by rfl)]
          go_simp
          refine hK.out _ _ ⟨bk_, bk_, bk_, bk_, bk_, bk_, bl_, sz_⟩ (fun hH2 => ?_)
          clear hH
          have hH := hH2
          obtain ⟨hA, hC, hR, hO, hKer, hT, hfar, hsz⟩ := hH2
          clear hK K
          try simp only [Act.put, List.setIfInBounds_toArray, List.set_cons_zero, List.set_cons_succ]
          refine wpAnyH_ready (rs := [3]) (by kernel_rfl) (by simp) ?_
          refine AllReadyH.cons (o := { dst := some 23, op := Op.call { callee := Callee.value (Operand.func 55), args := #[Operand.tmp 22], argTypes := #[135] }, type := 62, pos := "mdct.go:54", after := _, guard := none }) rfl (fun K hK => ?_) AllReadyH.nil
          rw [if_pos (by rfl)]
          go_simp
          refine (HCON.out _ _ bk_ bk_ bk_).mono ?_
          rintro r wq ⟨v5, rfl, hv5, hb⟩
          have hbs := hb.size
          try simp only [World.size_alloc, World.size_setCell, World.size_drew, size_setRow] at hbs
          obtain ⟨pX, cX, rfl, hsX⟩ := hv5.sl
          obtain ⟨gx, fx, rfl⟩ := sl_someE hsX (by omega)
          obtain ⟨lo2, hi2, hlo2, hhi2, hsY2⟩ := sl_named hsX
          clear hsX
          try simp only [World.size_alloc, World.size_setCell, World.size_drew, size_setRow] at hlo2
          go_wp2_with fail
          refine hK.out _ _ ⟨bk_, bk_, bk_, bk_, bk_, bk_, bl_, Nat.le_trans (sz_) hb.size⟩ (fun hH2 => ?_)
          clear hH
          have hH := hH2
          obtain ⟨hA, hC, hR, hO, hKer, hT, hfar, hsz⟩ := hH2
          clear hK K
          try simp only [Act.put, List.setIfInBounds_toArray, List.set_cons_zero, List.set_cons_succ]
          refine wpAnyH_ready (rs := [5]) (by kernel_rfl) (by simp) ?_
          refine AllReadyH.cons (o := { dst := none, op := Op.store 62 (Operand.tmp 7) (Operand.tmp 23), type := 0, pos := "mdct.go:54", after := _, guard := none }) rfl (fun K hK => ?_) AllReadyH.nil
          rw [if_pos (by rfl)]
          refine wp_stI rfl rfl rfl bk_ ?_
          refine hK.out _ _ ⟨bk_, bk_, bk_, bk_, bk_, bk_, bl_, sz_⟩ (fun hH2 => ?_)
          clear hH
          have hH := hH2
          obtain ⟨hA, hC, hR, hO, hKer, hT, hfar, hsz⟩ := hH2
          clear hK K
          try simp only [Act.put]
          refine wpAnyH_done (by kernel_rfl) ?_ _
          go_wp2_with fail
          go_meet
          case rel => exact ⟨_, gx, fx, cX, lo2, hi2, rfl, by exact sz_, by exact bk_, by exact sl_, by omega, by exact sz_, by exact bk_, by exact bk_, by exact bk_, by exact bk_, by exact bl_, by exact sz_⟩
        refine AllReadyH.cons (o := { dst := some 7, op := Op.alloc 62, type := 0, pos := "mdct.go:54", after := _, guard := none }) rfl (fun K hK => ?_) AllReadyH.nil
        rw [if_pos (by rfl)]
        go_simp
        refine hK.out _ _ ⟨bk_, bk_, bk_, bk_, bk_, bk_, bl_, sz_⟩ (fun hH2 => ?_)
        clear hH
        have hH := hH2
        obtain ⟨hA, hC, hR, hO, hKer, hT, hfar, hsz⟩ := hH2
        clear hK K
        try simp only [Act.put, List.setIfInBounds_toArray, List.set_cons_zero, List.set_cons_succ]
        refine wpAnyH_ready (rs := [2]) (by kernel_rfl) (by simp) ?_
        refine AllReadyH.cons (o := { dst := some 22, op := Op.buildSlice 135 2 #[(0, Operand.tmp 20), (1, Operand.tmp 21)], type := 135, pos := "mdct.go:54", after := _, guard := none }) rfl (fun K hK => ?_) AllReadyH.nil
        rw [if_pos (by rfl)]
        go_simp
        refine hK.out _ _ ⟨bk_, bk_, bk_, bk_, bk_, bk_, bl_, sz_⟩ (fun hH2 => ?_)
        clear hH
        have hH := hH2
        obtain ⟨hA, hC, hR, hO, hKer, hT, hfar, hsz⟩ := hH2
        clear hK K
        try simp only [Act.put, List.setIfInBounds_toArray, List.set_cons_zero, List.set_cons_succ]
        refine wpAnyH_ready (rs := [3]) (by kernel_rfl) (by simp) ?_
        refine AllReadyH.cons (o := { dst := some 23, op := Op.call { callee := Callee.value (Operand.func 55), args := #[Operand.tmp 22], argTypes := #[135] }, type := 62, pos := "mdct.go:54", after := _, guard := none }) rfl (fun K hK => ?_) AllReadyH.nil
        rw [if_pos (by rfl)]
        go_simp
        refine (HCON.out _ _ bk_ bk_ bk_).mono ?_
        rintro r wq ⟨v5, rfl, hv5, hb⟩
        have hbs := hb.size
        try simp only [World.size_alloc, World.size_setCell, World.size_drew, size_setRow] at hbs
        obtain ⟨pX, cX, rfl, hsX⟩ := hv5.sl
        obtain ⟨gx, fx, rfl⟩ := sl_someE hsX (by omega)
        obtain ⟨lo2, hi2, hlo2, hhi2, hsY2⟩ := sl_named hsX
        clear hsX
        try simp only [World.size_alloc, World.size_setCell, World.size_drew, size_setRow] at hlo2
        go_wp2_with fail
        refine hK.out _ _ ⟨bk_, bk_, bk_, bk_, bk_, bk_, bl_, Nat.le_trans (sz_) hb.size⟩ (fun hH2 => ?_)
        clear hH
        have hH := hH2
        obtain ⟨hA, hC, hR, hO, hKer, hT, hfar, hsz⟩ := hH2
        clear hK K
        try simp only [Act.put, List.setIfInBounds_toArray, List.set_cons_zero, List.set_cons_succ]
        refine wpAnyH_ready (rs := [5]) (by kernel_rfl) (by simp) ?_
        refine AllReadyH.cons (o := { dst := none, op := Op.store 62 (Operand.tmp 7) (Operand.tmp 23), type := 0, pos := "mdct.go:54", after := _, guard := none }) rfl (fun K hK => ?_) AllReadyH.nil
        rw [if_pos (by rfl)]
        refine wp_stI rfl rfl rfl bk_ ?_
        refine hK.out _ _ ⟨bk_, bk_, bk_, bk_, bk_, bk_, bl_, sz_⟩ (fun hH2 => ?_)
        clear hH
        have hH := hH2
        obtain ⟨hA, hC, hR, hO, hKer, hT, hfar, hsz⟩ := hH2
        clear hK K
        try simp only [Act.put]
        refine wpAnyH_done (by kernel_rfl) ?_ _
        go_wp2_with fail
        go_meet
        case rel => exact ⟨_, gx, fx, cX, lo2, hi2, rfl, by exact sz_, by exact bk_, by exact sl_, by omega, by exact sz_, by exact bk_, by exact bk_, by exact bk_, by exact bk_, by exact bl_, by exact sz_⟩
      case rest =>
        clear hA hC hR hO hKer hT hfar hsz
        obtain ⟨b7, gx, fx, cX, lo, hi, rfl, hb7, hX, hS, hlo, hhi, hR, hO, hKer, hT, hfar, hsz⟩ := hcut
        have hz16 : (zs 16).length = 16 := Len.zs 16
        have hms := fun (k : Nat) (hk : k < 16) (gk : Nat) W (h : WavesR W b7 g gk kb gx fx cX lo hi (a ++ b) k) => msum_any 57 (.pointer (some ⟨b7, 0, none⟩)) (.pointer (some ⟨g, 0, none⟩)) (.pointer (some ⟨gk, 0, none⟩)) 32 (by omega) (waveT a b k)
          (fun n => by have h := waveT_bd HWA.out HWB.out k n; omega) (fun W => WavesR W b7 g gk kb gx fx cX lo hi (a ++ b) k) (fun _ _ h hb => h.newB hb) W h (fun _ _ => by kernel_rfl) (fun n hn W h => Waves1_any a b LA.out LB.out HWA.out HWB.out b7 g gk kb gx fx cX lo hi k n hk hn W h)
        have HMS := Lib.hid hms
        have hwk : ∀ k, Sp.shiftN 17 (sumF (waveT a b k) 32) = wave1 a b k := fun _ => rfl
        have HWK := Lib.hid hwk
        have hlo3 : B + 1 + 1 + 1 < lo := by omega
        have hb73 : B + 1 + 1 + 1 < b7 := by omega
        clear hms hwk HCON
        go_wp2_with fail
        go_loopw [24] (fun i wr => ∃ k : Nat, k ≤ 16 ∧ i = .int .i64 k ∧ Blk wr b7 #[.slice (some ⟨gx, fx, none⟩) 32 cX] 62 ∧ SL wr lo hi 1 (some ⟨gx, fx, none⟩) 32 cX (intsV (a ++ b)) ∧ Blk wr (B + 1 + 1) (arrV (zs 16)) 32 ∧ Blk wr (B + 1 + 1 + 1) (arrV (turnF V (zs 16) k)) 32 ∧ Blk wr kb (arrV kerL) 104 ∧ Blk wr g #[.pointer (some ⟨kb, 0, none⟩)] 97 ∧ Below B w wr ∧ H ≤ wr.heap.size) (fun i _ => 16 - (intOf i).toNat)
        case atStart => exact ⟨0, by omega, rfl, hX, hS, hR, by rw [turnF_zero]; exact hO, hKer, hT, hfar, hsz⟩
        case round =>
          clear hX hS hR hO hKer hT hfar hsz hhi
          obtain ⟨k, hk, rfl, hX, hS, hR, hO, hKer, hT, hfar, hsz⟩ := hrel
          by_cases hlt : k < 16
          · have hlti : (k : Int) < 16 := by omega
            have hset := turnF_set (k := k) LV.out hz16 hlt (HGA.out k hlt)
            have LT := turnF_len (k := k) LV.out hz16 (Nat.le_of_lt hlt)
            obtain ⟨T, hTe⟩ : ∃ T, turnF V (zs 16) k = T := ⟨_, rfl⟩
            rw [hTe] at hset hO LT
            have hms := HMS.out k hlt
            have hsh := fun W => Shift17 (sumF (waveT a b k) 32) W
            rw [HWK.out k] at hsh
            obtain ⟨s, hs⟩ : ∃ s, sumF (waveT a b k) 32 = s := ⟨_, rfl⟩
            obtain ⟨y, hy⟩ : ∃ y, wave1 a b k = y := ⟨_, rfl⟩
            rw [hs] at hms
            rw [hs, hy] at hsh
            rw [hy] at hset
            have HMS1 := Lib.hid hms
            have HSH := Lib.hid hsh
            have HSET := Lib.hid hset
            obtain ⟨gk, hgk⟩ : ∃ x, wr.heap.size = x := ⟨_, rfl⟩
            have hHk : H ≤ gk := by omega
            clear hms hsh hset hs hy hTe
            go_upto_region 9 with (fail)
            refine wp_gen (fun W => Blk W (b7) (#[.slice (some ⟨gx, fx, none⟩) 32 cX]) 62 ∧ SL W (lo) (hi) (1) (some ⟨gx, fx, none⟩) (32) (cX) (intsV (a ++ b)) ∧ Blk W (B + 1 + 1) (arrV (zs 16)) 32 ∧ Blk W (B + 1 + 1 + 1) (arrV T) 32 ∧ Blk W (kb) (arrV kerL) 104 ∧ Blk W (g) (#[.pointer (some ⟨kb, 0, none⟩)]) 97 ∧ Blk W (gk) (#[.int .i64 k]) 3 ∧ Below (B) w W ∧ gk + 1 ≤ W.heap.size) ⟨bk_, sl_, bk_, bk_, bk_, bk_, bk_, bl_, sz_⟩ ?_
            clear hX hS hR hO hKer hT hfar hsz
            rintro w1 ⟨hX, hS, hR, hO, hKer, hT, hk1, hfar, hsz⟩
            go_wp2_with fail
            refine (HMS1.out gk _ ⟨hX, hS, hT, hk1, hKer⟩).mono ?_
            rintro e w2 ⟨rfl, hb2⟩
            replace hX := hX.newB hb2
            replace hS := hS.newB hb2
            replace hR := hR.newB hb2
            replace hO := hO.newB hb2
            replace hKer := hKer.newB hb2
            replace hT := hT.newB hb2
            replace hk1 := hk1.newB hb2
            replace hfar := hfar.trans (hb2.mono (by omega))
            replace hsz := Nat.le_trans hsz hb2.size
            have c2 := (hO.cell k).trans (arr_get (l := T) (by rw [LT.out]; omega))
            have f2 := hO.frozen k
            have hgO : gk ≠ B + 1 + 1 + 1 := by omega
            go_upto_region 10 with (fail)
            refine wp_region_held_drew (S := fun W => Blk W (gk) (#[.int .i64 k]) 3) (by kernel_rfl) (hk1.drew) (fun hH => ?_)
            refine wpAnyH_take (i := 0) (oi := { dst := some 29, op := Op.load 3 (Operand.tmp 8), type := 3, pos := "mdct.go:57", after := _, guard := none }) (v := _) rfl (by kernel_rfl) (by kernel_rfl) (by kernel_rfl) (fun _ _ _ h => h) (.inl ⟨by rfl, fun w hS => by (have c := (show w.cell? ⟨gk, 0, none⟩ = some (.int .i64 k) from by simpa using hS.cell 0); go_simp; try rfl)⟩) hH ?_
            try simp only [Act.put, List.setIfInBounds_toArray, List.set_cons_zero, List.set_cons_succ]
            refine wpAnyH_take (i := 1) (oi := { dst := some 30, op := Op.move (Operand.tmp 9), type := 3, pos := "mdct.go:57", after := _, guard := none }) (v := _) rfl (by kernel_rfl) (by kernel_rfl) (by kernel_rfl) (fun _ _ _ h => h) (.inl ⟨by rfl, fun w hS => by (go_simp; try rfl)⟩) hH ?_
            try simp only [Act.put, List.setIfInBounds_toArray, List.set_cons_zero, List.set_cons_succ]
            refine wpAnyH_ready (rs := [2]) (by kernel_rfl) (by simp) ?_
            refine AllReadyH.cons (o := { dst := some 31, op := Op.call { callee := Callee.value (Operand.func 58), args := #[Operand.tmp 30, Operand.const (Value.int IntKind.i64 17)], argTypes := #[3, 3] }, type := 3, pos := "mdct.go:57", after := _, guard := none }) rfl (fun K hK => ?_) AllReadyH.nil
            rw [if_pos (by rfl)]
            go_simp
            refine (HSH.out _).mono ?_
            rintro r wq ⟨rfl, rfl⟩
            go_wp2_with fail
            refine hK.out _ _ hH (fun hH => ?_)
            clear hK K
            try simp only [Act.put, List.setIfInBounds_toArray, List.set_cons_zero, List.set_cons_succ]
            refine wpAnyH_take (i := 3) (oi := { dst := some 32, op := Op.indexAddr 32 (Operand.tmp 5) (Operand.tmp 29), type := 0, pos := "mdct.go:57", after := _, guard := none }) (v := _) rfl (by kernel_rfl) (by kernel_rfl) (by kernel_rfl) (fun _ _ _ h => h) (.inl ⟨by rfl, fun w hS => by (go_simp; try rfl)⟩) hH ?_
            try simp only [Act.put, List.setIfInBounds_toArray, List.set_cons_zero, List.set_cons_succ]
            refine wpAnyH_ready (rs := [4]) (by kernel_rfl) (by simp) ?_
            refine AllReadyH.cons (o := { dst := none, op := Op.store 3 (Operand.tmp 32) (Operand.tmp 31), type := 0, pos := "mdct.go:57", after := _, guard := none }) rfl (fun K hK => ?_) AllReadyH.nil
            rw [if_pos (by rfl)]
            go_simp
            refine hK.out _ _ bk_ (fun hH => ?_)
            clear hK K
            try simp only [Act.put]
            refine wpAnyH_done (by kernel_rfl) ?_ _
            go_wp2_with fail
            go_roundw
            case rel => exact ⟨k + 1, hlt, by go_num, by exact bk_, by exact sl_, by exact bk_, by rw [← HSET.out]; exact bk_, by exact bk_, by exact bk_, by exact bl_, by exact sz_⟩
            case measure => simp [intOf]; omega
          · obtain rfl : k = 16 := by omega
            rw [turnF_all LV.out hz16] at hO
            go_wp2_with (first | (refine ld 32 rfl (by rfl) w_Block rfl hO LV.sz ?_) | (refine st 32 rfl (by rfl) w_Block rfl rfl bk_ lz_ LV.sz one_ ?_))
            exact bodyPost_ret (v := .agg (arrV V)) (res_c Tryz.results20 rfl w_Block (by exact bk_) LV.sz) rfl ⟨rfl, (by (try rw [hB]); exact bl_)⟩
end Go.Proofs.YthpjkgpngbdhbaaGreatDoor
