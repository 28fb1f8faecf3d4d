/- The walk of spoollaw21.SpecTruths: whatever comes in, it returns true. -/
import Derived.Test.YtbpdocdomjafbaaDoorApp
import Derived.Test.YtbpdocdomjafbaaDoorChk
import Derived.Test.YtbpdocdomjafbaaDoorLot8
set_option linter.unusedSimpArgs false
set_option linter.unusedVariables false
namespace Go.Proofs.YtbpdocdomjafbaaDoor
open Go.RowKit

theorem truths_chk {l : List Ent} {T : Nat} (hT : truthsE (zs 38) l = T) (sp : Int) : truthsE (zs 38) (l.take T ++ [chkE sp (foldS (zs 38) (l.take T))]) = T + 1 := by
  subst hT
  have h := truths_take (zs 38) l
  have hl : (l.take (truthsE (zs 38) l)).length = truthsE (zs 38) l := by rw [List.length_take]; have := truths_le (zs 38) l; omega
  have h38 : (zs 38).length = 38 := by simp [zs]
  have hr := foldS_right h38 rightS_zero (l.take (truthsE (zs 38) l))
  have hlen := foldS_len h38 (l.take (truthsE (zs 38) l))
  rw [truths_app _ _ _ h, hl, truthsE, (chk_true hlen hr sp).2 _ hr]
  simp [truthsE]
set_option maxRecDepth 100000 in
set_option maxHeartbeats 40000000 in
theorem SpecTruths_any (l : List Ent) (p : Option Addr) (cap : Nat) (O : List Int) (hO : O.length = 38) (w : World) (hW : BandsW w) (hE : EntIn w p cap l) :
    Calls Tryd.prog 10 #[.slice p l.length cap, .agg (arrV O)] w fun r w' => r = .returned (.bool true) ∧ Below w.heap.size w w' := by
  have hBW : Blk w 0 bandC 142 := hW
  have hB0 := hW.lt
  have LO := Len.mk hO
  have hc1 := hE.1
  have hc2 := hE.2.1
  have hfew := few_any l p cap
  have hCkO := fun w => Check_any 1 O hO w
  obtain ⟨n, hn⟩ : ∃ n, l.length = n := ⟨_, rfl⟩
  have HN := Lib.hid hn
  have hOf := fun h w => Of21_any l h p cap w
  rw [hn] at hc1 hfew hOf ⊢
  obtain ⟨E, hEe⟩ : ∃ E, bytesE O = E := ⟨_, rfl⟩
  obtain ⟨D, hD⟩ : ∃ D, chkV 1 O = D := ⟨_, rfl⟩
  simp only [hEe, hD] at hCkO
  have HEE := Lib.hid hEe
  have HD := Lib.hid hD
  have HCKO := Lib.hid hCkO
  have HFEW := Lib.hid hfew
  have HOF := Lib.hid hOf
  have HE := Lib.hid hE
  clear hE hn hW hfew hOf hO hCkO hEe hD
  obtain ⟨B, hB⟩ : ∃ B, w.heap.size = B := ⟨_, rfl⟩
  rw [hB] at hB0
  have hfar := Below.refl B w
  have hsz : B ≤ w.heap.size := by omega
  go_enter Tryd.func10, Tryd.ntmps10
  go_upto_region 1 with (fail)
  refine wp_gen (fun W => Blk W (0) (bandC) 142 ∧ Blk W (B) (arrV O) 25 ∧ Below (B) w W ∧ B + 1 ≤ W.heap.size) ⟨bk_, bk_, bl_, sz_⟩ ?_
  clear hBW hfar hsz
  rintro w1 ⟨hBW, hA, hfar, hsz⟩
  go_wp2_with fail
  refine (awake_any _ hBW).mono ?_
  rintro e w2 ⟨rfl, hb2⟩
  replace hBW := hBW.newB hb2
  replace hA := hA.newB hb2
  replace hfar := hfar.trans (hb2.mono (by omega))
  replace hsz := Nat.le_trans hsz hb2.size
  go_wp2_with fail
  refine (HFEW.out _ (HE.out.below hB.symm hfar)).mono ?_
  rintro r wf ⟨rfl, rfl⟩
  cases hf : fewE l with
  | false =>
    go_wp2_with fail
    refine (awake_any _ hBW).mono ?_
    rintro e w3 ⟨rfl, hb3⟩
    replace hBW := hBW.newB hb3
    replace hA := hA.newB hb3
    replace hfar := hfar.trans (hb3.mono (by omega))
    replace hsz := Nat.le_trans hsz hb3.size
    go_wp2_with fail
    go_ret
    exact ⟨rfl, (by (try rw [hB]); exact bl_)⟩
  | true =>
    have h25 : n ≤ 25 := by rw [← HN.out]; exact few_len hf
    clear hf
    go_wp2_with fail
    refine (HOF.out (by omega) _ (HE.out.below hB.symm hfar)).mono ?_
    obtain ⟨q0, hq0⟩ : ∃ q, w2.heap.size = q := ⟨_, rfl⟩
    have hq0B : B + 1 ≤ q0 := by omega
    rintro r w3 ⟨v3, rfl, hv3, hb3⟩
    replace hBW := hBW.newB hb3
    replace hA := hA.newB hb3
    replace hfar := hfar.trans (hb3.mono (by omega))
    replace hsz := Nat.le_trans hsz hb3.size
    obtain ⟨p2, c2, rfl, hQ⟩ := hv3.sl
    rw [HN.out] at hQ ⊢
    have hnc : n ≤ c2 := hQ.2.1
    have hcm := hQ.2.2.1
    unfold maxLen at hcm
    obtain ⟨q1, hq1⟩ : ∃ q, w3.heap.size = q := ⟨_, rfl⟩
    rw [hq0, hq1] at hQ
    have hq1B : B + 1 ≤ q1 := by omega
    replace hsz : q1 ≤ w3.heap.size := by omega
    clear hv3 hq0 hq1
    have hTn : truthsE (zs 38) l ≤ n := by rw [← HN.out]; exact truths_le _ _
    have hTr := fun w (hW : BandsW w) (hs : SL w q0 q1 3 p2 n c2 (flE l)) => Truths_any HN.out (by omega) hW hs
    obtain ⟨T, hT⟩ : ∃ T, truthsE (zs 38) l = T := ⟨_, rfl⟩
    rw [hT] at hTn
    simp only [hT] at hTr
    have HT := Lib.hid hT
    have HTR := Lib.hid hTr
    clear hT hTr
    go_wp2_with fail
    refine (HTR.out _ hBW hQ).mono ?_
    rintro e w4 ⟨rfl, hb4⟩
    replace hBW := hBW.newB hb4
    replace hA := hA.newB hb4
    replace hQ := hQ.newB hb4
    replace hfar := hfar.trans (hb4.mono (by omega))
    replace hsz := Nat.le_trans hsz hb4.size
    obtain ⟨g, hs_g⟩ : ∃ g, w4.heap.size = g := ⟨_, rfl⟩
    have hk_g : q1 ≤ g := by omega
    go_upto_region 6 with (fail)
    refine wp_gen (fun W => Blk W (0) (bandC) 142 ∧ Blk W (B) (arrV O) 25 ∧ SL W (q0) (q1) (3) (p2) (n) (c2) (flE l) ∧ Blk W (g) (arrV (zs 38)) 34 ∧ Below (B) w W ∧ g + 1 ≤ W.heap.size) ⟨bk_, bk_, sl_, bk_, bl_, sz_⟩ ?_
    clear hBW hA hQ hfar hsz
    rintro w5 ⟨hBW, hA, hQ, hS, hfar, hsz⟩
    go_wp2_with fail
    go_loopw [8] (fun i wr => ∃ k : Nat, k ≤ n ∧ k ≤ T + 1 ∧ i = .int .i64 k ∧ Blk wr 0 bandC 142 ∧ Blk wr B (arrV O) 25 ∧ SL wr q0 q1 3 p2 n c2 (flE l) ∧ Blk wr g (arrV (foldS (zs 38) (l.take k))) 34 ∧ Below B w wr ∧ g + 1 ≤ wr.heap.size) (fun i _ => n - (intOf i).toNat)
    case atStart => exact ⟨0, by omega, by omega, rfl, hBW, hA, hQ, hS, hfar, hsz⟩
    case round =>
      clear hBW hA hQ hS hfar hsz
      obtain ⟨k, hk, hkT1, rfl, hBW, hA, hQ, hS, hfar, hsz⟩ := hrel
      by_cases hgo : k < n ∧ k ≤ T
      · obtain ⟨hlt, hkT⟩ := hgo
        have hkl : k < l.length := by rw [HN.out]; exact hlt
        obtain ⟨e, he⟩ : ∃ e, l[k]? = some e := ⟨_, List.getElem?_eq_getElem hkl⟩
        have hES : ES wr q0 q1 p2 c2 l := by unfold ES; rw [HN.out]; exact hQ
        obtain ⟨b, o, rfl, hb1, hb2', hr⟩ := hES.get he
        have hS1 : foldS (zs 38) (l.take (k + 1)) = stepS (foldS (zs 38) (l.take k)) e := by rw [List.take_add_one, he, Option.toList_some, foldS_app]; rfl
        have htv : trueE (foldS (zs 38) (l.take k)) e = decide (k < T) := by
          by_cases h : k < T
          · rw [true_at he (by rw [HT.out]; exact h)]; simp [h]
          · obtain rfl : k = T := by omega
            have hT' := HT.out
            rw [← hT'] at he ⊢
            rw [true_stop he]; simp
        have LF := Len.mk (foldS_len (L := zs 38) (by simp [zs]) (l.take k))
        obtain ⟨M, hM⟩ : ∃ M, foldS (zs 38) (l.take k) = M := ⟨_, rfl⟩
        rw [hM] at hS1 hS LF htv
        have hTr2 := fun w => True_any M LF.out e w
        have hSt := fun w hW => Step_any M LF.out e w hW
        rw [htv] at hTr2
        obtain ⟨tv, htve⟩ : ∃ tv, decide (k < T) = tv := ⟨_, rfl⟩
        simp only [htve] at hTr2
        have LS := Len.mk (stepS_len LF.out e)
        obtain ⟨M2, hM2⟩ : ∃ M2, stepS M e = M2 := ⟨_, rfl⟩
        rw [hM2] at hS1 hSt LS
        have HTR2 := Lib.hid hTr2
        have HST := Lib.hid hSt
        have HS1 := Lib.hid hS1
        have HDEC := Lib.hid htve
        clear hM hS1 hTr2 hSt hkl he hES htv htve hM2
        obtain ⟨N, hN⟩ : ∃ N, wr.heap.size = N := ⟨_, rfl⟩
        have HNN := Lib.hid hN
        have hgN : g + 1 ≤ N := by omega
        clear hN
        go_upto_region 9 with (fail)
        go_cut [47] from 38 to 46 (fun s47 wx => s47 = .bool false ∧ Below N wr wx)
        case first =>
          refine wp_region_held_drew (S := fun W => Below N wr W) (by kernel_rfl) ((Below.refl N wr).drew) (fun hH => ?_)
          refine wpAnyH_take (i := 0) (oi := { dst := some 38, op := Op.load 34 (Operand.tmp 7), type := 34, pos := "law.go:97", after := _, guard := none }) (v := .agg (arrV M)) rfl (by kernel_rfl) (by kernel_rfl) (by kernel_rfl) (fun _ _ _ h => h) (yieldsIf_ld (by rfl) 34 rfl w_State rfl (fun _ hS2 => hS.below hS2 (by omega)) LF.sz) hH ?_
          try simp only [Act.put, List.setIfInBounds_toArray, List.set_cons_zero, List.set_cons_succ]
          refine wpAnyH_take (i := 1) (oi := { dst := some 39, op := Op.move (Operand.tmp 5), type := 29, pos := "law.go:97", after := _, guard := none }) (v := _) rfl (by kernel_rfl) (by kernel_rfl) (by kernel_rfl) (fun _ _ _ h => h) (.inl ⟨by rfl, fun w hS => by (go_simp; try rfl)⟩) hH ?_
          try simp only [Act.put, List.setIfInBounds_toArray, List.set_cons_zero, List.set_cons_succ]
          refine wpAnyH_take (i := 2) (oi := { dst := some 40, op := Op.move (Operand.tmp 8), type := 3, pos := "law.go:97", after := _, guard := none }) (v := _) rfl (by kernel_rfl) (by kernel_rfl) (by kernel_rfl) (fun _ _ _ h => h) (.inl ⟨by rfl, fun w hS => by (go_simp; try rfl)⟩) hH ?_
          try simp only [Act.put, List.setIfInBounds_toArray, List.set_cons_zero, List.set_cons_succ]
          refine wpAnyH_take (i := 3) (oi := { dst := some 41, op := Op.indexAddr 29 (Operand.tmp 39) (Operand.tmp 40), type := 0, pos := "law.go:97", after := _, guard := none }) (v := _) rfl (by kernel_rfl) (by kernel_rfl) (by kernel_rfl) (fun _ _ _ h => h) (.inl ⟨by rfl, fun w hS => by (go_simp; try rfl)⟩) hH ?_
          try simp only [Act.put, List.setIfInBounds_toArray, List.set_cons_zero, List.set_cons_succ]
          refine wpAnyH_take (i := 4) (oi := { dst := some 42, op := Op.load 43 (Operand.tmp 41), type := 43, pos := "law.go:97", after := _, guard := none }) (v := .agg (entV e)) rfl (by kernel_rfl) (by kernel_rfl) (by kernel_rfl) (fun _ _ _ h => h) (yieldsIf_ldr (by rfl) 43 rfl w_Entry rfl (fun _ hS2 => range_below hr hS2 (by omega)) rfl) hH ?_
          try simp only [Act.put, List.setIfInBounds_toArray, List.set_cons_zero, List.set_cons_succ]
          refine wpAnyH_take (i := 6) (oi := { dst := some 44, op := Op.move (Operand.tmp 8), type := 3, pos := "law.go:97", after := _, guard := none }) (v := _) rfl (by kernel_rfl) (by kernel_rfl) (by kernel_rfl) (fun _ _ _ h => h) (.inl ⟨by rfl, fun w hS => by (go_simp; try rfl)⟩) hH ?_
          try simp only [Act.put, List.setIfInBounds_toArray, List.set_cons_zero, List.set_cons_succ]
          refine wpAnyH_take (i := 7) (oi := { dst := some 45, op := Op.move (Operand.tmp 6), type := 3, pos := "law.go:97", after := _, guard := none }) (v := _) rfl (by kernel_rfl) (by kernel_rfl) (by kernel_rfl) (fun _ _ _ h => h) (.inl ⟨by rfl, fun w hS => by (go_simp; try rfl)⟩) hH ?_
          try simp only [Act.put, List.setIfInBounds_toArray, List.set_cons_zero, List.set_cons_succ]
          refine wpAnyH_take (i := 8) (oi := { dst := some 46, op := Op.binOp BinOp.lss 3 (Operand.tmp 44) (Operand.tmp 45) 3, type := 4, pos := "law.go:97", after := _, guard := none }) (v := .bool tv) rfl (by kernel_rfl) (by kernel_rfl) (by kernel_rfl) (fun _ _ _ h => h) (.inl ⟨by rfl, fun w hS => by (have hd := HDEC.out; go_simp; try first | exact hd | (rw [hd]) | simp [hd])⟩) hH ?_
          try simp only [Act.put, List.setIfInBounds_toArray, List.set_cons_zero, List.set_cons_succ]
          refine wpAnyH_ready (rs := [5]) (by kernel_rfl) (by simp) ?_
          refine AllReadyH.cons (o := { dst := some 43, op := Op.call { callee := Callee.value (Operand.func 30), args := #[Operand.tmp 38, Operand.tmp 42], argTypes := #[34, 43] }, type := 4, pos := "law.go:97", after := _, guard := none }) rfl (fun K hK => ?_) AllReadyH.nil
          rw [if_pos (by rfl)]
          go_simp
          refine (HTR2.out _).mono ?_
          rintro r wq ⟨rfl, hb⟩
          have hbs := hb.size
          try simp only [World.size_alloc, World.size_setCell, World.size_drew, size_setRow] at hbs
          go_wp2_with fail
          refine hK.out _ _ (hH.trans (hb.mono (Nat.le_trans (Nat.le_of_eq HNN.out.symm) hH.size))) (fun hH => ?_)
          clear hK K
          try simp only [Act.put, List.setIfInBounds_toArray, List.set_cons_zero, List.set_cons_succ]
          refine wpAnyH_take (i := 9) (oi := { dst := some 47, op := Op.binOp BinOp.neq 4 (Operand.tmp 43) (Operand.tmp 46) 4, type := 4, pos := "law.go:97", after := _, guard := none }) (v := .bool false) rfl (by kernel_rfl) (by kernel_rfl) (by kernel_rfl) (fun _ _ _ h => h) (.inl ⟨by rfl, fun w hS => by (go_simp; try simp)⟩) hH ?_
          try simp only [Act.put, List.setIfInBounds_toArray, List.set_cons_zero, List.set_cons_succ]
          refine wpAnyH_done (by kernel_rfl) ?_ _
          go_wp2_with fail
          go_meet
          case rel => exact ⟨rfl, hH⟩
        case rest =>
          obtain ⟨rfl, hbx⟩ := hcut
          replace hBW := hBW.below hbx (by omega)
          replace hA := hA.below hbx (by omega)
          replace hQ := hQ.below (hbx.mono (by omega))
          replace hS := hS.below hbx (by omega)
          replace hfar := hfar.trans (hbx.mono (by omega))
          have hrx := range_below hr hbx (by omega)
          have hsz : g + 1 ≤ wc.heap.size := by have h1 := hbx.size; have h2 := HNN.out; omega
          clear hr hbx
          go_upto_region 11 with (fail)
          refine wp_region_held_drew (S := fun W => True) (by kernel_rfl) ⟨⟩ (fun hH => ?_)
          refine wpAnyH_take (i := 1) (oi := { dst := some 50, op := Op.move (Operand.tmp 5), type := 29, pos := "law.go:100", after := _, guard := none }) (v := _) rfl (by kernel_rfl) (by kernel_rfl) (by kernel_rfl) (fun _ _ _ h => h) (.inl ⟨by rfl, fun w hS => by (go_simp; try rfl)⟩) hH ?_
          try simp only [Act.put, List.setIfInBounds_toArray, List.set_cons_zero, List.set_cons_succ]
          refine wpAnyH_take (i := 2) (oi := { dst := some 51, op := Op.move (Operand.tmp 8), type := 3, pos := "law.go:100", after := _, guard := none }) (v := _) rfl (by kernel_rfl) (by kernel_rfl) (by kernel_rfl) (fun _ _ _ h => h) (.inl ⟨by rfl, fun w hS => by (go_simp; try rfl)⟩) hH ?_
          try simp only [Act.put, List.setIfInBounds_toArray, List.set_cons_zero, List.set_cons_succ]
          refine wpAnyH_take (i := 3) (oi := { dst := some 52, op := Op.indexAddr 29 (Operand.tmp 50) (Operand.tmp 51), type := 0, pos := "law.go:100", after := _, guard := none }) (v := _) rfl (by kernel_rfl) (by kernel_rfl) (by kernel_rfl) (fun _ _ _ h => h) (.inl ⟨by rfl, fun w hS => by (go_simp; try rfl)⟩) hH ?_
          try simp only [Act.put, List.setIfInBounds_toArray, List.set_cons_zero, List.set_cons_succ]
          refine wpAnyH_ready (rs := [0, 4]) (by kernel_rfl) (by simp) ?_
          refine AllReadyH.cons (o := { dst := some 49, op := Op.load 34 (Operand.tmp 7), type := 34, pos := "law.go:100", after := _, guard := none }) rfl (fun K hK => ?_) ?_
          · rw [if_pos (by rfl)]
            refine wp_ld 34 rfl w_State rfl hS.drew LF.sz ?_
            refine hK.out _ _ trivial (fun hH => ?_)
            clear hK K
            try simp only [Act.put, List.setIfInBounds_toArray, List.set_cons_zero, List.set_cons_succ]
            refine wpAnyH_ready (rs := [4]) (by kernel_rfl) (by simp) ?_
            refine AllReadyH.cons (o := { dst := some 53, op := Op.load 43 (Operand.tmp 52), type := 43, pos := "law.go:100", after := _, guard := none }) rfl (fun K hK => ?_) AllReadyH.nil
            rw [if_pos (by rfl)]
            refine wp_ldr 43 rfl w_Entry rfl hrx rfl ?_
            refine hK.out _ _ trivial (fun hH => ?_)
            clear hK K
            try simp only [Act.put, List.setIfInBounds_toArray, List.set_cons_zero, List.set_cons_succ]
            refine wpAnyH_ready (rs := [5]) (by kernel_rfl) (by simp) ?_
            refine AllReadyH.cons (o := { dst := some 54, op := Op.call { callee := Callee.value (Operand.func 31), args := #[Operand.tmp 49, Operand.tmp 53], argTypes := #[34, 43] }, type := 35, pos := "law.go:100", after := _, guard := none }) rfl (fun K hK => ?_) AllReadyH.nil
            rw [if_pos (by rfl)]
            go_simp
            refine (HST.out _ hBW.drew).mono ?_
            rintro r wq ⟨v4, rfl, hv4, hb⟩
            have hbs := hb.size
            try simp only [World.size_alloc, World.size_setCell, World.size_drew, size_setRow] at hbs
            go_wp2_with fail
            refine hK.out _ _ trivial (fun hH => ?_)
            clear hK K
            try simp only [Act.put, List.setIfInBounds_toArray, List.set_cons_zero, List.set_cons_succ]
            refine wpAnyH_take (i := 6) (oi := { dst := some 48, op := Op.move (Operand.tmp 54), type := 35, pos := "law.go:100", after := _, guard := none }) (v := _) rfl (by kernel_rfl) (by kernel_rfl) (by kernel_rfl) (fun _ _ _ h => h) (.inl ⟨by rfl, fun w hS => by (go_simp; try rfl)⟩) hH ?_
            try simp only [Act.put, List.setIfInBounds_toArray, List.set_cons_zero, List.set_cons_succ]
            refine wpAnyH_take (i := 7) (oi := { dst := some 55, op := Op.extract (Operand.tmp 48) 0, type := 31, pos := "law.go:100", after := _, guard := none }) (v := _) rfl (by kernel_rfl) (by kernel_rfl) (by kernel_rfl) (fun _ _ _ h => h) (.inl ⟨by rfl, fun w hS => by (go_simp; try rfl)⟩) hH ?_
            try simp only [Act.put, List.setIfInBounds_toArray, List.set_cons_zero, List.set_cons_succ]
            refine wpAnyH_take (i := 8) (oi := { dst := some 56, op := Op.extract (Operand.tmp 48) 1, type := 34, pos := "law.go:100", after := _, guard := none }) (v := _) rfl (by kernel_rfl) (by kernel_rfl) (by kernel_rfl) (fun _ _ _ h => h) (.inl ⟨by rfl, fun w hS => by (go_simp; try rfl)⟩) hH ?_
            try simp only [Act.put, List.setIfInBounds_toArray, List.set_cons_zero, List.set_cons_succ]
            refine wpAnyH_ready (rs := [9]) (by kernel_rfl) (by simp) ?_
            refine AllReadyH.cons (o := { dst := none, op := Op.store 34 (Operand.tmp 7) (Operand.tmp 56), type := 0, pos := "law.go:100", after := _, guard := none }) rfl (fun K hK => ?_) AllReadyH.nil
            rw [if_pos (by rfl)]
            refine wp_st 34 rfl w_State rfl rfl bk_ zz_ zz_ one_ ?_
            refine hK.out _ _ trivial (fun hH => ?_)
            clear hK K
            try simp only [Act.put]
            refine wpAnyH_done (by kernel_rfl) ?_ _
            go_wp2_with fail
            go_roundw
            case rel => exact ⟨k + 1, hlt, by omega, by go_num, by exact bk_, by exact bk_, by exact sl_, by rw [HS1.out]; exact bk_, by exact bl_, by exact sz_⟩
            case measure => simp [intOf]; omega
          refine AllReadyH.cons (o := { dst := some 53, op := Op.load 43 (Operand.tmp 52), type := 43, pos := "law.go:100", after := _, guard := none }) rfl (fun K hK => ?_) AllReadyH.nil
          rw [if_pos (by rfl)]
          refine wp_ldr 43 rfl w_Entry rfl hrx rfl ?_
          refine hK.out _ _ trivial (fun hH => ?_)
          clear hK K
          try simp only [Act.put, List.setIfInBounds_toArray, List.set_cons_zero, List.set_cons_succ]
          refine wpAnyH_ready (rs := [0]) (by kernel_rfl) (by simp) ?_
          refine AllReadyH.cons (o := { dst := some 49, op := Op.load 34 (Operand.tmp 7), type := 34, pos := "law.go:100", after := _, guard := none }) rfl (fun K hK => ?_) AllReadyH.nil
          rw [if_pos (by rfl)]
          refine wp_ld 34 rfl w_State rfl hS.drew LF.sz ?_
          refine hK.out _ _ trivial (fun hH => ?_)
          clear hK K
          try simp only [Act.put, List.setIfInBounds_toArray, List.set_cons_zero, List.set_cons_succ]
          refine wpAnyH_ready (rs := [5]) (by kernel_rfl) (by simp) ?_
          refine AllReadyH.cons (o := { dst := some 54, op := Op.call { callee := Callee.value (Operand.func 31), args := #[Operand.tmp 49, Operand.tmp 53], argTypes := #[34, 43] }, type := 35, pos := "law.go:100", after := _, guard := none }) rfl (fun K hK => ?_) AllReadyH.nil
          rw [if_pos (by rfl)]
          go_simp
          refine (HST.out _ hBW.drew).mono ?_
          rintro r wq ⟨v4, rfl, hv4, hb⟩
          have hbs := hb.size
          try simp only [World.size_alloc, World.size_setCell, World.size_drew, size_setRow] at hbs
          go_wp2_with fail
          refine hK.out _ _ trivial (fun hH => ?_)
          clear hK K
          try simp only [Act.put, List.setIfInBounds_toArray, List.set_cons_zero, List.set_cons_succ]
          refine wpAnyH_take (i := 6) (oi := { dst := some 48, op := Op.move (Operand.tmp 54), type := 35, pos := "law.go:100", after := _, guard := none }) (v := _) rfl (by kernel_rfl) (by kernel_rfl) (by kernel_rfl) (fun _ _ _ h => h) (.inl ⟨by rfl, fun w hS => by (go_simp; try rfl)⟩) hH ?_
          try simp only [Act.put, List.setIfInBounds_toArray, List.set_cons_zero, List.set_cons_succ]
          refine wpAnyH_take (i := 7) (oi := { dst := some 55, op := Op.extract (Operand.tmp 48) 0, type := 31, pos := "law.go:100", after := _, guard := none }) (v := _) rfl (by kernel_rfl) (by kernel_rfl) (by kernel_rfl) (fun _ _ _ h => h) (.inl ⟨by rfl, fun w hS => by (go_simp; try rfl)⟩) hH ?_
          try simp only [Act.put, List.setIfInBounds_toArray, List.set_cons_zero, List.set_cons_succ]
          refine wpAnyH_take (i := 8) (oi := { dst := some 56, op := Op.extract (Operand.tmp 48) 1, type := 34, pos := "law.go:100", after := _, guard := none }) (v := _) rfl (by kernel_rfl) (by kernel_rfl) (by kernel_rfl) (fun _ _ _ h => h) (.inl ⟨by rfl, fun w hS => by (go_simp; try rfl)⟩) hH ?_
          try simp only [Act.put, List.setIfInBounds_toArray, List.set_cons_zero, List.set_cons_succ]
          refine wpAnyH_ready (rs := [9]) (by kernel_rfl) (by simp) ?_
          refine AllReadyH.cons (o := { dst := none, op := Op.store 34 (Operand.tmp 7) (Operand.tmp 56), type := 0, pos := "law.go:100", after := _, guard := none }) rfl (fun K hK => ?_) AllReadyH.nil
          rw [if_pos (by rfl)]
          refine wp_st 34 rfl w_State rfl rfl bk_ zz_ zz_ one_ ?_
          refine hK.out _ _ trivial (fun hH => ?_)
          clear hK K
          try simp only [Act.put]
          refine wpAnyH_done (by kernel_rfl) ?_ _
          go_wp2_with fail
          go_roundw
          case rel => exact ⟨k + 1, hlt, by omega, by go_num, by exact bk_, by exact bk_, by exact sl_, by rw [HS1.out]; exact bk_, by exact bl_, by exact sz_⟩
          case measure => simp [intOf]; omega
      · go_upto_region 7 with (fail)
        go_cut [35] from 27 to 34 (fun s35 wx => s35 = .bool false ∧ wx = wr)
        case first =>
          by_cases hlt : k < n
          · obtain rfl : k = T + 1 := by omega
            have h1 : ((T + 1 : Nat) : Int) < n := by omega
            have h2 : ¬ ((T + 1 : Nat) : Int) ≤ T := by omega
            go_wp2_with fail
            go_meet
            case rel => exact ⟨by simp; try omega, rfl⟩
          · obtain rfl : k = n := by omega
            go_wp2_with fail
            go_meet
            case rel => exact ⟨by simp; try omega, rfl⟩
        case rest =>
          obtain ⟨rfl, rfl⟩ := hcut
          have hTc : T ≤ c2 := by omega
          have hTci : (T : Int) ≤ c2 := by omega
          have hQk := es_take hQ HN.out hTn
          have hkl : (l.take T).length = T := by rw [List.length_take, HN.out]; omega
          have h38 : (zs 38).length = 38 := by simp [zs]
          have hF1 := fun w (hW : BandsW w) (hs : SL w q0 q1 3 p2 T c2 (flE (l.take T))) => toBN (Fold_all (Len.zs 38) hkl (by omega) hW hs)
          have hMr := foldS_right h38 rightS_zero (l.take T)
          have LM := Len.mk (foldS_len h38 (l.take T))
          have hAl := foldO_le (zs 38) (l.take T)
          have htz := truths_chk HT.out 1
          obtain ⟨A, hAe⟩ : ∃ A, foldO (zs 38) (l.take T) = A := ⟨_, rfl⟩
          obtain ⟨M, hMe⟩ : ∃ M, foldS (zs 38) (l.take T) = M := ⟨_, rfl⟩
          simp only [hAe, hMe] at hF1 hMr LM hAl htz
          have hCkM := fun w => Check_any 1 M LM.out w
          have hcv : chkV 1 M = chkE 1 M := if_pos hMr
          have hce : bytesE M = 0 := if_pos hMr
          have hTC := fun w => True_any M LM.out (chkE 1 M) w
          have htc : trueE M (chkE 1 M) = true := by rw [(chk_true LM.out hMr 1).2 M hMr]; simp
          have hTD := fun w => True_any M LM.out D w
          have htd : rightS O = true → trueE M D = (O == M) := fun ho => by
            rw [← HD.out, show chkV 1 O = chkE 1 O from if_pos ho, (chk_true LO.out ho 1).2 M hMr]
          simp only [hcv, hce] at hCkM
          simp only [htc] at hTC
          have hzl : (l.take T ++ [chkE 1 M]).length = T + 1 := by rw [List.length_append, hkl]; simp
          obtain ⟨C, hCe⟩ : ∃ C, chkE 1 M = C := ⟨_, rfl⟩
          simp only [hCe] at hCkM hTC hzl htz
          obtain ⟨Z, hZ⟩ : ∃ Z, l.take T ++ [C] = Z := ⟨_, rfl⟩
          rw [hZ] at hzl htz
          have hfl : [] ++ flE (l.take T) ++ (entV C).toList = flE Z := by rw [← hZ]; simp only [flE, List.flatMap_append, List.flatMap_singleton, List.nil_append]
          have hTZ := fun lo hi p c w (hW : BandsW w) (hs : SL w lo hi 3 p (T + 1) c (flE Z)) => Truths_any hzl (by omega) hW hs
          simp only [htz] at hTZ
          have hcomm : ((O == M) == (M == O)) = true := by
            have : (O == M) = (M == O) := by rw [Bool.eq_iff_iff]; simp only [beq_iff_eq]; exact eq_comm
            rw [this]; simp
          obtain ⟨i0, hi, hz0, hz1, hz2⟩ := info_parts info_Entry
          have HF1 := Lib.hid hF1
          have HCM := Lib.hid hCkM
          have HTC := Lib.hid hTC
          have HTD := Lib.hid hTD
          have HTD2 := Lib.hid htd
          have HTZ := Lib.hid hTZ
          have HFL := Lib.hid hfl
          have HCOMM := Lib.hid hcomm
          clear hgo hk hkT1 hS hkl hF1 hAl hAe hMe hCkM hcv hce hTC htc hTD htd hzl hCe hZ htz hfl hTZ hcomm hMr
          go_wp2_with (first | (refine st 43 rfl (by rfl) w_Entry rfl rfl bk_ zz_ zz_ one_ ?_) | (refine ld 43 rfl (by rfl) w_Entry rfl bk_ zz_ ?_) | (refine bd 34 rfl (by rfl) rfl state_zs ?_) | (refine bd 32 rfl (by rfl) rfl block_zs ?_) | (refine ld 34 rfl (by rfl) w_State rfl bk_ lz_ ?_) | (refine ld 32 rfl (by rfl) w_Block rfl bk_ lz_ ?_) | (refine ldp 32 rfl (by rfl) w_Block rfl bk_ ln_ (by omega) ?_) | (refine ld 23 rfl (by rfl) w_Four rfl bk_ lz_ ?_) | (refine ldp 23 rfl (by rfl) w_Four rfl bk_ ln_ (by omega) ?_) | (refine st 34 rfl (by rfl) w_State rfl rfl bk_ lz_ lz_ one_ ?_) | (refine st 32 rfl (by rfl) w_Block rfl rfl bk_ lz_ lz_ one_ ?_) | (refine st 23 rfl (by rfl) w_Four rfl rfl bk_ lz_ lz_ one_ ?_))
          refine (HF1.out _ hBW hQk).mono ?_
          rintro r w6 ⟨v6, rfl, hv6, hb6⟩
          replace hBW := hBW.newB hb6
          replace hA := hA.newB hb6
          replace hQ := hQ.newB hb6
          replace hQk := hQk.newB hb6
          replace hfar := hfar.trans (hb6.mono (by omega))
          replace hsz := Nat.le_trans hsz hb6.size
          clear hv6
          obtain ⟨g6, hg6⟩ : ∃ x, w6.heap.size = x := ⟨_, rfl⟩
          have hgg6 : g + 1 ≤ g6 := by omega
          go_upto_region 13 with (first | (refine st 43 rfl (by rfl) w_Entry rfl rfl bk_ zz_ zz_ one_ ?_) | (refine ld 43 rfl (by rfl) w_Entry rfl bk_ zz_ ?_) | (refine bd 34 rfl (by rfl) rfl state_zs ?_) | (refine bd 32 rfl (by rfl) rfl block_zs ?_) | (refine ld 34 rfl (by rfl) w_State rfl bk_ lz_ ?_) | (refine ld 32 rfl (by rfl) w_Block rfl bk_ lz_ ?_) | (refine ldp 32 rfl (by rfl) w_Block rfl bk_ ln_ (by omega) ?_) | (refine ld 23 rfl (by rfl) w_Four rfl bk_ lz_ ?_) | (refine ldp 23 rfl (by rfl) w_Four rfl bk_ ln_ (by omega) ?_) | (refine st 34 rfl (by rfl) w_State rfl rfl bk_ lz_ lz_ one_ ?_) | (refine st 32 rfl (by rfl) w_Block rfl rfl bk_ lz_ lz_ one_ ?_) | (refine st 23 rfl (by rfl) w_Four rfl rfl bk_ lz_ lz_ one_ ?_))
          refine wp_gen (fun W => Blk W (0) (bandC) 142 ∧ Blk W (B) (arrV O) 25 ∧ SL W (q0) (q1) (3) (p2) (n) (c2) (flE l) ∧ SL W (q0) (q1) (3) (p2) (T) (c2) (flE (l.take T)) ∧ Blk W (g6) (arrV M) 34 ∧ Below (B) w W ∧ g6 + 1 ≤ W.heap.size) ⟨bk_, bk_, sl_, sl_, bk_, bl_, sz_⟩ ?_
          clear hBW hA hQ hQk hfar hsz
          rintro w7 ⟨hBW, hA, hQ, hQk, hM, hfar, hsz⟩
          go_wp2_with (first | (refine st 43 rfl (by rfl) w_Entry rfl rfl bk_ zz_ zz_ one_ ?_) | (refine ld 43 rfl (by rfl) w_Entry rfl bk_ zz_ ?_) | (refine bd 34 rfl (by rfl) rfl state_zs ?_) | (refine bd 32 rfl (by rfl) rfl block_zs ?_) | (refine ld 34 rfl (by rfl) w_State rfl bk_ lz_ ?_) | (refine ld 32 rfl (by rfl) w_Block rfl bk_ lz_ ?_) | (refine ldp 32 rfl (by rfl) w_Block rfl bk_ ln_ (by omega) ?_) | (refine ld 23 rfl (by rfl) w_Four rfl bk_ lz_ ?_) | (refine ldp 23 rfl (by rfl) w_Four rfl bk_ ln_ (by omega) ?_) | (refine st 34 rfl (by rfl) w_State rfl rfl bk_ lz_ lz_ one_ ?_) | (refine st 32 rfl (by rfl) w_Block rfl rfl bk_ lz_ lz_ one_ ?_) | (refine st 23 rfl (by rfl) w_Four rfl rfl bk_ lz_ lz_ one_ ?_))
          refine (HCM.out _).mono ?_
          rintro e w8 ⟨rfl, hb8⟩
          replace hBW := hBW.newB hb8
          replace hA := hA.newB hb8
          replace hQ := hQ.newB hb8
          replace hQk := hQk.newB hb8
          replace hM := hM.newB hb8
          replace hfar := hfar.trans (hb8.mono (by omega))
          replace hsz := Nat.le_trans hsz hb8.size
          obtain ⟨g8, hs_g8⟩ : ∃ g, w8.heap.size = g := ⟨_, rfl⟩
          have hk_g8 : g6 + 1 ≤ g8 := by omega
          go_upto_region 14 with (first | (refine st 43 rfl (by rfl) w_Entry rfl rfl bk_ zz_ zz_ one_ ?_) | (refine ld 43 rfl (by rfl) w_Entry rfl bk_ zz_ ?_) | (refine bd 34 rfl (by rfl) rfl state_zs ?_) | (refine bd 32 rfl (by rfl) rfl block_zs ?_) | (refine ld 34 rfl (by rfl) w_State rfl bk_ lz_ ?_) | (refine ld 32 rfl (by rfl) w_Block rfl bk_ lz_ ?_) | (refine ldp 32 rfl (by rfl) w_Block rfl bk_ ln_ (by omega) ?_) | (refine ld 23 rfl (by rfl) w_Four rfl bk_ lz_ ?_) | (refine ldp 23 rfl (by rfl) w_Four rfl bk_ ln_ (by omega) ?_) | (refine st 34 rfl (by rfl) w_State rfl rfl bk_ lz_ lz_ one_ ?_) | (refine st 32 rfl (by rfl) w_Block rfl rfl bk_ lz_ lz_ one_ ?_) | (refine st 23 rfl (by rfl) w_Four rfl rfl bk_ lz_ lz_ one_ ?_))
          refine wp_gen (fun W => Blk W (0) (bandC) 142 ∧ Blk W (B) (arrV O) 25 ∧ SL W (q0) (q1) (3) (p2) (n) (c2) (flE l) ∧ SL W (q0) (q1) (3) (p2) (T) (c2) (flE (l.take T)) ∧ Blk W (g6) (arrV M) 34 ∧ Blk W (g8) (entV C) 43 ∧ Below (B) w W ∧ g8 + 1 ≤ W.heap.size) ⟨bk_, bk_, sl_, sl_, bk_, bk_, bl_, sz_⟩ ?_
          clear hBW hA hQ hQk hM hfar hsz
          rintro w9 ⟨hBW, hA, hQ, hQk, hM, hC, hfar, hsz⟩
          go_wp2_with (first | (refine ld 25 rfl (by rfl) w_RState rfl bk_ lz_ ?_))
          refine (Of_any O LO.out _).mono ?_
          rintro e w10 ⟨rfl, hb10⟩
          replace hBW := hBW.newB hb10
          replace hA := hA.newB hb10
          replace hQ := hQ.newB hb10
          replace hQk := hQk.newB hb10
          replace hM := hM.newB hb10
          replace hC := hC.newB hb10
          replace hfar := hfar.trans (hb10.mono (by omega))
          replace hsz := Nat.le_trans hsz hb10.size
          go_wp2_with fail
          refine (HCKO.out _).mono ?_
          rintro e w11 ⟨rfl, hb11⟩
          replace hBW := hBW.newB hb11
          replace hA := hA.newB hb11
          replace hQ := hQ.newB hb11
          replace hQk := hQk.newB hb11
          replace hM := hM.newB hb11
          replace hC := hC.newB hb11
          replace hfar := hfar.trans (hb11.mono (by omega))
          replace hsz := Nat.le_trans hsz hb11.size
          obtain ⟨g11, hs_g11⟩ : ∃ g, w11.heap.size = g := ⟨_, rfl⟩
          have hk_g11 : g8 + 1 ≤ g11 := by omega
          go_upto_region 15 with (first | (refine st 43 rfl (by rfl) w_Entry rfl rfl bk_ zz_ zz_ one_ ?_) | (refine ld 43 rfl (by rfl) w_Entry rfl bk_ zz_ ?_) | (refine bd 34 rfl (by rfl) rfl state_zs ?_) | (refine bd 32 rfl (by rfl) rfl block_zs ?_) | (refine ld 34 rfl (by rfl) w_State rfl bk_ lz_ ?_) | (refine ld 32 rfl (by rfl) w_Block rfl bk_ lz_ ?_) | (refine ldp 32 rfl (by rfl) w_Block rfl bk_ ln_ (by omega) ?_) | (refine ld 23 rfl (by rfl) w_Four rfl bk_ lz_ ?_) | (refine ldp 23 rfl (by rfl) w_Four rfl bk_ ln_ (by omega) ?_) | (refine st 34 rfl (by rfl) w_State rfl rfl bk_ lz_ lz_ one_ ?_) | (refine st 32 rfl (by rfl) w_Block rfl rfl bk_ lz_ lz_ one_ ?_) | (refine st 23 rfl (by rfl) w_Four rfl rfl bk_ lz_ lz_ one_ ?_))
          refine wp_gen (fun W => Blk W (0) (bandC) 142 ∧ Blk W (B) (arrV O) 25 ∧ SL W (q0) (q1) (3) (p2) (n) (c2) (flE l) ∧ SL W (q0) (q1) (3) (p2) (T) (c2) (flE (l.take T)) ∧ Blk W (g6) (arrV M) 34 ∧ Blk W (g8) (entV C) 43 ∧ Blk W (g11) (entV D) 43 ∧ Below (B) w W ∧ g11 + 1 ≤ W.heap.size) ⟨bk_, bk_, sl_, sl_, bk_, bk_, bk_, bl_, sz_⟩ ?_
          clear hBW hA hQ hQk hM hC hfar hsz
          rintro w12 ⟨hBW, hA, hQ, hQk, hM, hC, hD, hfar, hsz⟩
          have hwr : IntKind.i64.wrap ((T : Int) + 1) = (T : Int) + 1 := i64_wrap_id (by omega) (by omega)
          obtain ⟨NN, hNN⟩ : ∃ N, w12.heap.size = N := ⟨_, rfl⟩
          have HNN := Lib.hid hNN
          have hgN : g11 + 1 ≤ NN := by omega
          have hqN : q1 ≤ NN := by omega
          clear hNN hQ hsz
          cases ho : rightS O with
          | false =>
            have e2 : E = 1 := by rw [← HEE.out]; unfold bytesE; rw [ho]; rfl
            subst e2
            clear ho
            refine wp_region_held_drew (S := fun W => Below NN w12 W) (by kernel_rfl) ((Below.refl NN w12).drew) (fun hH => ?_)
            refine wpAnyH_take (i := 0) (oi := { dst := some 76, op := Op.move (Operand.tmp 12), type := 55, pos := "law.go:105", after := _, guard := none }) (v := _) rfl (by kernel_rfl) (by kernel_rfl) (by kernel_rfl) (fun _ _ _ h => h) (.inl ⟨by rfl, fun w hS => by (go_simp; try rfl)⟩) hH ?_
            try simp only [Act.put, List.setIfInBounds_toArray, List.set_cons_zero, List.set_cons_succ]
            refine wpAnyH_take (i := 1) (oi := { dst := some 77, op := Op.binOp BinOp.eql 55 (Operand.tmp 76) (Operand.const (Value.int IntKind.i64 0)) 55, type := 4, pos := "law.go:105", after := _, guard := none }) (v := _) rfl (by kernel_rfl) (by kernel_rfl) (by kernel_rfl) (fun _ _ _ h => h) (.inl ⟨by rfl, fun w hS => by (go_simp; try rfl)⟩) hH ?_
            try simp only [Act.put, List.setIfInBounds_toArray, List.set_cons_zero, List.set_cons_succ]
            refine wpAnyH_take (i := 2) (oi := { dst := some 78, op := Op.move (Operand.tmp 77), type := 4, pos := "law.go:105", after := _, guard := none }) (v := _) rfl (by kernel_rfl) (by kernel_rfl) (by kernel_rfl) (fun _ _ _ h => h) (.inl ⟨by rfl, fun w hS => by (go_simp; try rfl)⟩) hH ?_
            try simp only [Act.put, List.setIfInBounds_toArray, List.set_cons_zero, List.set_cons_succ]
            refine wpAnyH_take (i := 3) (oi := { dst := some 79, op := Op.load 34 (Operand.tmp 10), type := 34, pos := "law.go:105", after := _, guard := some (2, true) }) (v := .agg (arrV M)) rfl (by kernel_rfl) (by kernel_rfl) (by kernel_rfl) (fun _ _ _ h => h) (yieldsIf_ld (by rfl) 34 rfl w_State rfl (fun _ hS2 => hM.below hS2 (by omega)) LM.sz) hH ?_
            try simp only [Act.put, List.setIfInBounds_toArray, List.set_cons_zero, List.set_cons_succ]
            refine wpAnyH_take (i := 4) (oi := { dst := some 80, op := Op.load 43 (Operand.tmp 11), type := 43, pos := "law.go:105", after := _, guard := some (2, true) }) (v := .agg (entV C)) rfl (by kernel_rfl) (by kernel_rfl) (by kernel_rfl) (fun _ _ _ h => h) (yieldsIf_ld (by rfl) 43 rfl w_Entry rfl (fun _ hS2 => hC.below hS2 (by omega)) rfl) hH ?_
            try simp only [Act.put, List.setIfInBounds_toArray, List.set_cons_zero, List.set_cons_succ]
            refine wpAnyH_ready (rs := [5]) (by kernel_rfl) (by simp) ?_
            refine AllReadyH.cons (o := { dst := some 81, op := Op.call { callee := Callee.value (Operand.func 30), args := #[Operand.tmp 79, Operand.tmp 80], argTypes := #[34, 43] }, type := 4, pos := "law.go:105", after := _, guard := some (2, true) }) rfl (fun K hK => ?_) AllReadyH.nil
            rw [if_pos (by rfl)]
            go_simp
            refine (HTC.out _).mono ?_
            rintro r wq ⟨rfl, hb⟩
            have hbs := hb.size
            try simp only [World.size_alloc, World.size_setCell, World.size_drew, size_setRow] at hbs
            go_wp2_with fail
            refine hK.out _ _ (hH.trans (hb.mono (Nat.le_trans (Nat.le_of_eq HNN.out.symm) hH.size))) (fun hH => ?_)
            clear hK K
            try simp only [Act.put, List.setIfInBounds_toArray, List.set_cons_zero, List.set_cons_succ]
            refine wpAnyH_take (i := 6) (oi := { dst := some 82, op := Op.pick (Operand.tmp 78) (Operand.tmp 81) (Operand.const (Value.bool false)), type := 4, pos := "law.go:105", after := _, guard := none }) (v := _) rfl (by kernel_rfl) (by kernel_rfl) (by kernel_rfl) (fun _ _ _ h => h) (.inl ⟨by rfl, fun w hS => by (go_simp; try rfl)⟩) hH ?_
            try simp only [Act.put, List.setIfInBounds_toArray, List.set_cons_zero, List.set_cons_succ]
            refine wpAnyH_take (i := 7) (oi := { dst := some 83, op := Op.move (Operand.tmp 82), type := 4, pos := "law.go:105", after := _, guard := none }) (v := _) rfl (by kernel_rfl) (by kernel_rfl) (by kernel_rfl) (fun _ _ _ h => h) (.inl ⟨by rfl, fun w hS => by (go_simp; try rfl)⟩) hH ?_
            try simp only [Act.put, List.setIfInBounds_toArray, List.set_cons_zero, List.set_cons_succ]
            refine wpAnyH_take (i := 8) (oi := { dst := some 84, op := Op.move (Operand.tmp 14), type := 55, pos := "law.go:105", after := _, guard := some (7, true) }) (v := _) rfl (by kernel_rfl) (by kernel_rfl) (by kernel_rfl) (fun _ _ _ h => h) (.inl ⟨by rfl, fun w hS => by (go_simp; try rfl)⟩) hH ?_
            try simp only [Act.put, List.setIfInBounds_toArray, List.set_cons_zero, List.set_cons_succ]
            refine wpAnyH_take (i := 9) (oi := { dst := some 85, op := Op.binOp BinOp.neq 55 (Operand.tmp 84) (Operand.const (Value.int IntKind.i64 0)) 55, type := 4, pos := "law.go:105", after := _, guard := some (7, true) }) (v := _) rfl (by kernel_rfl) (by kernel_rfl) (by kernel_rfl) (fun _ _ _ h => h) (.inl ⟨by rfl, fun w hS => by (go_simp; try rfl)⟩) hH ?_
            try simp only [Act.put, List.setIfInBounds_toArray, List.set_cons_zero, List.set_cons_succ]
            refine wpAnyH_take (i := 10) (oi := { dst := some 86, op := Op.move (Operand.tmp 85), type := 4, pos := "law.go:105", after := _, guard := some (7, true) }) (v := _) rfl (by kernel_rfl) (by kernel_rfl) (by kernel_rfl) (fun _ _ _ h => h) (.inl ⟨by rfl, fun w hS => by (go_simp; try rfl)⟩) hH ?_
            try simp only [Act.put, List.setIfInBounds_toArray, List.set_cons_zero, List.set_cons_succ]
            refine wpAnyH_take (i := 11) (oi := { dst := some 87, op := Op.load 34 (Operand.tmp 10), type := 34, pos := "law.go:105", after := _, guard := some (10, false) }) (v := undef) rfl (by kernel_rfl) (by kernel_rfl) (by kernel_rfl) (fun _ _ _ h => h) (.inr ⟨by rfl, rfl⟩) hH ?_
            try simp only [Act.put, List.setIfInBounds_toArray, List.set_cons_zero, List.set_cons_succ]
            refine wpAnyH_take (i := 12) (oi := { dst := some 88, op := Op.load 43 (Operand.tmp 13), type := 43, pos := "law.go:105", after := _, guard := some (10, false) }) (v := undef) rfl (by kernel_rfl) (by kernel_rfl) (by kernel_rfl) (fun _ _ _ h => h) (.inr ⟨by rfl, rfl⟩) hH ?_
            try simp only [Act.put, List.setIfInBounds_toArray, List.set_cons_zero, List.set_cons_succ]
            refine wpAnyH_take (i := 13) (oi := { dst := some 89, op := Op.call { callee := Callee.value (Operand.func 30), args := #[Operand.tmp 87, Operand.tmp 88], argTypes := #[34, 43] }, type := 4, pos := "law.go:105", after := _, guard := some (10, false) }) (v := undef) rfl (by kernel_rfl) (by kernel_rfl) (by kernel_rfl) (fun _ _ _ h => h) (.inr ⟨by rfl, rfl⟩) hH ?_
            try simp only [Act.put, List.setIfInBounds_toArray, List.set_cons_zero, List.set_cons_succ]
            refine wpAnyH_take (i := 14) (oi := { dst := some 90, op := Op.load 34 (Operand.tmp 10), type := 34, pos := "law.go:105", after := _, guard := some (10, false) }) (v := undef) rfl (by kernel_rfl) (by kernel_rfl) (by kernel_rfl) (fun _ _ _ h => h) (.inr ⟨by rfl, rfl⟩) hH ?_
            try simp only [Act.put, List.setIfInBounds_toArray, List.set_cons_zero, List.set_cons_succ]
            refine wpAnyH_take (i := 15) (oi := { dst := some 91, op := Op.load 25 (Operand.tmp 3), type := 25, pos := "law.go:105", after := _, guard := some (10, false) }) (v := undef) rfl (by kernel_rfl) (by kernel_rfl) (by kernel_rfl) (fun _ _ _ h => h) (.inr ⟨by rfl, rfl⟩) hH ?_
            try simp only [Act.put, List.setIfInBounds_toArray, List.set_cons_zero, List.set_cons_succ]
            refine wpAnyH_take (i := 16) (oi := { dst := some 92, op := Op.call { callee := Callee.value (Operand.func 15), args := #[Operand.tmp 91], argTypes := #[25] }, type := 34, pos := "law.go:105", after := _, guard := some (10, false) }) (v := undef) rfl (by kernel_rfl) (by kernel_rfl) (by kernel_rfl) (fun _ _ _ h => h) (.inr ⟨by rfl, rfl⟩) hH ?_
            try simp only [Act.put, List.setIfInBounds_toArray, List.set_cons_zero, List.set_cons_succ]
            refine wpAnyH_take (i := 17) (oi := { dst := some 93, op := Op.binOp BinOp.eql 34 (Operand.tmp 90) (Operand.tmp 92) 34, type := 4, pos := "law.go:105", after := _, guard := some (10, false) }) (v := undef) rfl (by kernel_rfl) (by kernel_rfl) (by kernel_rfl) (fun _ _ _ h => h) (.inr ⟨by rfl, rfl⟩) hH ?_
            try simp only [Act.put, List.setIfInBounds_toArray, List.set_cons_zero, List.set_cons_succ]
            refine wpAnyH_take (i := 18) (oi := { dst := some 94, op := Op.binOp BinOp.eql 4 (Operand.tmp 89) (Operand.tmp 93) 4, type := 4, pos := "law.go:105", after := _, guard := some (10, false) }) (v := undef) rfl (by kernel_rfl) (by kernel_rfl) (by kernel_rfl) (fun _ _ _ h => h) (.inr ⟨by rfl, rfl⟩) hH ?_
            try simp only [Act.put, List.setIfInBounds_toArray, List.set_cons_zero, List.set_cons_succ]
            refine wpAnyH_take (i := 19) (oi := { dst := some 95, op := Op.pick (Operand.tmp 86) (Operand.const (Value.bool true)) (Operand.tmp 94), type := 4, pos := "law.go:105", after := _, guard := some (7, true) }) (v := _) rfl (by kernel_rfl) (by kernel_rfl) (by kernel_rfl) (fun _ _ _ h => h) (.inl ⟨by rfl, fun w hS => by (go_simp; try rfl)⟩) hH ?_
            try simp only [Act.put, List.setIfInBounds_toArray, List.set_cons_zero, List.set_cons_succ]
            refine wpAnyH_take (i := 20) (oi := { dst := some 96, op := Op.pick (Operand.tmp 83) (Operand.tmp 95) (Operand.const (Value.bool false)), type := 4, pos := "law.go:105", after := _, guard := none }) (v := _) rfl (by kernel_rfl) (by kernel_rfl) (by kernel_rfl) (fun _ _ _ h => h) (.inl ⟨by rfl, fun w hS => by (go_simp; try rfl)⟩) hH ?_
            try simp only [Act.put, List.setIfInBounds_toArray, List.set_cons_zero, List.set_cons_succ]
            refine wpAnyH_take (i := 21) (oi := { dst := some 97, op := Op.move (Operand.tmp 96), type := 4, pos := "law.go:105", after := _, guard := none }) (v := _) rfl (by kernel_rfl) (by kernel_rfl) (by kernel_rfl) (fun _ _ _ h => h) (.inl ⟨by rfl, fun w hS => by (go_simp; try rfl)⟩) hH ?_
            try simp only [Act.put, List.setIfInBounds_toArray, List.set_cons_zero, List.set_cons_succ]
            refine wpAnyH_take (i := 23) (oi := { dst := some 99, op := Op.move (Operand.tmp 5), type := 29, pos := "law.go:105", after := _, guard := some (21, true) }) (v := _) rfl (by kernel_rfl) (by kernel_rfl) (by kernel_rfl) (fun _ _ _ h => h) (.inl ⟨by rfl, fun w hS => by (go_simp; try rfl)⟩) hH ?_
            try simp only [Act.put, List.setIfInBounds_toArray, List.set_cons_zero, List.set_cons_succ]
            refine wpAnyH_take (i := 24) (oi := { dst := some 100, op := Op.move (Operand.tmp 6), type := 3, pos := "law.go:105", after := _, guard := some (21, true) }) (v := _) rfl (by kernel_rfl) (by kernel_rfl) (by kernel_rfl) (fun _ _ _ h => h) (.inl ⟨by rfl, fun w hS => by (go_simp; try rfl)⟩) hH ?_
            try simp only [Act.put, List.setIfInBounds_toArray, List.set_cons_zero, List.set_cons_succ]
            refine wpAnyH_take (i := 25) (oi := { dst := some 101, op := Op.slice 29 (Operand.tmp 99) none (some (Operand.tmp 100)) none, type := 29, pos := "law.go:105", after := _, guard := some (21, true) }) (v := .slice p2 T c2) rfl (by kernel_rfl) (by kernel_rfl) (by kernel_rfl) (fun _ _ _ h => h) (yieldsIf_slh (by rfl) 29 rfl rfl rfl Tryd.underlying29 el_Entry.1 hTc) hH ?_
            try simp only [Act.put, List.setIfInBounds_toArray, List.set_cons_zero, List.set_cons_succ]
            refine wpAnyH_take (i := 27) (oi := { dst := some 103, op := Op.load 43 (Operand.tmp 11), type := 43, pos := "law.go:105", after := _, guard := some (21, true) }) (v := .agg (entV C)) rfl (by kernel_rfl) (by kernel_rfl) (by kernel_rfl) (fun _ _ _ h => h) (yieldsIf_ld (by rfl) 43 rfl w_Entry rfl (fun _ hS2 => hC.below hS2 (by omega)) rfl) hH ?_
            try simp only [Act.put, List.setIfInBounds_toArray, List.set_cons_zero, List.set_cons_succ]
            refine wpAnyH_take (i := 31) (oi := { dst := some 107, op := Op.move (Operand.tmp 6), type := 3, pos := "law.go:105", after := _, guard := some (21, true) }) (v := _) rfl (by kernel_rfl) (by kernel_rfl) (by kernel_rfl) (fun _ _ _ h => h) (.inl ⟨by rfl, fun w hS => by (go_simp; try rfl)⟩) hH ?_
            try simp only [Act.put, List.setIfInBounds_toArray, List.set_cons_zero, List.set_cons_succ]
            refine wpAnyH_take (i := 32) (oi := { dst := some 108, op := Op.binOp BinOp.add 3 (Operand.tmp 107) (Operand.const (Value.int IntKind.i64 1)) 3, type := 3, pos := "law.go:105", after := _, guard := some (21, true) }) (v := _) rfl (by kernel_rfl) (by kernel_rfl) (by kernel_rfl) (fun _ _ _ h => h) (.inl ⟨by rfl, fun w hS => by (go_simp; try rfl)⟩) hH ?_
            try simp only [Act.put, List.setIfInBounds_toArray, List.set_cons_zero, List.set_cons_succ]
            refine wpAnyH_ready (rs := [22, 28]) (by kernel_rfl) (by simp) ?_
            refine AllReadyH.cons (o := { dst := some 98, op := Op.buildSlice 29 0 #[], type := 29, pos := "law.go:105", after := _, guard := some (21, true) }) rfl (fun K hK => ?_) ?_
            · rw [if_pos (by rfl)]
              have hb0 : NN ≤ _ := Nat.le_trans (Nat.le_of_eq HNN.out.symm) hH.size
              refine wp_bs0 29 rfl Tryd.underlying29 el_Entry (fun v0 w0 hr0 hb => ?_)
              have hbz := hb.size
              try replace hc := hc.newB hb
              refine hK.out _ _ (hH.trans (hb.mono hb0)) (fun hH => ?_)
              clear hK K
              try simp only [Act.put, List.setIfInBounds_toArray, List.set_cons_zero, List.set_cons_succ]
              refine wpAnyH_ready (rs := [26, 28]) (by kernel_rfl) (by simp) ?_
              refine AllReadyH.cons (o := { dst := some 102, op := Op.call { callee := Callee.builtin Builtin.append, args := #[Operand.tmp 98, Operand.tmp 101], argTypes := #[29, 29] }, type := 29, pos := "law.go:105", after := _, guard := some (21, true) }) rfl (fun K hK => ?_) ?_
              · rw [if_pos (by rfl)]
                refine wp_apb 29 rfl rfl 43 i0 (.agg #[.int .i64 0, .int .u32 0, .string ⟨#[]⟩]) 3 32 Tryd.underlying29 hi hz0 hz1 hz2 rfl (by omega) rfl hr0 NN hb0 hbz rfl (hQk.below (hH.mono hqN)) (flatE_one _) (by unfold maxLen; omega) (by omega) (fun v4 w4 hr4 hgr hb => ?_)
                try replace hc := hc.apart hr0 hgr (by omega)
                replace hbz := Nat.le_trans hbz hb.size
                refine hK.out _ _ (hH.trans hb) (fun hH => ?_)
                clear hK K
                try simp only [Act.put, List.setIfInBounds_toArray, List.set_cons_zero, List.set_cons_succ]
                refine wpAnyH_ready (rs := [28]) (by kernel_rfl) (by simp) ?_
                refine AllReadyH.cons (o := { dst := some 104, op := Op.buildSlice 29 1 #[(0, Operand.tmp 103)], type := 29, pos := "law.go:105", after := _, guard := some (21, true) }) rfl (fun K hK => ?_) AllReadyH.nil
                rw [if_pos (by rfl)]
                have hbx : NN ≤ _ := Nat.le_trans (Nat.le_of_eq HNN.out.symm) hH.size
                refine wp_bs1b 29 rfl rfl Tryd.underlying29 el_Entry (by omega) (by omega) rfl (fun b wb hbe hc hb hbl => ?_)
                try replace hbz := Nat.le_trans hbz hb.size
                try replace hr0 := hr0.newB hb
                try replace hr4 := hr4.newB hb
                refine hK.out _ _ (hH.trans (hb.mono hbx)) (fun hH => ?_)
                clear hK K
                try simp only [Act.put, List.setIfInBounds_toArray, List.set_cons_zero, List.set_cons_succ]
                refine wpAnyH_ready (rs := [29]) (by kernel_rfl) (by simp) ?_
                refine AllReadyH.cons (o := { dst := some 105, op := Op.call { callee := Callee.builtin Builtin.append, args := #[Operand.tmp 102, Operand.tmp 104], argTypes := #[29, 29] }, type := 29, pos := "law.go:105", after := _, guard := some (21, true) }) rfl (fun K hK => ?_) AllReadyH.nil
                rw [if_pos (by rfl)]
                refine wp_apb 29 rfl rfl 43 i0 (.agg #[.int .i64 0, .int .u32 0, .string ⟨#[]⟩]) 3 32 Tryd.underlying29 hi hz0 hz1 hz2 rfl (by omega) rfl hr4 NN hb0 hbz rfl (SL.blk hc (n := 1) (size := 3) rfl (by unfold maxLen; omega)) (fun u hu => flatE_one [C] u (by simpa using hu)) (by unfold maxLen; omega) (by omega) (fun v7 w7 hr7 hgr hb => ?_)
                obtain ⟨p3, c3, rfl, hs3⟩ := hr7.sl
                rw [Nat.zero_add, HFL.out] at hs3
                replace hbz := Nat.le_trans hbz hb.size
                refine hK.out _ _ (hH.trans hb) (fun hH => ?_)
                clear hK K
                try simp only [Act.put, List.setIfInBounds_toArray, List.set_cons_zero, List.set_cons_succ]
                refine wpAnyH_ready (rs := [30]) (by kernel_rfl) (by simp) ?_
                refine AllReadyH.cons (o := { dst := some 106, op := Op.call { callee := Callee.value (Operand.func 28), args := #[Operand.tmp 105], argTypes := #[29] }, type := 3, pos := "law.go:105", after := _, guard := some (21, true) }) rfl (fun K hK => ?_) AllReadyH.nil
                rw [if_pos (by rfl)]
                go_simp
                refine (HTZ.out _ _ _ _ _ (hBW.below hH (by omega)) hs3).mono ?_
                rintro r wq ⟨rfl, hb⟩
                have hbs := hb.size
                try simp only [World.size_alloc, World.size_setCell, World.size_drew, size_setRow] at hbs
                go_wp2_with fail
                refine hK.out _ _ (hH.trans (hb.mono (Nat.le_trans (Nat.le_of_eq HNN.out.symm) hH.size))) (fun hH => ?_)
                clear hK K
                try simp only [Act.put, List.setIfInBounds_toArray, List.set_cons_zero, List.set_cons_succ]
                refine wpAnyH_take (i := 33) (oi := { dst := some 109, op := Op.binOp BinOp.eql 3 (Operand.tmp 106) (Operand.tmp 108) 3, type := 4, pos := "law.go:105", after := _, guard := some (21, true) }) (v := _) rfl (by kernel_rfl) (by kernel_rfl) (by kernel_rfl) (fun _ _ _ h => h) (.inl ⟨by rfl, fun w hS => by (go_simp; try rfl)⟩) hH ?_
                try simp only [Act.put, List.setIfInBounds_toArray, List.set_cons_zero, List.set_cons_succ]
                refine wpAnyH_take (i := 34) (oi := { dst := some 110, op := Op.pick (Operand.tmp 97) (Operand.tmp 109) (Operand.const (Value.bool false)), type := 4, pos := "law.go:105", after := _, guard := none }) (v := _) rfl (by kernel_rfl) (by kernel_rfl) (by kernel_rfl) (fun _ _ _ h => h) (.inl ⟨by rfl, fun w hS => by (go_simp; try rfl)⟩) hH ?_
                try simp only [Act.put, List.setIfInBounds_toArray, List.set_cons_zero, List.set_cons_succ]
                refine wpAnyH_take (i := 35) (oi := { dst := some 4, op := Op.assign (Operand.tmp 110), type := 4, pos := "law.go:105", after := _, guard := none }) (v := _) rfl (by kernel_rfl) (by kernel_rfl) (by kernel_rfl) (fun _ _ _ h => h) (.inl ⟨by rfl, fun w hS => by (go_simp; try rfl)⟩) hH ?_
                try simp only [Act.put, List.setIfInBounds_toArray, List.set_cons_zero, List.set_cons_succ]
                refine wpAnyH_done (by kernel_rfl) ?_ _
                go_wp2_with fail
                go_ret
                exact ⟨rfl, by rw [hB]; exact hfar.trans (hH.mono (by omega))⟩
              refine AllReadyH.cons (o := { dst := some 104, op := Op.buildSlice 29 1 #[(0, Operand.tmp 103)], type := 29, pos := "law.go:105", after := _, guard := some (21, true) }) rfl (fun K hK => ?_) AllReadyH.nil
              rw [if_pos (by rfl)]
              have hbx : NN ≤ _ := Nat.le_trans (Nat.le_of_eq HNN.out.symm) hH.size
              refine wp_bs1b 29 rfl rfl Tryd.underlying29 el_Entry (by omega) (by omega) rfl (fun b wb hbe hc hb hbl => ?_)
              try replace hbz := Nat.le_trans hbz hb.size
              try replace hr0 := hr0.newB hb
              try replace hr4 := hr4.newB hb
              refine hK.out _ _ (hH.trans (hb.mono hbx)) (fun hH => ?_)
              clear hK K
              try simp only [Act.put, List.setIfInBounds_toArray, List.set_cons_zero, List.set_cons_succ]
              refine wpAnyH_ready (rs := [26]) (by kernel_rfl) (by simp) ?_
              refine AllReadyH.cons (o := { dst := some 102, op := Op.call { callee := Callee.builtin Builtin.append, args := #[Operand.tmp 98, Operand.tmp 101], argTypes := #[29, 29] }, type := 29, pos := "law.go:105", after := _, guard := some (21, true) }) rfl (fun K hK => ?_) AllReadyH.nil
              rw [if_pos (by rfl)]
              refine wp_apb 29 rfl rfl 43 i0 (.agg #[.int .i64 0, .int .u32 0, .string ⟨#[]⟩]) 3 32 Tryd.underlying29 hi hz0 hz1 hz2 rfl (by omega) rfl hr0 NN hb0 hbz rfl (hQk.below (hH.mono hqN)) (flatE_one _) (by unfold maxLen; omega) (by omega) (fun v4 w4 hr4 hgr hb => ?_)
              try replace hc := hc.apart hr0 hgr (by omega)
              replace hbz := Nat.le_trans hbz hb.size
              refine hK.out _ _ (hH.trans hb) (fun hH => ?_)
              clear hK K
              try simp only [Act.put, List.setIfInBounds_toArray, List.set_cons_zero, List.set_cons_succ]
              refine wpAnyH_ready (rs := [29]) (by kernel_rfl) (by simp) ?_
              refine AllReadyH.cons (o := { dst := some 105, op := Op.call { callee := Callee.builtin Builtin.append, args := #[Operand.tmp 102, Operand.tmp 104], argTypes := #[29, 29] }, type := 29, pos := "law.go:105", after := _, guard := some (21, true) }) rfl (fun K hK => ?_) AllReadyH.nil
              rw [if_pos (by rfl)]
              refine wp_apb 29 rfl rfl 43 i0 (.agg #[.int .i64 0, .int .u32 0, .string ⟨#[]⟩]) 3 32 Tryd.underlying29 hi hz0 hz1 hz2 rfl (by omega) rfl hr4 NN hb0 hbz rfl (SL.blk hc (n := 1) (size := 3) rfl (by unfold maxLen; omega)) (fun u hu => flatE_one [C] u (by simpa using hu)) (by unfold maxLen; omega) (by omega) (fun v7 w7 hr7 hgr hb => ?_)
              obtain ⟨p3, c3, rfl, hs3⟩ := hr7.sl
              rw [Nat.zero_add, HFL.out] at hs3
              replace hbz := Nat.le_trans hbz hb.size
              refine hK.out _ _ (hH.trans hb) (fun hH => ?_)
              clear hK K
              try simp only [Act.put, List.setIfInBounds_toArray, List.set_cons_zero, List.set_cons_succ]
              refine wpAnyH_ready (rs := [30]) (by kernel_rfl) (by simp) ?_
              refine AllReadyH.cons (o := { dst := some 106, op := Op.call { callee := Callee.value (Operand.func 28), args := #[Operand.tmp 105], argTypes := #[29] }, type := 3, pos := "law.go:105", after := _, guard := some (21, true) }) rfl (fun K hK => ?_) AllReadyH.nil
              rw [if_pos (by rfl)]
              go_simp
              refine (HTZ.out _ _ _ _ _ (hBW.below hH (by omega)) hs3).mono ?_
              rintro r wq ⟨rfl, hb⟩
              have hbs := hb.size
              try simp only [World.size_alloc, World.size_setCell, World.size_drew, size_setRow] at hbs
              go_wp2_with fail
              refine hK.out _ _ (hH.trans (hb.mono (Nat.le_trans (Nat.le_of_eq HNN.out.symm) hH.size))) (fun hH => ?_)
              clear hK K
              try simp only [Act.put, List.setIfInBounds_toArray, List.set_cons_zero, List.set_cons_succ]
              refine wpAnyH_take (i := 33) (oi := { dst := some 109, op := Op.binOp BinOp.eql 3 (Operand.tmp 106) (Operand.tmp 108) 3, type := 4, pos := "law.go:105", after := _, guard := some (21, true) }) (v := _) rfl (by kernel_rfl) (by kernel_rfl) (by kernel_rfl) (fun _ _ _ h => h) (.inl ⟨by rfl, fun w hS => by (go_simp; try rfl)⟩) hH ?_
              try simp only [Act.put, List.setIfInBounds_toArray, List.set_cons_zero, List.set_cons_succ]
              refine wpAnyH_take (i := 34) (oi := { dst := some 110, op := Op.pick (Operand.tmp 97) (Operand.tmp 109) (Operand.const (Value.bool false)), type := 4, pos := "law.go:105", after := _, guard := none }) (v := _) rfl (by kernel_rfl) (by kernel_rfl) (by kernel_rfl) (fun _ _ _ h => h) (.inl ⟨by rfl, fun w hS => by (go_simp; try rfl)⟩) hH ?_
              try simp only [Act.put, List.setIfInBounds_toArray, List.set_cons_zero, List.set_cons_succ]
              refine wpAnyH_take (i := 35) (oi := { dst := some 4, op := Op.assign (Operand.tmp 110), type := 4, pos := "law.go:105", after := _, guard := none }) (v := _) rfl (by kernel_rfl) (by kernel_rfl) (by kernel_rfl) (fun _ _ _ h => h) (.inl ⟨by rfl, fun w hS => by (go_simp; try rfl)⟩) hH ?_
              try simp only [Act.put, List.setIfInBounds_toArray, List.set_cons_zero, List.set_cons_succ]
              refine wpAnyH_done (by kernel_rfl) ?_ _
              go_wp2_with fail
              go_ret
              exact ⟨rfl, by rw [hB]; exact hfar.trans (hH.mono (by omega))⟩
            refine AllReadyH.cons (o := { dst := some 104, op := Op.buildSlice 29 1 #[(0, Operand.tmp 103)], type := 29, pos := "law.go:105", after := _, guard := some (21, true) }) rfl (fun K hK => ?_) AllReadyH.nil
            rw [if_pos (by rfl)]
            have hbx : NN ≤ _ := Nat.le_trans (Nat.le_of_eq HNN.out.symm) hH.size
            refine wp_bs1b 29 rfl rfl Tryd.underlying29 el_Entry (by omega) (by omega) rfl (fun b wb hbe hc hb hbl => ?_)
            try replace hbz := Nat.le_trans hbz hb.size
            try replace hr0 := hr0.newB hb
            try replace hr4 := hr4.newB hb
            refine hK.out _ _ (hH.trans (hb.mono hbx)) (fun hH => ?_)
            clear hK K
            try simp only [Act.put, List.setIfInBounds_toArray, List.set_cons_zero, List.set_cons_succ]
            refine wpAnyH_ready (rs := [22]) (by kernel_rfl) (by simp) ?_
            refine AllReadyH.cons (o := { dst := some 98, op := Op.buildSlice 29 0 #[], type := 29, pos := "law.go:105", after := _, guard := some (21, true) }) rfl (fun K hK => ?_) AllReadyH.nil
            rw [if_pos (by rfl)]
            have hb0 : NN ≤ _ := Nat.le_trans (Nat.le_of_eq HNN.out.symm) hH.size
            refine wp_bs0 29 rfl Tryd.underlying29 el_Entry (fun v0 w0 hr0 hb => ?_)
            have hbz := hb.size
            try replace hc := hc.newB hb
            refine hK.out _ _ (hH.trans (hb.mono hb0)) (fun hH => ?_)
            clear hK K
            try simp only [Act.put, List.setIfInBounds_toArray, List.set_cons_zero, List.set_cons_succ]
            refine wpAnyH_ready (rs := [26]) (by kernel_rfl) (by simp) ?_
            refine AllReadyH.cons (o := { dst := some 102, op := Op.call { callee := Callee.builtin Builtin.append, args := #[Operand.tmp 98, Operand.tmp 101], argTypes := #[29, 29] }, type := 29, pos := "law.go:105", after := _, guard := some (21, true) }) rfl (fun K hK => ?_) AllReadyH.nil
            rw [if_pos (by rfl)]
            refine wp_apb 29 rfl rfl 43 i0 (.agg #[.int .i64 0, .int .u32 0, .string ⟨#[]⟩]) 3 32 Tryd.underlying29 hi hz0 hz1 hz2 rfl (by omega) rfl hr0 NN hb0 hbz rfl (hQk.below (hH.mono hqN)) (flatE_one _) (by unfold maxLen; omega) (by omega) (fun v4 w4 hr4 hgr hb => ?_)
            try replace hc := hc.apart hr0 hgr (by omega)
            replace hbz := Nat.le_trans hbz hb.size
            refine hK.out _ _ (hH.trans hb) (fun hH => ?_)
            clear hK K
            try simp only [Act.put, List.setIfInBounds_toArray, List.set_cons_zero, List.set_cons_succ]
            refine wpAnyH_ready (rs := [29]) (by kernel_rfl) (by simp) ?_
            refine AllReadyH.cons (o := { dst := some 105, op := Op.call { callee := Callee.builtin Builtin.append, args := #[Operand.tmp 102, Operand.tmp 104], argTypes := #[29, 29] }, type := 29, pos := "law.go:105", after := _, guard := some (21, true) }) rfl (fun K hK => ?_) AllReadyH.nil
            rw [if_pos (by rfl)]
            refine wp_apb 29 rfl rfl 43 i0 (.agg #[.int .i64 0, .int .u32 0, .string ⟨#[]⟩]) 3 32 Tryd.underlying29 hi hz0 hz1 hz2 rfl (by omega) rfl hr4 NN hb0 hbz rfl (SL.blk hc (n := 1) (size := 3) rfl (by unfold maxLen; omega)) (fun u hu => flatE_one [C] u (by simpa using hu)) (by unfold maxLen; omega) (by omega) (fun v7 w7 hr7 hgr hb => ?_)
            obtain ⟨p3, c3, rfl, hs3⟩ := hr7.sl
            rw [Nat.zero_add, HFL.out] at hs3
            replace hbz := Nat.le_trans hbz hb.size
            refine hK.out _ _ (hH.trans hb) (fun hH => ?_)
            clear hK K
            try simp only [Act.put, List.setIfInBounds_toArray, List.set_cons_zero, List.set_cons_succ]
            refine wpAnyH_ready (rs := [30]) (by kernel_rfl) (by simp) ?_
            refine AllReadyH.cons (o := { dst := some 106, op := Op.call { callee := Callee.value (Operand.func 28), args := #[Operand.tmp 105], argTypes := #[29] }, type := 3, pos := "law.go:105", after := _, guard := some (21, true) }) rfl (fun K hK => ?_) AllReadyH.nil
            rw [if_pos (by rfl)]
            go_simp
            refine (HTZ.out _ _ _ _ _ (hBW.below hH (by omega)) hs3).mono ?_
            rintro r wq ⟨rfl, hb⟩
            have hbs := hb.size
            try simp only [World.size_alloc, World.size_setCell, World.size_drew, size_setRow] at hbs
            go_wp2_with fail
            refine hK.out _ _ (hH.trans (hb.mono (Nat.le_trans (Nat.le_of_eq HNN.out.symm) hH.size))) (fun hH => ?_)
            clear hK K
            try simp only [Act.put, List.setIfInBounds_toArray, List.set_cons_zero, List.set_cons_succ]
            refine wpAnyH_take (i := 33) (oi := { dst := some 109, op := Op.binOp BinOp.eql 3 (Operand.tmp 106) (Operand.tmp 108) 3, type := 4, pos := "law.go:105", after := _, guard := some (21, true) }) (v := _) rfl (by kernel_rfl) (by kernel_rfl) (by kernel_rfl) (fun _ _ _ h => h) (.inl ⟨by rfl, fun w hS => by (go_simp; try rfl)⟩) hH ?_
            try simp only [Act.put, List.setIfInBounds_toArray, List.set_cons_zero, List.set_cons_succ]
            refine wpAnyH_take (i := 34) (oi := { dst := some 110, op := Op.pick (Operand.tmp 97) (Operand.tmp 109) (Operand.const (Value.bool false)), type := 4, pos := "law.go:105", after := _, guard := none }) (v := _) rfl (by kernel_rfl) (by kernel_rfl) (by kernel_rfl) (fun _ _ _ h => h) (.inl ⟨by rfl, fun w hS => by (go_simp; try rfl)⟩) hH ?_
            try simp only [Act.put, List.setIfInBounds_toArray, List.set_cons_zero, List.set_cons_succ]
            refine wpAnyH_take (i := 35) (oi := { dst := some 4, op := Op.assign (Operand.tmp 110), type := 4, pos := "law.go:105", after := _, guard := none }) (v := _) rfl (by kernel_rfl) (by kernel_rfl) (by kernel_rfl) (fun _ _ _ h => h) (.inl ⟨by rfl, fun w hS => by (go_simp; try rfl)⟩) hH ?_
            try simp only [Act.put, List.setIfInBounds_toArray, List.set_cons_zero, List.set_cons_succ]
            refine wpAnyH_done (by kernel_rfl) ?_ _
            go_wp2_with fail
            go_ret
            exact ⟨rfl, by rw [hB]; exact hfar.trans (hH.mono (by omega))⟩
          | true =>
            have e2 : E = 0 := by rw [← HEE.out]; unfold bytesE; rw [ho]; rfl
            subst e2
            have hTD := HTD.out
            simp only [HTD2.out ho] at hTD
            have HTD3 := Lib.hid hTD
            clear ho hTD
            refine wp_region_held_drew (S := fun W => Below NN w12 W) (by kernel_rfl) ((Below.refl NN w12).drew) (fun hH => ?_)
            refine wpAnyH_take (i := 0) (oi := { dst := some 76, op := Op.move (Operand.tmp 12), type := 55, pos := "law.go:105", after := _, guard := none }) (v := _) rfl (by kernel_rfl) (by kernel_rfl) (by kernel_rfl) (fun _ _ _ h => h) (.inl ⟨by rfl, fun w hS => by (go_simp; try rfl)⟩) hH ?_
            try simp only [Act.put, List.setIfInBounds_toArray, List.set_cons_zero, List.set_cons_succ]
            refine wpAnyH_take (i := 1) (oi := { dst := some 77, op := Op.binOp BinOp.eql 55 (Operand.tmp 76) (Operand.const (Value.int IntKind.i64 0)) 55, type := 4, pos := "law.go:105", after := _, guard := none }) (v := _) rfl (by kernel_rfl) (by kernel_rfl) (by kernel_rfl) (fun _ _ _ h => h) (.inl ⟨by rfl, fun w hS => by (go_simp; try rfl)⟩) hH ?_
            try simp only [Act.put, List.setIfInBounds_toArray, List.set_cons_zero, List.set_cons_succ]
            refine wpAnyH_take (i := 2) (oi := { dst := some 78, op := Op.move (Operand.tmp 77), type := 4, pos := "law.go:105", after := _, guard := none }) (v := _) rfl (by kernel_rfl) (by kernel_rfl) (by kernel_rfl) (fun _ _ _ h => h) (.inl ⟨by rfl, fun w hS => by (go_simp; try rfl)⟩) hH ?_
            try simp only [Act.put, List.setIfInBounds_toArray, List.set_cons_zero, List.set_cons_succ]
            refine wpAnyH_take (i := 3) (oi := { dst := some 79, op := Op.load 34 (Operand.tmp 10), type := 34, pos := "law.go:105", after := _, guard := some (2, true) }) (v := .agg (arrV M)) rfl (by kernel_rfl) (by kernel_rfl) (by kernel_rfl) (fun _ _ _ h => h) (yieldsIf_ld (by rfl) 34 rfl w_State rfl (fun _ hS2 => hM.below hS2 (by omega)) LM.sz) hH ?_
            try simp only [Act.put, List.setIfInBounds_toArray, List.set_cons_zero, List.set_cons_succ]
            refine wpAnyH_take (i := 4) (oi := { dst := some 80, op := Op.load 43 (Operand.tmp 11), type := 43, pos := "law.go:105", after := _, guard := some (2, true) }) (v := .agg (entV C)) rfl (by kernel_rfl) (by kernel_rfl) (by kernel_rfl) (fun _ _ _ h => h) (yieldsIf_ld (by rfl) 43 rfl w_Entry rfl (fun _ hS2 => hC.below hS2 (by omega)) rfl) hH ?_
            try simp only [Act.put, List.setIfInBounds_toArray, List.set_cons_zero, List.set_cons_succ]
            refine wpAnyH_ready (rs := [5]) (by kernel_rfl) (by simp) ?_
            refine AllReadyH.cons (o := { dst := some 81, op := Op.call { callee := Callee.value (Operand.func 30), args := #[Operand.tmp 79, Operand.tmp 80], argTypes := #[34, 43] }, type := 4, pos := "law.go:105", after := _, guard := some (2, true) }) rfl (fun K hK => ?_) AllReadyH.nil
            rw [if_pos (by rfl)]
            go_simp
            refine (HTC.out _).mono ?_
            rintro r wq ⟨rfl, hb⟩
            have hbs := hb.size
            try simp only [World.size_alloc, World.size_setCell, World.size_drew, size_setRow] at hbs
            go_wp2_with fail
            refine hK.out _ _ (hH.trans (hb.mono (Nat.le_trans (Nat.le_of_eq HNN.out.symm) hH.size))) (fun hH => ?_)
            clear hK K
            try simp only [Act.put, List.setIfInBounds_toArray, List.set_cons_zero, List.set_cons_succ]
            refine wpAnyH_take (i := 6) (oi := { dst := some 82, op := Op.pick (Operand.tmp 78) (Operand.tmp 81) (Operand.const (Value.bool false)), type := 4, pos := "law.go:105", after := _, guard := none }) (v := _) rfl (by kernel_rfl) (by kernel_rfl) (by kernel_rfl) (fun _ _ _ h => h) (.inl ⟨by rfl, fun w hS => by (go_simp; try rfl)⟩) hH ?_
            try simp only [Act.put, List.setIfInBounds_toArray, List.set_cons_zero, List.set_cons_succ]
            refine wpAnyH_take (i := 7) (oi := { dst := some 83, op := Op.move (Operand.tmp 82), type := 4, pos := "law.go:105", after := _, guard := none }) (v := _) rfl (by kernel_rfl) (by kernel_rfl) (by kernel_rfl) (fun _ _ _ h => h) (.inl ⟨by rfl, fun w hS => by (go_simp; try rfl)⟩) hH ?_
            try simp only [Act.put, List.setIfInBounds_toArray, List.set_cons_zero, List.set_cons_succ]
            refine wpAnyH_take (i := 8) (oi := { dst := some 84, op := Op.move (Operand.tmp 14), type := 55, pos := "law.go:105", after := _, guard := some (7, true) }) (v := _) rfl (by kernel_rfl) (by kernel_rfl) (by kernel_rfl) (fun _ _ _ h => h) (.inl ⟨by rfl, fun w hS => by (go_simp; try rfl)⟩) hH ?_
            try simp only [Act.put, List.setIfInBounds_toArray, List.set_cons_zero, List.set_cons_succ]
            refine wpAnyH_take (i := 9) (oi := { dst := some 85, op := Op.binOp BinOp.neq 55 (Operand.tmp 84) (Operand.const (Value.int IntKind.i64 0)) 55, type := 4, pos := "law.go:105", after := _, guard := some (7, true) }) (v := _) rfl (by kernel_rfl) (by kernel_rfl) (by kernel_rfl) (fun _ _ _ h => h) (.inl ⟨by rfl, fun w hS => by (go_simp; try rfl)⟩) hH ?_
            try simp only [Act.put, List.setIfInBounds_toArray, List.set_cons_zero, List.set_cons_succ]
            refine wpAnyH_take (i := 10) (oi := { dst := some 86, op := Op.move (Operand.tmp 85), type := 4, pos := "law.go:105", after := _, guard := some (7, true) }) (v := _) rfl (by kernel_rfl) (by kernel_rfl) (by kernel_rfl) (fun _ _ _ h => h) (.inl ⟨by rfl, fun w hS => by (go_simp; try rfl)⟩) hH ?_
            try simp only [Act.put, List.setIfInBounds_toArray, List.set_cons_zero, List.set_cons_succ]
            refine wpAnyH_take (i := 11) (oi := { dst := some 87, op := Op.load 34 (Operand.tmp 10), type := 34, pos := "law.go:105", after := _, guard := some (10, false) }) (v := .agg (arrV M)) rfl (by kernel_rfl) (by kernel_rfl) (by kernel_rfl) (fun _ _ _ h => h) (yieldsIf_ld (by rfl) 34 rfl w_State rfl (fun _ hS2 => hM.below hS2 (by omega)) LM.sz) hH ?_
            try simp only [Act.put, List.setIfInBounds_toArray, List.set_cons_zero, List.set_cons_succ]
            refine wpAnyH_take (i := 12) (oi := { dst := some 88, op := Op.load 43 (Operand.tmp 13), type := 43, pos := "law.go:105", after := _, guard := some (10, false) }) (v := .agg (entV D)) rfl (by kernel_rfl) (by kernel_rfl) (by kernel_rfl) (fun _ _ _ h => h) (yieldsIf_ld (by rfl) 43 rfl w_Entry rfl (fun _ hS2 => hD.below hS2 (by omega)) rfl) hH ?_
            try simp only [Act.put, List.setIfInBounds_toArray, List.set_cons_zero, List.set_cons_succ]
            refine wpAnyH_take (i := 14) (oi := { dst := some 90, op := Op.load 34 (Operand.tmp 10), type := 34, pos := "law.go:105", after := _, guard := some (10, false) }) (v := .agg (arrV M)) rfl (by kernel_rfl) (by kernel_rfl) (by kernel_rfl) (fun _ _ _ h => h) (yieldsIf_ld (by rfl) 34 rfl w_State rfl (fun _ hS2 => hM.below hS2 (by omega)) LM.sz) hH ?_
            try simp only [Act.put, List.setIfInBounds_toArray, List.set_cons_zero, List.set_cons_succ]
            refine wpAnyH_take (i := 15) (oi := { dst := some 91, op := Op.load 25 (Operand.tmp 3), type := 25, pos := "law.go:105", after := _, guard := some (10, false) }) (v := .agg (arrV O)) rfl (by kernel_rfl) (by kernel_rfl) (by kernel_rfl) (fun _ _ _ h => h) (yieldsIf_ld (by rfl) 25 rfl w_RState rfl (fun _ hS2 => hA.below hS2 (by omega)) LO.sz) hH ?_
            try simp only [Act.put, List.setIfInBounds_toArray, List.set_cons_zero, List.set_cons_succ]
            refine wpAnyH_ready (rs := [13]) (by kernel_rfl) (by simp) ?_
            refine AllReadyH.cons (o := { dst := some 89, op := Op.call { callee := Callee.value (Operand.func 30), args := #[Operand.tmp 87, Operand.tmp 88], argTypes := #[34, 43] }, type := 4, pos := "law.go:105", after := _, guard := some (10, false) }) rfl (fun K hK => ?_) AllReadyH.nil
            rw [if_pos (by rfl)]
            go_simp
            refine (HTD3.out _).mono ?_
            rintro r wq ⟨rfl, hb⟩
            have hbs := hb.size
            try simp only [World.size_alloc, World.size_setCell, World.size_drew, size_setRow] at hbs
            go_wp2_with fail
            refine hK.out _ _ (hH.trans (hb.mono (Nat.le_trans (Nat.le_of_eq HNN.out.symm) hH.size))) (fun hH => ?_)
            clear hK K
            try simp only [Act.put, List.setIfInBounds_toArray, List.set_cons_zero, List.set_cons_succ]
            refine wpAnyH_ready (rs := [16]) (by kernel_rfl) (by simp) ?_
            refine AllReadyH.cons (o := { dst := some 92, op := Op.call { callee := Callee.value (Operand.func 15), args := #[Operand.tmp 91], argTypes := #[25] }, type := 34, pos := "law.go:105", after := _, guard := some (10, false) }) rfl (fun K hK => ?_) AllReadyH.nil
            rw [if_pos (by rfl)]
            go_simp
            refine (Of_any O LO.out _).mono ?_
            rintro r wq ⟨rfl, hb⟩
            have hbs := hb.size
            try simp only [World.size_alloc, World.size_setCell, World.size_drew, size_setRow] at hbs
            go_wp2_with fail
            refine hK.out _ _ (hH.trans (hb.mono (Nat.le_trans (Nat.le_of_eq HNN.out.symm) hH.size))) (fun hH => ?_)
            clear hK K
            try simp only [Act.put, List.setIfInBounds_toArray, List.set_cons_zero, List.set_cons_succ]
            refine wpAnyH_take (i := 17) (oi := { dst := some 93, op := Op.binOp BinOp.eql 34 (Operand.tmp 90) (Operand.tmp 92) 34, type := 4, pos := "law.go:105", after := _, guard := some (10, false) }) (v := .bool (M == O)) rfl (by kernel_rfl) (by kernel_rfl) (by kernel_rfl) (fun _ _ _ h => h) (yieldsIf_eql (by rfl) 34 rfl rfl rfl eg_State (eq_states LM LO)) hH ?_
            try simp only [Act.put, List.setIfInBounds_toArray, List.set_cons_zero, List.set_cons_succ]
            refine wpAnyH_take (i := 18) (oi := { dst := some 94, op := Op.binOp BinOp.eql 4 (Operand.tmp 89) (Operand.tmp 93) 4, type := 4, pos := "law.go:105", after := _, guard := some (10, false) }) (v := .bool true) rfl (by kernel_rfl) (by kernel_rfl) (by kernel_rfl) (fun _ _ _ h => h) (.inl ⟨by rfl, fun w hS => by (have hc := HCOMM.out; go_simp; try rw [hc]; try rfl)⟩) hH ?_
            try simp only [Act.put, List.setIfInBounds_toArray, List.set_cons_zero, List.set_cons_succ]
            refine wpAnyH_take (i := 19) (oi := { dst := some 95, op := Op.pick (Operand.tmp 86) (Operand.const (Value.bool true)) (Operand.tmp 94), type := 4, pos := "law.go:105", after := _, guard := some (7, true) }) (v := _) rfl (by kernel_rfl) (by kernel_rfl) (by kernel_rfl) (fun _ _ _ h => h) (.inl ⟨by rfl, fun w hS => by (go_simp; try rfl)⟩) hH ?_
            try simp only [Act.put, List.setIfInBounds_toArray, List.set_cons_zero, List.set_cons_succ]
            refine wpAnyH_take (i := 20) (oi := { dst := some 96, op := Op.pick (Operand.tmp 83) (Operand.tmp 95) (Operand.const (Value.bool false)), type := 4, pos := "law.go:105", after := _, guard := none }) (v := _) rfl (by kernel_rfl) (by kernel_rfl) (by kernel_rfl) (fun _ _ _ h => h) (.inl ⟨by rfl, fun w hS => by (go_simp; try rfl)⟩) hH ?_
            try simp only [Act.put, List.setIfInBounds_toArray, List.set_cons_zero, List.set_cons_succ]
            refine wpAnyH_take (i := 21) (oi := { dst := some 97, op := Op.move (Operand.tmp 96), type := 4, pos := "law.go:105", after := _, guard := none }) (v := _) rfl (by kernel_rfl) (by kernel_rfl) (by kernel_rfl) (fun _ _ _ h => h) (.inl ⟨by rfl, fun w hS => by (go_simp; try rfl)⟩) hH ?_
            try simp only [Act.put, List.setIfInBounds_toArray, List.set_cons_zero, List.set_cons_succ]
            refine wpAnyH_take (i := 23) (oi := { dst := some 99, op := Op.move (Operand.tmp 5), type := 29, pos := "law.go:105", after := _, guard := some (21, true) }) (v := _) rfl (by kernel_rfl) (by kernel_rfl) (by kernel_rfl) (fun _ _ _ h => h) (.inl ⟨by rfl, fun w hS => by (go_simp; try rfl)⟩) hH ?_
            try simp only [Act.put, List.setIfInBounds_toArray, List.set_cons_zero, List.set_cons_succ]
            refine wpAnyH_take (i := 24) (oi := { dst := some 100, op := Op.move (Operand.tmp 6), type := 3, pos := "law.go:105", after := _, guard := some (21, true) }) (v := _) rfl (by kernel_rfl) (by kernel_rfl) (by kernel_rfl) (fun _ _ _ h => h) (.inl ⟨by rfl, fun w hS => by (go_simp; try rfl)⟩) hH ?_
            try simp only [Act.put, List.setIfInBounds_toArray, List.set_cons_zero, List.set_cons_succ]
            refine wpAnyH_take (i := 25) (oi := { dst := some 101, op := Op.slice 29 (Operand.tmp 99) none (some (Operand.tmp 100)) none, type := 29, pos := "law.go:105", after := _, guard := some (21, true) }) (v := .slice p2 T c2) rfl (by kernel_rfl) (by kernel_rfl) (by kernel_rfl) (fun _ _ _ h => h) (yieldsIf_slh (by rfl) 29 rfl rfl rfl Tryd.underlying29 el_Entry.1 hTc) hH ?_
            try simp only [Act.put, List.setIfInBounds_toArray, List.set_cons_zero, List.set_cons_succ]
            refine wpAnyH_take (i := 27) (oi := { dst := some 103, op := Op.load 43 (Operand.tmp 11), type := 43, pos := "law.go:105", after := _, guard := some (21, true) }) (v := .agg (entV C)) rfl (by kernel_rfl) (by kernel_rfl) (by kernel_rfl) (fun _ _ _ h => h) (yieldsIf_ld (by rfl) 43 rfl w_Entry rfl (fun _ hS2 => hC.below hS2 (by omega)) rfl) hH ?_
            try simp only [Act.put, List.setIfInBounds_toArray, List.set_cons_zero, List.set_cons_succ]
            refine wpAnyH_take (i := 31) (oi := { dst := some 107, op := Op.move (Operand.tmp 6), type := 3, pos := "law.go:105", after := _, guard := some (21, true) }) (v := _) rfl (by kernel_rfl) (by kernel_rfl) (by kernel_rfl) (fun _ _ _ h => h) (.inl ⟨by rfl, fun w hS => by (go_simp; try rfl)⟩) hH ?_
            try simp only [Act.put, List.setIfInBounds_toArray, List.set_cons_zero, List.set_cons_succ]
            refine wpAnyH_take (i := 32) (oi := { dst := some 108, op := Op.binOp BinOp.add 3 (Operand.tmp 107) (Operand.const (Value.int IntKind.i64 1)) 3, type := 3, pos := "law.go:105", after := _, guard := some (21, true) }) (v := _) rfl (by kernel_rfl) (by kernel_rfl) (by kernel_rfl) (fun _ _ _ h => h) (.inl ⟨by rfl, fun w hS => by (go_simp; try rfl)⟩) hH ?_
            try simp only [Act.put, List.setIfInBounds_toArray, List.set_cons_zero, List.set_cons_succ]
            refine wpAnyH_ready (rs := [22, 28]) (by kernel_rfl) (by simp) ?_
            refine AllReadyH.cons (o := { dst := some 98, op := Op.buildSlice 29 0 #[], type := 29, pos := "law.go:105", after := _, guard := some (21, true) }) rfl (fun K hK => ?_) ?_
            · rw [if_pos (by rfl)]
              have hb0 : NN ≤ _ := Nat.le_trans (Nat.le_of_eq HNN.out.symm) hH.size
              refine wp_bs0 29 rfl Tryd.underlying29 el_Entry (fun v0 w0 hr0 hb => ?_)
              have hbz := hb.size
              try replace hc := hc.newB hb
              refine hK.out _ _ (hH.trans (hb.mono hb0)) (fun hH => ?_)
              clear hK K
              try simp only [Act.put, List.setIfInBounds_toArray, List.set_cons_zero, List.set_cons_succ]
              refine wpAnyH_ready (rs := [26, 28]) (by kernel_rfl) (by simp) ?_
              refine AllReadyH.cons (o := { dst := some 102, op := Op.call { callee := Callee.builtin Builtin.append, args := #[Operand.tmp 98, Operand.tmp 101], argTypes := #[29, 29] }, type := 29, pos := "law.go:105", after := _, guard := some (21, true) }) rfl (fun K hK => ?_) ?_
              · rw [if_pos (by rfl)]
                refine wp_apb 29 rfl rfl 43 i0 (.agg #[.int .i64 0, .int .u32 0, .string ⟨#[]⟩]) 3 32 Tryd.underlying29 hi hz0 hz1 hz2 rfl (by omega) rfl hr0 NN hb0 hbz rfl (hQk.below (hH.mono hqN)) (flatE_one _) (by unfold maxLen; omega) (by omega) (fun v4 w4 hr4 hgr hb => ?_)
                try replace hc := hc.apart hr0 hgr (by omega)
                replace hbz := Nat.le_trans hbz hb.size
                refine hK.out _ _ (hH.trans hb) (fun hH => ?_)
                clear hK K
                try simp only [Act.put, List.setIfInBounds_toArray, List.set_cons_zero, List.set_cons_succ]
                refine wpAnyH_ready (rs := [28]) (by kernel_rfl) (by simp) ?_
                refine AllReadyH.cons (o := { dst := some 104, op := Op.buildSlice 29 1 #[(0, Operand.tmp 103)], type := 29, pos := "law.go:105", after := _, guard := some (21, true) }) rfl (fun K hK => ?_) AllReadyH.nil
                rw [if_pos (by rfl)]
                have hbx : NN ≤ _ := Nat.le_trans (Nat.le_of_eq HNN.out.symm) hH.size
                refine wp_bs1b 29 rfl rfl Tryd.underlying29 el_Entry (by omega) (by omega) rfl (fun b wb hbe hc hb hbl => ?_)
                try replace hbz := Nat.le_trans hbz hb.size
                try replace hr0 := hr0.newB hb
                try replace hr4 := hr4.newB hb
                refine hK.out _ _ (hH.trans (hb.mono hbx)) (fun hH => ?_)
                clear hK K
                try simp only [Act.put, List.setIfInBounds_toArray, List.set_cons_zero, List.set_cons_succ]
                refine wpAnyH_ready (rs := [29]) (by kernel_rfl) (by simp) ?_
                refine AllReadyH.cons (o := { dst := some 105, op := Op.call { callee := Callee.builtin Builtin.append, args := #[Operand.tmp 102, Operand.tmp 104], argTypes := #[29, 29] }, type := 29, pos := "law.go:105", after := _, guard := some (21, true) }) rfl (fun K hK => ?_) AllReadyH.nil
                rw [if_pos (by rfl)]
                refine wp_apb 29 rfl rfl 43 i0 (.agg #[.int .i64 0, .int .u32 0, .string ⟨#[]⟩]) 3 32 Tryd.underlying29 hi hz0 hz1 hz2 rfl (by omega) rfl hr4 NN hb0 hbz rfl (SL.blk hc (n := 1) (size := 3) rfl (by unfold maxLen; omega)) (fun u hu => flatE_one [C] u (by simpa using hu)) (by unfold maxLen; omega) (by omega) (fun v7 w7 hr7 hgr hb => ?_)
                obtain ⟨p3, c3, rfl, hs3⟩ := hr7.sl
                rw [Nat.zero_add, HFL.out] at hs3
                replace hbz := Nat.le_trans hbz hb.size
                refine hK.out _ _ (hH.trans hb) (fun hH => ?_)
                clear hK K
                try simp only [Act.put, List.setIfInBounds_toArray, List.set_cons_zero, List.set_cons_succ]
                refine wpAnyH_ready (rs := [30]) (by kernel_rfl) (by simp) ?_
                refine AllReadyH.cons (o := { dst := some 106, op := Op.call { callee := Callee.value (Operand.func 28), args := #[Operand.tmp 105], argTypes := #[29] }, type := 3, pos := "law.go:105", after := _, guard := some (21, true) }) rfl (fun K hK => ?_) AllReadyH.nil
                rw [if_pos (by rfl)]
                go_simp
                refine (HTZ.out _ _ _ _ _ (hBW.below hH (by omega)) hs3).mono ?_
                rintro r wq ⟨rfl, hb⟩
                have hbs := hb.size
                try simp only [World.size_alloc, World.size_setCell, World.size_drew, size_setRow] at hbs
                go_wp2_with fail
                refine hK.out _ _ (hH.trans (hb.mono (Nat.le_trans (Nat.le_of_eq HNN.out.symm) hH.size))) (fun hH => ?_)
                clear hK K
                try simp only [Act.put, List.setIfInBounds_toArray, List.set_cons_zero, List.set_cons_succ]
                refine wpAnyH_take (i := 33) (oi := { dst := some 109, op := Op.binOp BinOp.eql 3 (Operand.tmp 106) (Operand.tmp 108) 3, type := 4, pos := "law.go:105", after := _, guard := some (21, true) }) (v := _) rfl (by kernel_rfl) (by kernel_rfl) (by kernel_rfl) (fun _ _ _ h => h) (.inl ⟨by rfl, fun w hS => by (go_simp; try rfl)⟩) hH ?_
                try simp only [Act.put, List.setIfInBounds_toArray, List.set_cons_zero, List.set_cons_succ]
                refine wpAnyH_take (i := 34) (oi := { dst := some 110, op := Op.pick (Operand.tmp 97) (Operand.tmp 109) (Operand.const (Value.bool false)), type := 4, pos := "law.go:105", after := _, guard := none }) (v := _) rfl (by kernel_rfl) (by kernel_rfl) (by kernel_rfl) (fun _ _ _ h => h) (.inl ⟨by rfl, fun w hS => by (go_simp; try rfl)⟩) hH ?_
                try simp only [Act.put, List.setIfInBounds_toArray, List.set_cons_zero, List.set_cons_succ]
                refine wpAnyH_take (i := 35) (oi := { dst := some 4, op := Op.assign (Operand.tmp 110), type := 4, pos := "law.go:105", after := _, guard := none }) (v := _) rfl (by kernel_rfl) (by kernel_rfl) (by kernel_rfl) (fun _ _ _ h => h) (.inl ⟨by rfl, fun w hS => by (go_simp; try rfl)⟩) hH ?_
                try simp only [Act.put, List.setIfInBounds_toArray, List.set_cons_zero, List.set_cons_succ]
                refine wpAnyH_done (by kernel_rfl) ?_ _
                go_wp2_with fail
                go_ret
                exact ⟨rfl, by rw [hB]; exact hfar.trans (hH.mono (by omega))⟩
              refine AllReadyH.cons (o := { dst := some 104, op := Op.buildSlice 29 1 #[(0, Operand.tmp 103)], type := 29, pos := "law.go:105", after := _, guard := some (21, true) }) rfl (fun K hK => ?_) AllReadyH.nil
              rw [if_pos (by rfl)]
              have hbx : NN ≤ _ := Nat.le_trans (Nat.le_of_eq HNN.out.symm) hH.size
              refine wp_bs1b 29 rfl rfl Tryd.underlying29 el_Entry (by omega) (by omega) rfl (fun b wb hbe hc hb hbl => ?_)
              try replace hbz := Nat.le_trans hbz hb.size
              try replace hr0 := hr0.newB hb
              try replace hr4 := hr4.newB hb
              refine hK.out _ _ (hH.trans (hb.mono hbx)) (fun hH => ?_)
              clear hK K
              try simp only [Act.put, List.setIfInBounds_toArray, List.set_cons_zero, List.set_cons_succ]
              refine wpAnyH_ready (rs := [26]) (by kernel_rfl) (by simp) ?_
              refine AllReadyH.cons (o := { dst := some 102, op := Op.call { callee := Callee.builtin Builtin.append, args := #[Operand.tmp 98, Operand.tmp 101], argTypes := #[29, 29] }, type := 29, pos := "law.go:105", after := _, guard := some (21, true) }) rfl (fun K hK => ?_) AllReadyH.nil
              rw [if_pos (by rfl)]
              refine wp_apb 29 rfl rfl 43 i0 (.agg #[.int .i64 0, .int .u32 0, .string ⟨#[]⟩]) 3 32 Tryd.underlying29 hi hz0 hz1 hz2 rfl (by omega) rfl hr0 NN hb0 hbz rfl (hQk.below (hH.mono hqN)) (flatE_one _) (by unfold maxLen; omega) (by omega) (fun v4 w4 hr4 hgr hb => ?_)
              try replace hc := hc.apart hr0 hgr (by omega)
              replace hbz := Nat.le_trans hbz hb.size
              refine hK.out _ _ (hH.trans hb) (fun hH => ?_)
              clear hK K
              try simp only [Act.put, List.setIfInBounds_toArray, List.set_cons_zero, List.set_cons_succ]
              refine wpAnyH_ready (rs := [29]) (by kernel_rfl) (by simp) ?_
              refine AllReadyH.cons (o := { dst := some 105, op := Op.call { callee := Callee.builtin Builtin.append, args := #[Operand.tmp 102, Operand.tmp 104], argTypes := #[29, 29] }, type := 29, pos := "law.go:105", after := _, guard := some (21, true) }) rfl (fun K hK => ?_) AllReadyH.nil
              rw [if_pos (by rfl)]
              refine wp_apb 29 rfl rfl 43 i0 (.agg #[.int .i64 0, .int .u32 0, .string ⟨#[]⟩]) 3 32 Tryd.underlying29 hi hz0 hz1 hz2 rfl (by omega) rfl hr4 NN hb0 hbz rfl (SL.blk hc (n := 1) (size := 3) rfl (by unfold maxLen; omega)) (fun u hu => flatE_one [C] u (by simpa using hu)) (by unfold maxLen; omega) (by omega) (fun v7 w7 hr7 hgr hb => ?_)
              obtain ⟨p3, c3, rfl, hs3⟩ := hr7.sl
              rw [Nat.zero_add, HFL.out] at hs3
              replace hbz := Nat.le_trans hbz hb.size
              refine hK.out _ _ (hH.trans hb) (fun hH => ?_)
              clear hK K
              try simp only [Act.put, List.setIfInBounds_toArray, List.set_cons_zero, List.set_cons_succ]
              refine wpAnyH_ready (rs := [30]) (by kernel_rfl) (by simp) ?_
              refine AllReadyH.cons (o := { dst := some 106, op := Op.call { callee := Callee.value (Operand.func 28), args := #[Operand.tmp 105], argTypes := #[29] }, type := 3, pos := "law.go:105", after := _, guard := some (21, true) }) rfl (fun K hK => ?_) AllReadyH.nil
              rw [if_pos (by rfl)]
              go_simp
              refine (HTZ.out _ _ _ _ _ (hBW.below hH (by omega)) hs3).mono ?_
              rintro r wq ⟨rfl, hb⟩
              have hbs := hb.size
              try simp only [World.size_alloc, World.size_setCell, World.size_drew, size_setRow] at hbs
              go_wp2_with fail
              refine hK.out _ _ (hH.trans (hb.mono (Nat.le_trans (Nat.le_of_eq HNN.out.symm) hH.size))) (fun hH => ?_)
              clear hK K
              try simp only [Act.put, List.setIfInBounds_toArray, List.set_cons_zero, List.set_cons_succ]
              refine wpAnyH_take (i := 33) (oi := { dst := some 109, op := Op.binOp BinOp.eql 3 (Operand.tmp 106) (Operand.tmp 108) 3, type := 4, pos := "law.go:105", after := _, guard := some (21, true) }) (v := _) rfl (by kernel_rfl) (by kernel_rfl) (by kernel_rfl) (fun _ _ _ h => h) (.inl ⟨by rfl, fun w hS => by (go_simp; try rfl)⟩) hH ?_
              try simp only [Act.put, List.setIfInBounds_toArray, List.set_cons_zero, List.set_cons_succ]
              refine wpAnyH_take (i := 34) (oi := { dst := some 110, op := Op.pick (Operand.tmp 97) (Operand.tmp 109) (Operand.const (Value.bool false)), type := 4, pos := "law.go:105", after := _, guard := none }) (v := _) rfl (by kernel_rfl) (by kernel_rfl) (by kernel_rfl) (fun _ _ _ h => h) (.inl ⟨by rfl, fun w hS => by (go_simp; try rfl)⟩) hH ?_
              try simp only [Act.put, List.setIfInBounds_toArray, List.set_cons_zero, List.set_cons_succ]
              refine wpAnyH_take (i := 35) (oi := { dst := some 4, op := Op.assign (Operand.tmp 110), type := 4, pos := "law.go:105", after := _, guard := none }) (v := _) rfl (by kernel_rfl) (by kernel_rfl) (by kernel_rfl) (fun _ _ _ h => h) (.inl ⟨by rfl, fun w hS => by (go_simp; try rfl)⟩) hH ?_
              try simp only [Act.put, List.setIfInBounds_toArray, List.set_cons_zero, List.set_cons_succ]
              refine wpAnyH_done (by kernel_rfl) ?_ _
              go_wp2_with fail
              go_ret
              exact ⟨rfl, by rw [hB]; exact hfar.trans (hH.mono (by omega))⟩
            refine AllReadyH.cons (o := { dst := some 104, op := Op.buildSlice 29 1 #[(0, Operand.tmp 103)], type := 29, pos := "law.go:105", after := _, guard := some (21, true) }) rfl (fun K hK => ?_) AllReadyH.nil
            rw [if_pos (by rfl)]
            have hbx : NN ≤ _ := Nat.le_trans (Nat.le_of_eq HNN.out.symm) hH.size
            refine wp_bs1b 29 rfl rfl Tryd.underlying29 el_Entry (by omega) (by omega) rfl (fun b wb hbe hc hb hbl => ?_)
            try replace hbz := Nat.le_trans hbz hb.size
            try replace hr0 := hr0.newB hb
            try replace hr4 := hr4.newB hb
            refine hK.out _ _ (hH.trans (hb.mono hbx)) (fun hH => ?_)
            clear hK K
            try simp only [Act.put, List.setIfInBounds_toArray, List.set_cons_zero, List.set_cons_succ]
            refine wpAnyH_ready (rs := [22]) (by kernel_rfl) (by simp) ?_
            refine AllReadyH.cons (o := { dst := some 98, op := Op.buildSlice 29 0 #[], type := 29, pos := "law.go:105", after := _, guard := some (21, true) }) rfl (fun K hK => ?_) AllReadyH.nil
            rw [if_pos (by rfl)]
            have hb0 : NN ≤ _ := Nat.le_trans (Nat.le_of_eq HNN.out.symm) hH.size
            refine wp_bs0 29 rfl Tryd.underlying29 el_Entry (fun v0 w0 hr0 hb => ?_)
            have hbz := hb.size
            try replace hc := hc.newB hb
            refine hK.out _ _ (hH.trans (hb.mono hb0)) (fun hH => ?_)
            clear hK K
            try simp only [Act.put, List.setIfInBounds_toArray, List.set_cons_zero, List.set_cons_succ]
            refine wpAnyH_ready (rs := [26]) (by kernel_rfl) (by simp) ?_
            refine AllReadyH.cons (o := { dst := some 102, op := Op.call { callee := Callee.builtin Builtin.append, args := #[Operand.tmp 98, Operand.tmp 101], argTypes := #[29, 29] }, type := 29, pos := "law.go:105", after := _, guard := some (21, true) }) rfl (fun K hK => ?_) AllReadyH.nil
            rw [if_pos (by rfl)]
            refine wp_apb 29 rfl rfl 43 i0 (.agg #[.int .i64 0, .int .u32 0, .string ⟨#[]⟩]) 3 32 Tryd.underlying29 hi hz0 hz1 hz2 rfl (by omega) rfl hr0 NN hb0 hbz rfl (hQk.below (hH.mono hqN)) (flatE_one _) (by unfold maxLen; omega) (by omega) (fun v4 w4 hr4 hgr hb => ?_)
            try replace hc := hc.apart hr0 hgr (by omega)
            replace hbz := Nat.le_trans hbz hb.size
            refine hK.out _ _ (hH.trans hb) (fun hH => ?_)
            clear hK K
            try simp only [Act.put, List.setIfInBounds_toArray, List.set_cons_zero, List.set_cons_succ]
            refine wpAnyH_ready (rs := [29]) (by kernel_rfl) (by simp) ?_
            refine AllReadyH.cons (o := { dst := some 105, op := Op.call { callee := Callee.builtin Builtin.append, args := #[Operand.tmp 102, Operand.tmp 104], argTypes := #[29, 29] }, type := 29, pos := "law.go:105", after := _, guard := some (21, true) }) rfl (fun K hK => ?_) AllReadyH.nil
            rw [if_pos (by rfl)]
            refine wp_apb 29 rfl rfl 43 i0 (.agg #[.int .i64 0, .int .u32 0, .string ⟨#[]⟩]) 3 32 Tryd.underlying29 hi hz0 hz1 hz2 rfl (by omega) rfl hr4 NN hb0 hbz rfl (SL.blk hc (n := 1) (size := 3) rfl (by unfold maxLen; omega)) (fun u hu => flatE_one [C] u (by simpa using hu)) (by unfold maxLen; omega) (by omega) (fun v7 w7 hr7 hgr hb => ?_)
            obtain ⟨p3, c3, rfl, hs3⟩ := hr7.sl
            rw [Nat.zero_add, HFL.out] at hs3
            replace hbz := Nat.le_trans hbz hb.size
            refine hK.out _ _ (hH.trans hb) (fun hH => ?_)
            clear hK K
            try simp only [Act.put, List.setIfInBounds_toArray, List.set_cons_zero, List.set_cons_succ]
            refine wpAnyH_ready (rs := [30]) (by kernel_rfl) (by simp) ?_
            refine AllReadyH.cons (o := { dst := some 106, op := Op.call { callee := Callee.value (Operand.func 28), args := #[Operand.tmp 105], argTypes := #[29] }, type := 3, pos := "law.go:105", after := _, guard := some (21, true) }) rfl (fun K hK => ?_) AllReadyH.nil
            rw [if_pos (by rfl)]
            go_simp
            refine (HTZ.out _ _ _ _ _ (hBW.below hH (by omega)) hs3).mono ?_
            rintro r wq ⟨rfl, hb⟩
            have hbs := hb.size
            try simp only [World.size_alloc, World.size_setCell, World.size_drew, size_setRow] at hbs
            go_wp2_with fail
            refine hK.out _ _ (hH.trans (hb.mono (Nat.le_trans (Nat.le_of_eq HNN.out.symm) hH.size))) (fun hH => ?_)
            clear hK K
            try simp only [Act.put, List.setIfInBounds_toArray, List.set_cons_zero, List.set_cons_succ]
            refine wpAnyH_take (i := 33) (oi := { dst := some 109, op := Op.binOp BinOp.eql 3 (Operand.tmp 106) (Operand.tmp 108) 3, type := 4, pos := "law.go:105", after := _, guard := some (21, true) }) (v := _) rfl (by kernel_rfl) (by kernel_rfl) (by kernel_rfl) (fun _ _ _ h => h) (.inl ⟨by rfl, fun w hS => by (go_simp; try rfl)⟩) hH ?_
            try simp only [Act.put, List.setIfInBounds_toArray, List.set_cons_zero, List.set_cons_succ]
            refine wpAnyH_take (i := 34) (oi := { dst := some 110, op := Op.pick (Operand.tmp 97) (Operand.tmp 109) (Operand.const (Value.bool false)), type := 4, pos := "law.go:105", after := _, guard := none }) (v := _) rfl (by kernel_rfl) (by kernel_rfl) (by kernel_rfl) (fun _ _ _ h => h) (.inl ⟨by rfl, fun w hS => by (go_simp; try rfl)⟩) hH ?_
            try simp only [Act.put, List.setIfInBounds_toArray, List.set_cons_zero, List.set_cons_succ]
            refine wpAnyH_take (i := 35) (oi := { dst := some 4, op := Op.assign (Operand.tmp 110), type := 4, pos := "law.go:105", after := _, guard := none }) (v := _) rfl (by kernel_rfl) (by kernel_rfl) (by kernel_rfl) (fun _ _ _ h => h) (.inl ⟨by rfl, fun w hS => by (go_simp; try rfl)⟩) hH ?_
            try simp only [Act.put, List.setIfInBounds_toArray, List.set_cons_zero, List.set_cons_succ]
            refine wpAnyH_done (by kernel_rfl) ?_ _
            go_wp2_with fail
            go_ret
            exact ⟨rfl, by rw [hB]; exact hfar.trans (hH.mono (by omega))⟩
end Go.Proofs.YtbpdocdomjafbaaDoor
