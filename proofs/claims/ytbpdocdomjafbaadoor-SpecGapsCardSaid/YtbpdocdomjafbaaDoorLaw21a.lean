/- The walk of spoollaw21.SpecParts: whatever comes in, it returns true. -/
import Derived.Test.YtbpdocdomjafbaaDoorFold
set_option linter.unusedSimpArgs false
set_option linter.unusedVariables false
namespace Go.Proofs.YtbpdocdomjafbaaDoor
open Go.RowKit

set_option maxRecDepth 100000 in
set_option maxHeartbeats 4000000 in
theorem SpecParts_any (L : List Int) (hL : L.length = 38) (l : List Ent) (p : Option Addr) (cap : Nat) (cut : Int) (h0 : 0 ≤ cut) (h255 : cut ≤ 255) (w : World) (hW : BandsW w) (hE : EntIn w p cap l) :
    Calls Tryd.prog 3 #[.agg (arrV L), .slice p l.length cap, .int .u8 cut] w fun r w' => r = .returned (.bool true) ∧ Below w.heap.size w w' := by
  have hBW : Blk w 0 bandC 142 := hW
  have hB0 := hW.lt
  have LL := Len.mk hL
  have hc1 := hE.1
  have hc2 := hE.2.1
  have hfew := few_any l p cap
  obtain ⟨n, hn⟩ : ∃ n, l.length = n := ⟨_, rfl⟩
  have HN := Lib.hid hn
  have hOf := fun h w => Of21_any l h p cap w
  rw [hn] at hc1 hfew hOf ⊢
  have HFEW := Lib.hid hfew
  have HOF := Lib.hid hOf
  have HE := Lib.hid hE
  clear hE hn hW hL hfew hOf
  obtain ⟨B, hB⟩ : ∃ B, w.heap.size = B := ⟨_, rfl⟩
  rw [hB] at hB0
  have hfar := Below.refl B w
  have hsz : B ≤ w.heap.size := by omega
  go_enter Tryd.func3, Tryd.ntmps3
  go_upto_region 1 with (fail)
  refine wp_gen (fun W => Blk W (0) (bandC) 142 ∧ Blk W (B) (arrV L) 25 ∧ Below (B) w W ∧ B + 1 ≤ W.heap.size) ⟨bk_, bk_, bl_, sz_⟩ ?_
  clear hBW hfar hsz
  rintro w1 ⟨hBW, hA, hfar, hsz⟩
  go_wp2_with fail
  refine (awake_any _ hBW).mono ?_
  rintro e w2 ⟨rfl, hb2⟩
  replace hBW := hBW.newB hb2
  replace hA := hA.newB hb2
  replace hfar := hfar.trans (hb2.mono (by omega))
  replace hsz := Nat.le_trans hsz hb2.size
  go_wp2_with fail
  refine (HFEW.out _ (HE.out.below hB.symm hfar)).mono ?_
  rintro r wf ⟨rfl, rfl⟩
  cases hf : fewE l with
  | false =>
    go_wp2_with fail
    refine (awake_any _ hBW).mono ?_
    rintro e w3 ⟨rfl, hb3⟩
    replace hBW := hBW.newB hb3
    replace hA := hA.newB hb3
    replace hfar := hfar.trans (hb3.mono (by omega))
    replace hsz := Nat.le_trans hsz hb3.size
    go_wp2_with fail
    go_ret
    exact ⟨rfl, (by (try rw [hB]); exact bl_)⟩
  | true =>
    have h25 : n ≤ 25 := by rw [← HN.out]; exact few_len hf
    obtain ⟨k, hk, hkn⟩ : ∃ k : Nat, cut % ((n : Int) + 1) = k ∧ k ≤ n := by
      have h1 := Int.emod_nonneg cut (show ((n : Int) + 1) ≠ 0 by omega)
      have h2 := Int.emod_lt_of_pos cut (show 0 < (n : Int) + 1 by omega)
      exact ⟨(cut % ((n : Int) + 1)).toNat, by omega, by omega⟩
    have hk' := Lib.hid hk
    clear hf hk
    go_wp2_with fail
    have hk := hk'.out
    clear hk'
    simp only [hk]
    clear hk
    refine (HOF.out (by omega) _ (HE.out.below hB.symm hfar)).mono ?_
    rintro r w3 ⟨v3, rfl, hv3, hb3⟩
    replace hBW := hBW.newB hb3
    replace hA := hA.newB hb3
    replace hfar := hfar.trans (hb3.mono (by omega))
    replace hsz := Nat.le_trans hsz hb3.size
    obtain ⟨p2, c2, rfl, hQ⟩ := hv3.sl
    rw [HN.out] at hQ ⊢
    have hnc : n ≤ c2 := hQ.2.1
    have hkc : k ≤ c2 := by omega
    have hcm := hQ.2.2.1
    unfold maxLen at hcm
    obtain ⟨q0, hq0⟩ : ∃ q, w2.heap.size = q := ⟨_, rfl⟩
    obtain ⟨q1, hq1⟩ : ∃ q, w3.heap.size = q := ⟨_, rfl⟩
    rw [hq0, hq1] at hQ
    have hq1B : B + 1 ≤ q1 := by omega
    clear hv3 hq0
    go_upto_region 5 with (fail)
    have hA1 := foldO_len L (l.take k)
    have hLa := foldO_le L (l.take k)
    rw [List.length_take, HN.out] at hLa
    have LM1 := Len.mk (foldS_len LL.out (l.take k))
    have hF1 := fun w lo hi (hW : BandsW w) (hs : SL w lo hi 3 p2 n c2 (flE l)) => toBN (Fold_cut LL HN.out (by omega) hkn hW hs)
    have hA2 := foldO_len (foldS L (l.take k)) (l.drop k)
    have hLb := foldO_le (foldS L (l.take k)) (l.drop k)
    rw [List.length_drop, HN.out] at hLb
    have LM2 := Len.mk (foldS_len LM1.out (l.drop k))
    obtain ⟨p', hp'⟩ : ∃ p', (if c2 = k then p2 else p2.map (·.add (k * 3))) = p' := ⟨_, rfl⟩
    have hF2 := fun w lo hi (hW : BandsW w) (hs : SL w lo hi 3 p2 n c2 (flE l)) => toBN (Fold_rest LM1 HN.out (by omega) hkn hp' hW hs)
    have hF3 := fun w lo hi (hW : BandsW w) (hs : SL w lo hi 3 p2 n c2 (flE l)) => toBN (Fold_all LL HN.out (by omega) hW hs)
    have e1 : foldO L l = foldO L (l.take k) ++ foldO (foldS L (l.take k)) (l.drop k) := by rw [← foldO_app, List.take_append_drop]
    have e2 : foldS L l = foldS (foldS L (l.take k)) (l.drop k) := by rw [← foldS_app, List.take_append_drop]
    rw [e1, e2] at hF3
    obtain ⟨A1, hA1e⟩ : ∃ A, foldO L (l.take k) = A := ⟨_, rfl⟩
    obtain ⟨M1, hM1e⟩ : ∃ M, foldS L (l.take k) = M := ⟨_, rfl⟩
    simp only [hA1e, hM1e] at hA1 hLa LM1 hF1 hA2 hLb LM2 hF2 hF3
    obtain ⟨A2, hA2e⟩ : ∃ A, foldO M1 (l.drop k) = A := ⟨_, rfl⟩
    obtain ⟨M2, hM2e⟩ : ∃ M, foldS M1 (l.drop k) = M := ⟨_, rfl⟩
    simp only [hA2e, hM2e] at hA2 hLb LM2 hF2 hF3
    have hAA : ∀ b ∈ A1 ++ A2, b.length = 16 := fun b hb => (List.mem_append.1 hb).elim (hA1 b) (hA2 b)
    obtain ⟨C, hC⟩ : ∃ C, A1 ++ A2 = C := ⟨_, rfl⟩
    have hCf : C.flatMap intsV = A1.flatMap intsV ++ A2.flatMap intsV := by rw [← hC, List.flatMap_append]
    have hCl : C.length = A1.length + A2.length := by rw [← hC, List.length_append]
    rw [hC] at hAA hF3
    have hSm := fun lo1 hi1 lo2 hi2 p1 p2 c1 c2 w h1 h2 => Same_any C hAA (by omega) lo1 hi1 lo2 hi2 p1 p2 c1 c2 w h1 h2
    simp only [BS] at hSm
    rw [hCf, hCl] at hF3
    simp only [hCf, hCl] at hSm
    obtain ⟨na, hna⟩ : ∃ n, A1.length = n := ⟨_, rfl⟩
    obtain ⟨nb, hnb⟩ : ∃ n, A2.length = n := ⟨_, rfl⟩
    simp only [hna, hnb] at hF1 hF2 hF3 hSm hLa hLb
    have HSM := Lib.hid hSm
    clear hAA hC hCf hCl hna hnb hSm
    have HF1 := Lib.hid hF1
    have HF2 := Lib.hid hF2
    have HF3 := Lib.hid hF3
    have HA1 := Lib.hid hA1
    have HA2 := Lib.hid hA2
    have HP := Lib.hid hp'
    clear hF1 hF2 hF3 hA1 hA2 e1 e2 hA1e hM1e hA2e hM2e hp'
    go_cut [9, 10] from 31 (fun s9 s10 wx => ∃ (pa : Option Addr) (ca lo hi g : Nat), s9 = .slice pa na ca ∧ s10 = .pointer (some ⟨g, 0, none⟩) ∧ Blk wx 0 bandC 142 ∧ Blk wx B (arrV L) 25 ∧ SL wx q0 q1 3 p2 n c2 (flE l) ∧ SL wx lo hi 16 pa na ca (A1.flatMap intsV) ∧ Blk wx g (arrV M1) 34 ∧ Below B w wx ∧ q1 ≤ wx.heap.size)
    case first =>
      replace hsz : q1 ≤ w3.heap.size := by omega
      refine wp_region_held_drew (S := fun W => Blk W (0) (bandC) 142 ∧ Blk W (B) (arrV L) 25 ∧ SL W (q0) (q1) (3) (p2) (n) (c2) (flE l) ∧ Below (B) w W ∧ q1 ≤ W.heap.size) (by kernel_rfl) (⟨hBW.drew, hA.drew, hQ.drew, hfar.drew, hsz⟩) (fun hH => ?_)
      have hH2 := hH
      obtain ⟨hBW, hA, hQ, hfar, hsz⟩ := hH2
      refine wpAnyH_take (i := 0) (oi := { dst := some 32, op := Op.load 25 (Operand.tmp 3), type := 25, pos := "law.go:65", after := _, guard := none }) (v := .agg (arrV L)) rfl (by kernel_rfl) (by kernel_rfl) (by kernel_rfl) (fun _ _ _ h => h) (yieldsIf_ld (by rfl) 25 rfl w_RState rfl (fun _ hS => hS.2.1) zz_) hH ?_
      try simp only [Act.put, List.setIfInBounds_toArray, List.set_cons_zero, List.set_cons_succ]
      refine wpAnyH_take (i := 2) (oi := { dst := some 34, op := Op.move (Operand.tmp 8), type := 29, pos := "law.go:65", after := _, guard := none }) (v := _) rfl (by kernel_rfl) (by kernel_rfl) (by kernel_rfl) (fun _ _ _ h => h) (.inl ⟨by rfl, fun w hS => by (go_simp; try rfl)⟩) hH ?_
      try simp only [Act.put, List.setIfInBounds_toArray, List.set_cons_zero, List.set_cons_succ]
      refine wpAnyH_take (i := 3) (oi := { dst := some 35, op := Op.move (Operand.tmp 7), type := 3, pos := "law.go:65", after := _, guard := none }) (v := _) rfl (by kernel_rfl) (by kernel_rfl) (by kernel_rfl) (fun _ _ _ h => h) (.inl ⟨by rfl, fun w hS => by (go_simp; try rfl)⟩) hH ?_
      try simp only [Act.put, List.setIfInBounds_toArray, List.set_cons_zero, List.set_cons_succ]
      refine wpAnyH_take (i := 4) (oi := { dst := some 36, op := Op.slice 29 (Operand.tmp 34) none (some (Operand.tmp 35)) none, type := 29, pos := "law.go:65", after := _, guard := none }) (v := .slice p2 k c2) rfl (by kernel_rfl) (by kernel_rfl) (by kernel_rfl) (fun _ _ _ h => h) (yieldsIf_slh (by rfl) 29 rfl rfl rfl Tryd.underlying29 el_Entry.1 hkc) hH ?_
      try simp only [Act.put, List.setIfInBounds_toArray, List.set_cons_zero, List.set_cons_succ]
      refine wpAnyH_ready (rs := [1, 9]) (by kernel_rfl) (by simp) ?_
      refine AllReadyH.cons (o := { dst := some 33, op := Op.call { callee := Callee.value (Operand.func 15), args := #[Operand.tmp 32], argTypes := #[25] }, type := 34, pos := "law.go:65", after := _, guard := none }) rfl (fun K hK => ?_) ?_
      · rw [if_pos (by rfl)]
        go_simp
        refine (Of_any L LL.out _).mono ?_
        rintro r wq ⟨rfl, hb⟩
        have hbs := hb.size
        try simp only [World.size_alloc, World.size_setCell, World.size_drew, size_setRow] at hbs
        go_wp2_with fail
        refine hK.out _ _ ⟨bk_, bk_, sl_, bl_, Nat.le_trans (sz_) hb.size⟩ (fun hH2 => ?_)
        clear hH
        have hH := hH2
        obtain ⟨hBW, hA, hQ, hfar, hsz⟩ := hH2
        clear hK K
        try simp only [Act.put, List.setIfInBounds_toArray, List.set_cons_zero, List.set_cons_succ]
        refine wpAnyH_ready (rs := [5, 9]) (by kernel_rfl) (by simp) ?_
        refine AllReadyH.cons (o := { dst := some 37, op := Op.call { callee := Callee.value (Operand.func 14), args := #[Operand.tmp 33, Operand.tmp 36], argTypes := #[34, 29] }, type := 35, pos := "law.go:65", after := _, guard := none }) rfl (fun K hK => ?_) ?_
        · rw [if_pos (by rfl)]
          go_simp
          refine (HF1.out _ _ _ hBW hQ).mono ?_
          rintro r wq ⟨v5, rfl, hv5, hb⟩
          have hbs := hb.size
          try simp only [World.size_alloc, World.size_setCell, World.size_drew, size_setRow] at hbs
          obtain ⟨pa, ca, lo5, hi5, rfl, hsa, hlo5, hhi5⟩ := own_ex hv5
          try simp only [World.size_alloc, World.size_setCell, World.size_drew, size_setRow] at hlo5
          go_wp2_with fail
          refine hK.out _ _ ⟨bk_, bk_, sl_, bl_, Nat.le_trans (sz_) hb.size⟩ (fun hH2 => ?_)
          clear hH
          have hH := hH2
          obtain ⟨hBW, hA, hQ, hfar, hsz⟩ := hH2
          clear hK K
          try simp only [Act.put, List.setIfInBounds_toArray, List.set_cons_zero, List.set_cons_succ]
          refine wpAnyH_take (i := 6) (oi := { dst := some 31, op := Op.move (Operand.tmp 37), type := 35, pos := "law.go:65", after := _, guard := none }) (v := _) rfl (by kernel_rfl) (by kernel_rfl) (by kernel_rfl) (fun _ _ _ h => h) (.inl ⟨by rfl, fun w hS => by (go_simp; try rfl)⟩) hH ?_
          try simp only [Act.put, List.setIfInBounds_toArray, List.set_cons_zero, List.set_cons_succ]
          refine wpAnyH_take (i := 7) (oi := { dst := some 38, op := Op.extract (Operand.tmp 31) 0, type := 31, pos := "law.go:65", after := _, guard := none }) (v := _) rfl (by kernel_rfl) (by kernel_rfl) (by kernel_rfl) (fun _ _ _ h => h) (.inl ⟨by rfl, fun w hS => by (go_simp; try rfl)⟩) hH ?_
          try simp only [Act.put, List.setIfInBounds_toArray, List.set_cons_zero, List.set_cons_succ]
          refine wpAnyH_take (i := 8) (oi := { dst := some 39, op := Op.extract (Operand.tmp 31) 1, type := 34, pos := "law.go:65", after := _, guard := none }) (v := _) rfl (by kernel_rfl) (by kernel_rfl) (by kernel_rfl) (fun _ _ _ h => h) (.inl ⟨by rfl, fun w hS => by (go_simp; try rfl)⟩) hH ?_
          try simp only [Act.put, List.setIfInBounds_toArray, List.set_cons_zero, List.set_cons_succ]
          refine wpAnyH_ready (rs := [9]) (by kernel_rfl) (by simp) ?_
          refine AllReadyH.cons (o := { dst := some 10, op := Op.alloc 34, type := 0, pos := "law.go:65", after := _, guard := none }) rfl (fun K hK => ?_) AllReadyH.nil
          rw [if_pos (by rfl)]
          go_simp
          refine hK.out _ _ ⟨bk_, bk_, sl_, bl_, sz_⟩ (fun hH2 => ?_)
          clear hH
          have hH := hH2
          obtain ⟨hBW, hA, hQ, hfar, hsz⟩ := hH2
          clear hK K
          try simp only [Act.put, List.setIfInBounds_toArray, List.set_cons_zero, List.set_cons_succ]
          refine wpAnyH_take (i := 10) (oi := { dst := some 9, op := Op.assign (Operand.tmp 38), type := 31, pos := "law.go:65", after := _, guard := none }) (v := _) rfl (by kernel_rfl) (by kernel_rfl) (by kernel_rfl) (fun _ _ _ h => h) (.inl ⟨by rfl, fun w hS => by (go_simp; try rfl)⟩) hH ?_
          try simp only [Act.put, List.setIfInBounds_toArray, List.set_cons_zero, List.set_cons_succ]
          refine wpAnyH_ready (rs := [11]) (by kernel_rfl) (by simp) ?_
          refine AllReadyH.cons (o := { dst := none, op := Op.store 34 (Operand.tmp 10) (Operand.tmp 39), type := 0, pos := "law.go:65", after := _, guard := none }) rfl (fun K hK => ?_) AllReadyH.nil
          rw [if_pos (by rfl)]
          refine wp_st 34 rfl w_State rfl rfl bk_ zz_ zz_ one_ ?_
          refine hK.out _ _ ⟨bk_, bk_, sl_, bl_, sz_⟩ (fun hH2 => ?_)
          clear hH
          have hH := hH2
          obtain ⟨hBW, hA, hQ, hfar, hsz⟩ := hH2
          clear hK K
          try simp only [Act.put]
          refine wpAnyH_done (by kernel_rfl) ?_ _
          go_wp2_with fail
          go_meet
          case rel => exact ⟨pa, ca, lo5, hi5, _, rfl, rfl, by exact bk_, by exact bk_, by exact sl_, by exact sl_, by exact bk_, by exact bl_, by exact sz_⟩
        refine AllReadyH.cons (o := { dst := some 10, op := Op.alloc 34, type := 0, pos := "law.go:65", after := _, guard := none }) rfl (fun K hK => ?_) AllReadyH.nil
        rw [if_pos (by rfl)]
        go_simp
        refine hK.out _ _ ⟨bk_, bk_, sl_, bl_, sz_⟩ (fun hH2 => ?_)
        clear hH
        have hH := hH2
        obtain ⟨hBW, hA, hQ, hfar, hsz⟩ := hH2
        clear hK K
        try simp only [Act.put, List.setIfInBounds_toArray, List.set_cons_zero, List.set_cons_succ]
        refine wpAnyH_ready (rs := [5]) (by kernel_rfl) (by simp) ?_
        refine AllReadyH.cons (o := { dst := some 37, op := Op.call { callee := Callee.value (Operand.func 14), args := #[Operand.tmp 33, Operand.tmp 36], argTypes := #[34, 29] }, type := 35, pos := "law.go:65", after := _, guard := none }) rfl (fun K hK => ?_) AllReadyH.nil
        rw [if_pos (by rfl)]
        go_simp
        refine (HF1.out _ _ _ hBW hQ).mono ?_
        rintro r wq ⟨v5, rfl, hv5, hb⟩
        have hbs := hb.size
        try simp only [World.size_alloc, World.size_setCell, World.size_drew, size_setRow] at hbs
        obtain ⟨pa, ca, lo5, hi5, rfl, hsa, hlo5, hhi5⟩ := own_ex hv5
        try simp only [World.size_alloc, World.size_setCell, World.size_drew, size_setRow] at hlo5
        go_wp2_with fail
        refine hK.out _ _ ⟨bk_, bk_, sl_, bl_, Nat.le_trans (sz_) hb.size⟩ (fun hH2 => ?_)
        clear hH
        have hH := hH2
        obtain ⟨hBW, hA, hQ, hfar, hsz⟩ := hH2
        clear hK K
        try simp only [Act.put, List.setIfInBounds_toArray, List.set_cons_zero, List.set_cons_succ]
        refine wpAnyH_take (i := 6) (oi := { dst := some 31, op := Op.move (Operand.tmp 37), type := 35, pos := "law.go:65", after := _, guard := none }) (v := _) rfl (by kernel_rfl) (by kernel_rfl) (by kernel_rfl) (fun _ _ _ h => h) (.inl ⟨by rfl, fun w hS => by (go_simp; try rfl)⟩) hH ?_
        try simp only [Act.put, List.setIfInBounds_toArray, List.set_cons_zero, List.set_cons_succ]
        refine wpAnyH_take (i := 7) (oi := { dst := some 38, op := Op.extract (Operand.tmp 31) 0, type := 31, pos := "law.go:65", after := _, guard := none }) (v := _) rfl (by kernel_rfl) (by kernel_rfl) (by kernel_rfl) (fun _ _ _ h => h) (.inl ⟨by rfl, fun w hS => by (go_simp; try rfl)⟩) hH ?_
        try simp only [Act.put, List.setIfInBounds_toArray, List.set_cons_zero, List.set_cons_succ]
        refine wpAnyH_take (i := 8) (oi := { dst := some 39, op := Op.extract (Operand.tmp 31) 1, type := 34, pos := "law.go:65", after := _, guard := none }) (v := _) rfl (by kernel_rfl) (by kernel_rfl) (by kernel_rfl) (fun _ _ _ h => h) (.inl ⟨by rfl, fun w hS => by (go_simp; try rfl)⟩) hH ?_
        try simp only [Act.put, List.setIfInBounds_toArray, List.set_cons_zero, List.set_cons_succ]
        refine wpAnyH_take (i := 10) (oi := { dst := some 9, op := Op.assign (Operand.tmp 38), type := 31, pos := "law.go:65", after := _, guard := none }) (v := _) rfl (by kernel_rfl) (by kernel_rfl) (by kernel_rfl) (fun _ _ _ h => h) (.inl ⟨by rfl, fun w hS => by (go_simp; try rfl)⟩) hH ?_
        try simp only [Act.put, List.setIfInBounds_toArray, List.set_cons_zero, List.set_cons_succ]
        refine wpAnyH_ready (rs := [11]) (by kernel_rfl) (by simp) ?_
        refine AllReadyH.cons (o := { dst := none, op := Op.store 34 (Operand.tmp 10) (Operand.tmp 39), type := 0, pos := "law.go:65", after := _, guard := none }) rfl (fun K hK => ?_) AllReadyH.nil
        rw [if_pos (by rfl)]
        refine wp_st 34 rfl w_State rfl rfl bk_ zz_ zz_ one_ ?_
        refine hK.out _ _ ⟨bk_, bk_, sl_, bl_, sz_⟩ (fun hH2 => ?_)
        clear hH
        have hH := hH2
        obtain ⟨hBW, hA, hQ, hfar, hsz⟩ := hH2
        clear hK K
        try simp only [Act.put]
        refine wpAnyH_done (by kernel_rfl) ?_ _
        go_wp2_with fail
        go_meet
        case rel => exact ⟨pa, ca, lo5, hi5, _, rfl, rfl, by exact bk_, by exact bk_, by exact sl_, by exact sl_, by exact bk_, by exact bl_, by exact sz_⟩
      refine AllReadyH.cons (o := { dst := some 10, op := Op.alloc 34, type := 0, pos := "law.go:65", after := _, guard := none }) rfl (fun K hK => ?_) AllReadyH.nil
      rw [if_pos (by rfl)]
      go_simp
      refine hK.out _ _ ⟨bk_, bk_, sl_, bl_, sz_⟩ (fun hH2 => ?_)
      clear hH
      have hH := hH2
      obtain ⟨hBW, hA, hQ, hfar, hsz⟩ := hH2
      clear hK K
      try simp only [Act.put, List.setIfInBounds_toArray, List.set_cons_zero, List.set_cons_succ]
      refine wpAnyH_ready (rs := [1]) (by kernel_rfl) (by simp) ?_
      refine AllReadyH.cons (o := { dst := some 33, op := Op.call { callee := Callee.value (Operand.func 15), args := #[Operand.tmp 32], argTypes := #[25] }, type := 34, pos := "law.go:65", after := _, guard := none }) rfl (fun K hK => ?_) AllReadyH.nil
      rw [if_pos (by rfl)]
      go_simp
      refine (Of_any L LL.out _).mono ?_
      rintro r wq ⟨rfl, hb⟩
      have hbs := hb.size
      try simp only [World.size_alloc, World.size_setCell, World.size_drew, size_setRow] at hbs
      go_wp2_with fail
      refine hK.out _ _ ⟨bk_, bk_, sl_, bl_, Nat.le_trans (sz_) hb.size⟩ (fun hH2 => ?_)
      clear hH
      have hH := hH2
      obtain ⟨hBW, hA, hQ, hfar, hsz⟩ := hH2
      clear hK K
      try simp only [Act.put, List.setIfInBounds_toArray, List.set_cons_zero, List.set_cons_succ]
      refine wpAnyH_ready (rs := [5]) (by kernel_rfl) (by simp) ?_
      refine AllReadyH.cons (o := { dst := some 37, op := Op.call { callee := Callee.value (Operand.func 14), args := #[Operand.tmp 33, Operand.tmp 36], argTypes := #[34, 29] }, type := 35, pos := "law.go:65", after := _, guard := none }) rfl (fun K hK => ?_) AllReadyH.nil
      rw [if_pos (by rfl)]
      go_simp
      refine (HF1.out _ _ _ hBW hQ).mono ?_
      rintro r wq ⟨v5, rfl, hv5, hb⟩
      have hbs := hb.size
      try simp only [World.size_alloc, World.size_setCell, World.size_drew, size_setRow] at hbs
      obtain ⟨pa, ca, lo5, hi5, rfl, hsa, hlo5, hhi5⟩ := own_ex hv5
      try simp only [World.size_alloc, World.size_setCell, World.size_drew, size_setRow] at hlo5
      go_wp2_with fail
      refine hK.out _ _ ⟨bk_, bk_, sl_, bl_, Nat.le_trans (sz_) hb.size⟩ (fun hH2 => ?_)
      clear hH
      have hH := hH2
      obtain ⟨hBW, hA, hQ, hfar, hsz⟩ := hH2
      clear hK K
      try simp only [Act.put, List.setIfInBounds_toArray, List.set_cons_zero, List.set_cons_succ]
      refine wpAnyH_take (i := 6) (oi := { dst := some 31, op := Op.move (Operand.tmp 37), type := 35, pos := "law.go:65", after := _, guard := none }) (v := _) rfl (by kernel_rfl) (by kernel_rfl) (by kernel_rfl) (fun _ _ _ h => h) (.inl ⟨by rfl, fun w hS => by (go_simp; try rfl)⟩) hH ?_
      try simp only [Act.put, List.setIfInBounds_toArray, List.set_cons_zero, List.set_cons_succ]
      refine wpAnyH_take (i := 7) (oi := { dst := some 38, op := Op.extract (Operand.tmp 31) 0, type := 31, pos := "law.go:65", after := _, guard := none }) (v := _) rfl (by kernel_rfl) (by kernel_rfl) (by kernel_rfl) (fun _ _ _ h => h) (.inl ⟨by rfl, fun w hS => by (go_simp; try rfl)⟩) hH ?_
      try simp only [Act.put, List.setIfInBounds_toArray, List.set_cons_zero, List.set_cons_succ]
      refine wpAnyH_take (i := 8) (oi := { dst := some 39, op := Op.extract (Operand.tmp 31) 1, type := 34, pos := "law.go:65", after := _, guard := none }) (v := _) rfl (by kernel_rfl) (by kernel_rfl) (by kernel_rfl) (fun _ _ _ h => h) (.inl ⟨by rfl, fun w hS => by (go_simp; try rfl)⟩) hH ?_
      try simp only [Act.put, List.setIfInBounds_toArray, List.set_cons_zero, List.set_cons_succ]
      refine wpAnyH_take (i := 10) (oi := { dst := some 9, op := Op.assign (Operand.tmp 38), type := 31, pos := "law.go:65", after := _, guard := none }) (v := _) rfl (by kernel_rfl) (by kernel_rfl) (by kernel_rfl) (fun _ _ _ h => h) (.inl ⟨by rfl, fun w hS => by (go_simp; try rfl)⟩) hH ?_
      try simp only [Act.put, List.setIfInBounds_toArray, List.set_cons_zero, List.set_cons_succ]
      refine wpAnyH_ready (rs := [11]) (by kernel_rfl) (by simp) ?_
      refine AllReadyH.cons (o := { dst := none, op := Op.store 34 (Operand.tmp 10) (Operand.tmp 39), type := 0, pos := "law.go:65", after := _, guard := none }) rfl (fun K hK => ?_) AllReadyH.nil
      rw [if_pos (by rfl)]
      refine wp_st 34 rfl w_State rfl rfl bk_ zz_ zz_ one_ ?_
      refine hK.out _ _ ⟨bk_, bk_, sl_, bl_, sz_⟩ (fun hH2 => ?_)
      clear hH
      have hH := hH2
      obtain ⟨hBW, hA, hQ, hfar, hsz⟩ := hH2
      clear hK K
      try simp only [Act.put]
      refine wpAnyH_done (by kernel_rfl) ?_ _
      go_wp2_with fail
      go_meet
      case rel => exact ⟨pa, ca, lo5, hi5, _, rfl, rfl, by exact bk_, by exact bk_, by exact sl_, by exact sl_, by exact bk_, by exact bl_, by exact sz_⟩
    case rest =>
      clear hBW hA hQ hfar hsz
      obtain ⟨pa, ca, loa, hia, g1, rfl, rfl, hBW, hA, hQ, hsa, hM, hfar, hsz⟩ := hcut
      have hha := hsa.2.2.2.1
      have hg1 := hM.lt
      obtain ⟨N, hN⟩ : ∃ N, wc.heap.size = N := ⟨_, rfl⟩
      rw [hN] at hha hg1 hsz
      have hq1N : q1 ≤ N := hsz
      replace hsz : N ≤ wc.heap.size := by omega
      have hNB : B < N := hN ▸ hA.lt
      go_upto_region 6 with (fail)
      go_cut [11, 12] from 40 (fun s11 s12 wx => ∃ (pb : Option Addr) (cb lo hi g : Nat), s11 = .slice pb nb cb ∧ s12 = .pointer (some ⟨g, 0, none⟩) ∧ Blk wx 0 bandC 142 ∧ Blk wx B (arrV L) 25 ∧ SL wx q0 q1 3 p2 n c2 (flE l) ∧ SL wx loa hia 16 pa na ca (A1.flatMap intsV) ∧ SL wx lo hi 16 pb nb cb (A2.flatMap intsV) ∧ Blk wx g (arrV M2) 34 ∧ Below B w wx ∧ N ≤ wx.heap.size)
      case first =>
        refine wp_region_held_drew (S := fun W => Blk W (0) (bandC) 142 ∧ Blk W (B) (arrV L) 25 ∧ SL W (q0) (q1) (3) (p2) (n) (c2) (flE l) ∧ SL W (loa) (hia) (16) (pa) (na) (ca) (A1.flatMap intsV) ∧ Blk W (g1) (arrV M1) 34 ∧ Below (B) w W ∧ N ≤ W.heap.size) (by kernel_rfl) (⟨hBW.drew, hA.drew, hQ.drew, hsa.drew, hM.drew, hfar.drew, hsz⟩) (fun hH => ?_)
        have hH2 := hH
        obtain ⟨hBW, hA, hQ, hsa, hM, hfar, hsz⟩ := hH2
        refine wpAnyH_take (i := 0) (oi := { dst := some 41, op := Op.load 34 (Operand.tmp 10), type := 34, pos := "law.go:66", after := _, guard := none }) (v := .agg (arrV M1)) rfl (by kernel_rfl) (by kernel_rfl) (by kernel_rfl) (fun _ _ _ h => h) (yieldsIf_ld (by rfl) 34 rfl w_State rfl (fun _ hS => hS.2.2.2.2.1) zz_) hH ?_
        try simp only [Act.put, List.setIfInBounds_toArray, List.set_cons_zero, List.set_cons_succ]
        refine wpAnyH_take (i := 1) (oi := { dst := some 42, op := Op.move (Operand.tmp 8), type := 29, pos := "law.go:66", after := _, guard := none }) (v := _) rfl (by kernel_rfl) (by kernel_rfl) (by kernel_rfl) (fun _ _ _ h => h) (.inl ⟨by rfl, fun w hS => by (go_simp; try rfl)⟩) hH ?_
        try simp only [Act.put, List.setIfInBounds_toArray, List.set_cons_zero, List.set_cons_succ]
        refine wpAnyH_take (i := 2) (oi := { dst := some 43, op := Op.move (Operand.tmp 7), type := 3, pos := "law.go:66", after := _, guard := none }) (v := _) rfl (by kernel_rfl) (by kernel_rfl) (by kernel_rfl) (fun _ _ _ h => h) (.inl ⟨by rfl, fun w hS => by (go_simp; try rfl)⟩) hH ?_
        try simp only [Act.put, List.setIfInBounds_toArray, List.set_cons_zero, List.set_cons_succ]
        refine wpAnyH_take (i := 3) (oi := { dst := some 44, op := Op.slice 29 (Operand.tmp 42) (some (Operand.tmp 43)) none none, type := 29, pos := "law.go:66", after := _, guard := none }) (v := .slice p' (n - k) (c2 - k)) rfl (by kernel_rfl) (by kernel_rfl) (by kernel_rfl) (fun _ _ _ h => h) (yieldsIf_sll (by rfl) 29 rfl rfl rfl Tryd.underlying29 el_Entry.1 hkn HP.out) hH ?_
        try simp only [Act.put, List.setIfInBounds_toArray, List.set_cons_zero, List.set_cons_succ]
        refine wpAnyH_ready (rs := [4, 8]) (by kernel_rfl) (by simp) ?_
        refine AllReadyH.cons (o := { dst := some 45, op := Op.call { callee := Callee.value (Operand.func 14), args := #[Operand.tmp 41, Operand.tmp 44], argTypes := #[34, 29] }, type := 35, pos := "law.go:66", after := _, guard := none }) rfl (fun K hK => ?_) ?_
        · rw [if_pos (by rfl)]
          go_simp
          refine (HF2.out _ _ _ hBW hQ).mono ?_
          rintro r wq ⟨v5, rfl, hv5, hb⟩
          have hbs := hb.size
          try simp only [World.size_alloc, World.size_setCell, World.size_drew, size_setRow] at hbs
          obtain ⟨pb, cb, lo5, hi5, rfl, hsb, hlo5, hhi5⟩ := own_ex hv5
          try simp only [World.size_alloc, World.size_setCell, World.size_drew, size_setRow] at hlo5
          go_wp2_with fail
          refine hK.out _ _ ⟨bk_, bk_, sl_, sl_, bk_, bl_, Nat.le_trans (sz_) hb.size⟩ (fun hH2 => ?_)
          clear hH
          have hH := hH2
          obtain ⟨hBW, hA, hQ, hsa, hM, hfar, hsz⟩ := hH2
          clear hK K
          try simp only [Act.put, List.setIfInBounds_toArray, List.set_cons_zero, List.set_cons_succ]
          refine wpAnyH_take (i := 5) (oi := { dst := some 40, op := Op.move (Operand.tmp 45), type := 35, pos := "law.go:66", after := _, guard := none }) (v := _) rfl (by kernel_rfl) (by kernel_rfl) (by kernel_rfl) (fun _ _ _ h => h) (.inl ⟨by rfl, fun w hS => by (go_simp; try rfl)⟩) hH ?_
          try simp only [Act.put, List.setIfInBounds_toArray, List.set_cons_zero, List.set_cons_succ]
          refine wpAnyH_take (i := 6) (oi := { dst := some 46, op := Op.extract (Operand.tmp 40) 0, type := 31, pos := "law.go:66", after := _, guard := none }) (v := _) rfl (by kernel_rfl) (by kernel_rfl) (by kernel_rfl) (fun _ _ _ h => h) (.inl ⟨by rfl, fun w hS => by (go_simp; try rfl)⟩) hH ?_
          try simp only [Act.put, List.setIfInBounds_toArray, List.set_cons_zero, List.set_cons_succ]
          refine wpAnyH_take (i := 7) (oi := { dst := some 47, op := Op.extract (Operand.tmp 40) 1, type := 34, pos := "law.go:66", after := _, guard := none }) (v := _) rfl (by kernel_rfl) (by kernel_rfl) (by kernel_rfl) (fun _ _ _ h => h) (.inl ⟨by rfl, fun w hS => by (go_simp; try rfl)⟩) hH ?_
          try simp only [Act.put, List.setIfInBounds_toArray, List.set_cons_zero, List.set_cons_succ]
          refine wpAnyH_ready (rs := [8]) (by kernel_rfl) (by simp) ?_
          refine AllReadyH.cons (o := { dst := some 12, op := Op.alloc 34, type := 0, pos := "law.go:66", after := _, guard := none }) rfl (fun K hK => ?_) AllReadyH.nil
          rw [if_pos (by rfl)]
          go_simp
          refine hK.out _ _ ⟨bk_, bk_, sl_, sl_, bk_, bl_, sz_⟩ (fun hH2 => ?_)
          clear hH
          have hH := hH2
          obtain ⟨hBW, hA, hQ, hsa, hM, hfar, hsz⟩ := hH2
          clear hK K
          try simp only [Act.put, List.setIfInBounds_toArray, List.set_cons_zero, List.set_cons_succ]
          refine wpAnyH_take (i := 9) (oi := { dst := some 11, op := Op.assign (Operand.tmp 46), type := 31, pos := "law.go:66", after := _, guard := none }) (v := _) rfl (by kernel_rfl) (by kernel_rfl) (by kernel_rfl) (fun _ _ _ h => h) (.inl ⟨by rfl, fun w hS => by (go_simp; try rfl)⟩) hH ?_
          try simp only [Act.put, List.setIfInBounds_toArray, List.set_cons_zero, List.set_cons_succ]
          refine wpAnyH_ready (rs := [10]) (by kernel_rfl) (by simp) ?_
          refine AllReadyH.cons (o := { dst := none, op := Op.store 34 (Operand.tmp 12) (Operand.tmp 47), type := 0, pos := "law.go:66", after := _, guard := none }) rfl (fun K hK => ?_) AllReadyH.nil
          rw [if_pos (by rfl)]
          refine wp_st 34 rfl w_State rfl rfl bk_ zz_ zz_ one_ ?_
          refine hK.out _ _ ⟨bk_, bk_, sl_, sl_, bk_, bl_, sz_⟩ (fun hH2 => ?_)
          clear hH
          have hH := hH2
          obtain ⟨hBW, hA, hQ, hsa, hM, hfar, hsz⟩ := hH2
          clear hK K
          try simp only [Act.put]
          refine wpAnyH_done (by kernel_rfl) ?_ _
          go_wp2_with fail
          go_meet
          case rel => exact ⟨pb, cb, lo5, hi5, _, rfl, rfl, by exact bk_, by exact bk_, by exact sl_, by exact sl_, by exact sl_, by exact bk_, by exact bl_, by exact sz_⟩
        refine AllReadyH.cons (o := { dst := some 12, op := Op.alloc 34, type := 0, pos := "law.go:66", after := _, guard := none }) rfl (fun K hK => ?_) AllReadyH.nil
        rw [if_pos (by rfl)]
        go_simp
        refine hK.out _ _ ⟨bk_, bk_, sl_, sl_, bk_, bl_, sz_⟩ (fun hH2 => ?_)
        clear hH
        have hH := hH2
        obtain ⟨hBW, hA, hQ, hsa, hM, hfar, hsz⟩ := hH2
        clear hK K
        try simp only [Act.put, List.setIfInBounds_toArray, List.set_cons_zero, List.set_cons_succ]
        refine wpAnyH_ready (rs := [4]) (by kernel_rfl) (by simp) ?_
        refine AllReadyH.cons (o := { dst := some 45, op := Op.call { callee := Callee.value (Operand.func 14), args := #[Operand.tmp 41, Operand.tmp 44], argTypes := #[34, 29] }, type := 35, pos := "law.go:66", after := _, guard := none }) rfl (fun K hK => ?_) AllReadyH.nil
        rw [if_pos (by rfl)]
        go_simp
        refine (HF2.out _ _ _ hBW hQ).mono ?_
        rintro r wq ⟨v5, rfl, hv5, hb⟩
        have hbs := hb.size
        try simp only [World.size_alloc, World.size_setCell, World.size_drew, size_setRow] at hbs
        obtain ⟨pb, cb, lo5, hi5, rfl, hsb, hlo5, hhi5⟩ := own_ex hv5
        try simp only [World.size_alloc, World.size_setCell, World.size_drew, size_setRow] at hlo5
        go_wp2_with fail
        refine hK.out _ _ ⟨bk_, bk_, sl_, sl_, bk_, bl_, Nat.le_trans (sz_) hb.size⟩ (fun hH2 => ?_)
        clear hH
        have hH := hH2
        obtain ⟨hBW, hA, hQ, hsa, hM, hfar, hsz⟩ := hH2
        clear hK K
        try simp only [Act.put, List.setIfInBounds_toArray, List.set_cons_zero, List.set_cons_succ]
        refine wpAnyH_take (i := 5) (oi := { dst := some 40, op := Op.move (Operand.tmp 45), type := 35, pos := "law.go:66", after := _, guard := none }) (v := _) rfl (by kernel_rfl) (by kernel_rfl) (by kernel_rfl) (fun _ _ _ h => h) (.inl ⟨by rfl, fun w hS => by (go_simp; try rfl)⟩) hH ?_
        try simp only [Act.put, List.setIfInBounds_toArray, List.set_cons_zero, List.set_cons_succ]
        refine wpAnyH_take (i := 6) (oi := { dst := some 46, op := Op.extract (Operand.tmp 40) 0, type := 31, pos := "law.go:66", after := _, guard := none }) (v := _) rfl (by kernel_rfl) (by kernel_rfl) (by kernel_rfl) (fun _ _ _ h => h) (.inl ⟨by rfl, fun w hS => by (go_simp; try rfl)⟩) hH ?_
        try simp only [Act.put, List.setIfInBounds_toArray, List.set_cons_zero, List.set_cons_succ]
        refine wpAnyH_take (i := 7) (oi := { dst := some 47, op := Op.extract (Operand.tmp 40) 1, type := 34, pos := "law.go:66", after := _, guard := none }) (v := _) rfl (by kernel_rfl) (by kernel_rfl) (by kernel_rfl) (fun _ _ _ h => h) (.inl ⟨by rfl, fun w hS => by (go_simp; try rfl)⟩) hH ?_
        try simp only [Act.put, List.setIfInBounds_toArray, List.set_cons_zero, List.set_cons_succ]
        refine wpAnyH_take (i := 9) (oi := { dst := some 11, op := Op.assign (Operand.tmp 46), type := 31, pos := "law.go:66", after := _, guard := none }) (v := _) rfl (by kernel_rfl) (by kernel_rfl) (by kernel_rfl) (fun _ _ _ h => h) (.inl ⟨by rfl, fun w hS => by (go_simp; try rfl)⟩) hH ?_
        try simp only [Act.put, List.setIfInBounds_toArray, List.set_cons_zero, List.set_cons_succ]
        refine wpAnyH_ready (rs := [10]) (by kernel_rfl) (by simp) ?_
        refine AllReadyH.cons (o := { dst := none, op := Op.store 34 (Operand.tmp 12) (Operand.tmp 47), type := 0, pos := "law.go:66", after := _, guard := none }) rfl (fun K hK => ?_) AllReadyH.nil
        rw [if_pos (by rfl)]
        refine wp_st 34 rfl w_State rfl rfl bk_ zz_ zz_ one_ ?_
        refine hK.out _ _ ⟨bk_, bk_, sl_, sl_, bk_, bl_, sz_⟩ (fun hH2 => ?_)
        clear hH
        have hH := hH2
        obtain ⟨hBW, hA, hQ, hsa, hM, hfar, hsz⟩ := hH2
        clear hK K
        try simp only [Act.put]
        refine wpAnyH_done (by kernel_rfl) ?_ _
        go_wp2_with fail
        go_meet
        case rel => exact ⟨pb, cb, lo5, hi5, _, rfl, rfl, by exact bk_, by exact bk_, by exact sl_, by exact sl_, by exact sl_, by exact bk_, by exact bl_, by exact sz_⟩
      case rest =>
        clear hBW hA hQ hsa hM hfar hsz
        obtain ⟨pb, cb, lob, hib, g2, rfl, rfl, hBW, hA, hQ, hsa, hsb, hM, hfar, hsz⟩ := hcut
        have hhb := hsb.2.2.2.1
        have hg2 := hM.lt
        obtain ⟨N2, hN2⟩ : ∃ N, wc.heap.size = N := ⟨_, rfl⟩
        rw [hN2] at hhb hg2 hsz
        have hNN : N ≤ N2 := hsz
        replace hsz : N2 ≤ wc.heap.size := by omega
        go_wp2_with (first | (refine ld 25 rfl (by rfl) w_RState rfl bk_ lz_ ?_))
        refine (Of_any L LL.out _).mono ?_
        rintro e w5 ⟨rfl, hb5⟩
        replace hBW := hBW.newB hb5
        replace hA := hA.newB hb5
        replace hQ := hQ.newB hb5
        replace hsa := hsa.newB hb5
        replace hsb := hsb.newB hb5
        replace hM := hM.newB hb5
        replace hfar := hfar.trans (hb5.mono (by omega))
        replace hsz := Nat.le_trans hsz hb5.size
        go_wp2_with fail
        refine (HF3.out _ _ _ hBW hQ).mono ?_
        rintro r w6 ⟨v6, rfl, hv6, hb6⟩
        replace hBW := hBW.newB hb6
        replace hA := hA.newB hb6
        replace hQ := hQ.newB hb6
        replace hsa := hsa.newB hb6
        replace hsb := hsb.newB hb6
        replace hM := hM.newB hb6
        replace hfar := hfar.trans (hb6.mono (by omega))
        replace hsz := Nat.le_trans hsz hb6.size
        obtain ⟨pc, cc, loc, hic, rfl, hsc, hloc, hhic⟩ := own_ex hv6
        obtain ⟨N3, hN3⟩ : ∃ N, w6.heap.size = N := ⟨_, rfl⟩
        rw [hN3] at hhic
        have hNN2 : N2 ≤ N3 := by omega
        clear hv6 hloc hA hBW hQ
        go_upto_region 8 with (first | (refine st 43 rfl (by rfl) w_Entry rfl rfl bk_ zz_ zz_ one_ ?_) | (refine ld 43 rfl (by rfl) w_Entry rfl bk_ zz_ ?_) | (refine bd 34 rfl (by rfl) rfl state_zs ?_) | (refine bd 32 rfl (by rfl) rfl block_zs ?_) | (refine ld 34 rfl (by rfl) w_State rfl bk_ lz_ ?_) | (refine ld 32 rfl (by rfl) w_Block rfl bk_ lz_ ?_) | (refine ldp 32 rfl (by rfl) w_Block rfl bk_ ln_ (by omega) ?_) | (refine ld 23 rfl (by rfl) w_Four rfl bk_ lz_ ?_) | (refine ldp 23 rfl (by rfl) w_Four rfl bk_ ln_ (by omega) ?_) | (refine st 34 rfl (by rfl) w_State rfl rfl bk_ lz_ lz_ one_ ?_) | (refine st 32 rfl (by rfl) w_Block rfl rfl bk_ lz_ lz_ one_ ?_) | (refine st 23 rfl (by rfl) w_Four rfl rfl bk_ lz_ lz_ one_ ?_))
        refine wp_gen (fun W => Blk W (g2) (arrV M2) 34 ∧ SL W (loa) (hia) (16) (pa) (na) (ca) (A1.flatMap intsV) ∧ SL W (lob) (hib) (16) (pb) (nb) (cb) (A2.flatMap intsV) ∧ SL W (loc) (hic) (16) (pc) (na + nb) (cc) (A1.flatMap intsV ++ A2.flatMap intsV) ∧ Blk W (N3) (arrV M2) 34 ∧ Below (B) w W ∧ N3 + 1 ≤ W.heap.size) ⟨bk_, sl_, sl_, sl_, bk_, bl_, sz_⟩ ?_
        clear hM hsa hsb hsc hfar hsz
        rintro w7 ⟨hM, hsa, hsb, hsc, hM3, hfar, hsz⟩
        obtain ⟨i0, hi, hz0, hz1, hz2⟩ := info_parts info_Block
        obtain ⟨N4, hN4⟩ : ∃ N, w7.heap.size = N := ⟨_, rfl⟩
        have hN34 : N3 + 1 ≤ N4 := by omega
        have hown0 := World.ownsRow_lit (base := N4) (e := 32) (size := 16) w7 #[] 0 (by omega) (by unfold maxLen; omega) rfl
        rw [hN4] at hown0
        go_wp2_with (first | (refine ap 31 (s := .tmp 55) rfl (by rfl) rfl N4 32 i0 (.agg #[.int .i64 0, .int .i64 0, .int .i64 0, .int .i64 0, .int .i64 0, .int .i64 0, .int .i64 0, .int .i64 0, .int .i64 0, .int .i64 0, .int .i64 0, .int .i64 0, .int .i64 0, .int .i64 0, .int .i64 0, .int .i64 0]) 16 128 Tryd.underlying31 hi hz0 hz1 hz2 rfl (by omega) rfl hown0 rfl (hsa.alloc _) (flatB_one _) (by unfold maxLen; omega) (by omega) (by rw [World.size_alloc]; omega) ?_; intro v1 w8 hown1 hgr1 _; simp only [Nat.zero_add, List.nil_append] at hown1; change (w7.alloc _).grownBy w8 (some N4) at hgr1; have hsb8 := (hsb.alloc _).grown hgr1 (fun j hj => by have := Option.some.inj hj; omega); have hsc8 := (hsc.alloc _).grown hgr1 (fun j hj => by have := Option.some.inj hj; omega); have hM8 := (hM.alloc _).kept hgr1 (fun e => by have := Option.some.inj e; omega); have hM38 := (hM3.alloc _).kept hgr1 (fun e => by have := Option.some.inj e; omega); have hf8 : Below B w w8 := (hfar.alloc (by omega) _).grown hgr1 (by rw [World.size_alloc]; omega) (fun j hj => by have := Option.some.inj hj; omega); have hs8 := hgr1.size; rw [World.size_alloc, hN4] at hs8; have hv1 := Lib.hid (fun j hj => (World.ownsRow.lt hown1 j hj).1); clear hgr1) | (refine ap 31 (s := .tmp 57) rfl (by rfl) rfl N4 32 i0 (.agg #[.int .i64 0, .int .i64 0, .int .i64 0, .int .i64 0, .int .i64 0, .int .i64 0, .int .i64 0, .int .i64 0, .int .i64 0, .int .i64 0, .int .i64 0, .int .i64 0, .int .i64 0, .int .i64 0, .int .i64 0, .int .i64 0]) 16 128 Tryd.underlying31 hi hz0 hz1 hz2 rfl (by omega) rfl hown1 rfl hsb8 (flatB_one _) (by unfold maxLen; omega) (by omega) (by omega) ?_; intro v2 w9 hown2 hgr2 _; obtain ⟨pz, cz, loz, hiz, rfl, hsz9, -, hhz⟩ := own_ex hown2; have hsc9 := hsc8.grown hgr2 (fun j hj => by have := hv1.out j hj; omega); have hM9 := hM8.kept hgr2 (fun e => by have := hv1.out _ e.symm; omega); have hM39 := hM38.kept hgr2 (fun e => by have := hv1.out _ e.symm; omega); have hf9 : Below B w w9 := hf8.grown hgr2 (by omega) (fun j hj => by have := hv1.out j hj; omega); have hs9 := hgr2.size; clear hgr2))
        refine (HSM.out _ _ _ _ _ _ _ _ _ hsz9 hsc9).mono ?_
        rintro r w10 ⟨rfl, hb10⟩
        have hM10 := hM9.newB hb10
        have hM310 := hM39.newB hb10
        have hf10 : Below B w w10 := hf9.trans (hb10.mono (by omega))
        go_wp2_with (first | (refine eqw 34 rfl (by rfl) rfl rfl eg_State (eq_state_self LM2) ?_) | (first | (refine st 43 rfl (by rfl) w_Entry rfl rfl bk_ zz_ zz_ one_ ?_) | (refine ld 43 rfl (by rfl) w_Entry rfl bk_ zz_ ?_) | (refine bd 34 rfl (by rfl) rfl state_zs ?_) | (refine bd 32 rfl (by rfl) rfl block_zs ?_) | (refine ld 34 rfl (by rfl) w_State rfl bk_ lz_ ?_) | (refine ld 32 rfl (by rfl) w_Block rfl bk_ lz_ ?_) | (refine ldp 32 rfl (by rfl) w_Block rfl bk_ ln_ (by omega) ?_) | (refine ld 23 rfl (by rfl) w_Four rfl bk_ lz_ ?_) | (refine ldp 23 rfl (by rfl) w_Four rfl bk_ ln_ (by omega) ?_) | (refine st 34 rfl (by rfl) w_State rfl rfl bk_ lz_ lz_ one_ ?_) | (refine st 32 rfl (by rfl) w_Block rfl rfl bk_ lz_ lz_ one_ ?_) | (refine st 23 rfl (by rfl) w_Four rfl rfl bk_ lz_ lz_ one_ ?_)))
        go_ret
        exact ⟨rfl, by rw [hB]; exact hf10⟩
end Go.Proofs.YtbpdocdomjafbaaDoor
