/- The walk of spoollaw21.SpecPlays: whatever comes in, it returns true. -/
import Derived.Test.YtmfihaaiddolmaaGreatDoorRef21b
set_option linter.unusedSimpArgs false
set_option linter.unusedVariables false
namespace Go.Proofs.YtmfihaaiddolmaaGreatDoor
open Go.RowKit

theorem step_bad {L : List Int} (h : rightS L = false) (e : Ent) : stepO L e = [] ∧ stepS L e = L := by
  unfold stepO stepS; rw [h, Bool.and_false]; exact ⟨rfl, rfl⟩
theorem fold_bad {L : List Int} (h : rightS L = false) (l : List Ent) : foldO L l = [] ∧ foldS L l = L := by
  induction l with
  | nil => exact ⟨rfl, rfl⟩
  | cons e r ih =>
    obtain ⟨a, b⟩ := step_bad h e
    exact ⟨by rw [foldO, a, b, ih.1]; rfl, by rw [foldS_cons, b, ih.2]⟩
set_option maxRecDepth 100000 in
set_option maxHeartbeats 16000000 in
theorem SpecPlays_any (L : List Int) (hL : L.length = 38) (l : List Ent) (p : Option Addr) (cap : Nat) (w : World) (hW : BandsW w) (hE : EntIn w p cap l) :
    Calls Tryz.prog 4 #[.agg (arrV L), .slice p l.length cap] w fun r w' => r = .returned (.bool true) ∧ Below w.heap.size w w' := by
  have hBW : Blk w 0 bandC 132 := hW
  have hB0 := hW.lt
  have LL := Len.mk hL
  have hc1 := hE.1
  have hc2 := hE.2.1
  have hfew := few_any l p cap
  have hRR := fun w => RRight_any L hL w
  have hOfL := fun w => Of_any L hL w
  have hRT := fun h w => RTruths_any l h p cap w
  have hRF := fun hr h w => RFold_any L hL hr l h p cap w
  have hfb := fun (h : rightS L = false) => fold_bad h l
  have hAl := foldO_len L l
  have hAle := foldO_le L l
  have hMl := foldS_len hL l
  have hcnt := fun (h : rightS L = true) => foldO_count hL h l
  obtain ⟨n, hn⟩ : ∃ n, l.length = n := ⟨_, rfl⟩
  have HN := Lib.hid hn
  have hOf := fun h w => Of21_any l h p cap w
  have hF := fun h w lo hi p2 c2 (hW : BandsW w) (hs : SL w lo hi 3 p2 n c2 (flE l)) => toBN (Fold_all LL hn h hW hs)
  have hTr := fun h w lo hi p2 c2 (hW : BandsW w) (hs : SL w lo hi 3 p2 n c2 (flE l)) => Truths_any hn h hW hs
  have hSd := fun h w lo hi p2 c2 (hs : SL w lo hi 3 p2 n c2 (flE l)) => Sounds_any (w := w) hn h hs
  rw [hn] at hc1 hfew hOf hRT hRF hAle ⊢
  obtain ⟨A, hAe⟩ : ∃ A, foldO L l = A := ⟨_, rfl⟩
  obtain ⟨M, hMe⟩ : ∃ M, foldS L l = M := ⟨_, rfl⟩
  obtain ⟨rs, hrs⟩ : ∃ b, rightS L = b := ⟨_, rfl⟩
  simp only [hAe, hMe, hrs] at hRR hRF hfb hAl hAle hMl hcnt hF
  obtain ⟨na, hna⟩ : ∃ n, A.length = n := ⟨_, rfl⟩
  rw [hna] at hAle
  simp only [hna] at hF hcnt
  have LM := Len.mk hMl
  have HFEW := Lib.hid hfew
  have HOF := Lib.hid hOf
  have HRR := Lib.hid hRR
  have HOFL := Lib.hid hOfL
  have HRT := Lib.hid hRT
  have HRF := Lib.hid hRF
  have HFB := Lib.hid hfb
  have HAL := Lib.hid hAl
  have HCNT := Lib.hid hcnt
  have HF := Lib.hid hF
  have HTR := Lib.hid hTr
  have HSD := Lib.hid hSd
  have HNA := Lib.hid hna
  have HE := Lib.hid hE
  clear hE hn hW hL hfew hOf hRR hOfL hRT hRF hfb hAl hcnt hF hTr hSd hna hAe hMe hrs hMl
  obtain ⟨B, hB⟩ : ∃ B, w.heap.size = B := ⟨_, rfl⟩
  rw [hB] at hB0
  have hfar := Below.refl B w
  have hsz : B ≤ w.heap.size := by omega
  go_enter Tryz.func4, Tryz.ntmps4
  go_upto_region 1 with (fail)
  refine wp_gen (fun W => Blk W (0) (bandC) 132 ∧ Blk W (B) (arrV L) 25 ∧ Below (B) w W ∧ B + 1 ≤ W.heap.size) ⟨bk_, bk_, bl_, sz_⟩ ?_
  clear hBW hfar hsz
  rintro w1 ⟨hBW, hA, hfar, hsz⟩
  go_wp2_with fail
  refine (awake_any _ hBW).mono ?_
  rintro e w2 ⟨rfl, hb2⟩
  replace hBW := hBW.newB hb2
  replace hA := hA.newB hb2
  replace hfar := hfar.trans (hb2.mono (by omega))
  replace hsz := Nat.le_trans hsz hb2.size
  go_wp2_with fail
  refine (HFEW.out _ (HE.out.below hB.symm hfar)).mono ?_
  rintro r wf ⟨rfl, rfl⟩
  cases hf : fewE l with
  | false =>
    go_wp2_with fail
    refine (awake_any _ hBW).mono ?_
    rintro e w3 ⟨rfl, hb3⟩
    replace hBW := hBW.newB hb3
    replace hA := hA.newB hb3
    replace hfar := hfar.trans (hb3.mono (by omega))
    replace hsz := Nat.le_trans hsz hb3.size
    go_wp2_with fail
    go_ret
    exact ⟨rfl, (by (try rw [hB]); exact bl_)⟩
  | true =>
    have h25 : n ≤ 25 := by rw [← HN.out]; exact few_len hf
    clear hf
    go_wp2_with fail
    refine (HOF.out (by omega) _ (HE.out.below hB.symm hfar)).mono ?_
    rintro r w4 ⟨v4, rfl, hv4, hb4⟩
    replace hBW := hBW.newB hb4
    replace hA := hA.newB hb4
    replace hfar := hfar.trans (hb4.mono (by omega))
    replace hsz := Nat.le_trans hsz hb4.size
    obtain ⟨p2, c2, rfl, hQ⟩ := hv4.sl
    rw [HN.out] at hQ ⊢
    have hnc : n ≤ c2 := hQ.2.1
    have hcm := hQ.2.2.1
    unfold maxLen at hcm
    obtain ⟨q0, hq0⟩ : ∃ q, w2.heap.size = q := ⟨_, rfl⟩
    obtain ⟨q1, hq1⟩ : ∃ q, w4.heap.size = q := ⟨_, rfl⟩
    rw [hq0, hq1] at hQ
    have hq1B : B + 1 ≤ q1 := by omega
    have hsz' : q1 ≤ w4.heap.size := by omega
    have hz4 := hsz'
    clear hv4 hq0 hq1 hsz
    have hsz := hsz'
    clear hsz'
    go_wp2_with (refine ld 25 rfl (by rfl) w_RState rfl hA LL.sz ?_)
    refine (HOFL.out _).mono ?_
    rintro e w5 ⟨rfl, hb5⟩
    replace hBW := hBW.newB hb5
    replace hA := hA.newB hb5
    replace hQ := hQ.newB hb5
    replace hfar := hfar.trans (hb5.mono (by omega))
    replace hsz := Nat.le_trans hsz hb5.size
    go_wp2_with fail
    refine (HF.out (by omega) _ _ _ _ _ hBW hQ).mono ?_
    rintro r w6 ⟨v6, rfl, hv6, hb6⟩
    replace hBW := hBW.newB hb6
    replace hA := hA.newB hb6
    replace hQ := hQ.newB hb6
    replace hfar := hfar.trans (hb6.mono (by omega))
    replace hsz := Nat.le_trans hsz hb6.size
    obtain ⟨pa, ca, rfl, hSA⟩ := SL.own hv6
    obtain ⟨q2, hq2⟩ : ∃ q, w6.heap.size = q := ⟨_, rfl⟩
    have hq12 : q1 ≤ q2 := by omega
    have hsa1 : w5.heap.size ≤ q2 := by have := hb6.size; omega
    rw [hq2] at hSA
    have hSAw : SL w6 q1 q2 16 pa na ca (A.flatMap intsV) := hSA.wider (by have := hb5.size; clear hsz; omega) (Nat.le_refl _) (by omega)
    clear hSA hv6
    have hSA := hSAw
    clear hSAw
    have hca := hSA.2.2.1
    unfold maxLen at hca
    have hnca : na ≤ ca := hSA.2.1
    go_upto_region 5 with (refine st 35 rfl (by rfl) w_State rfl rfl bk_ lz_ lz_ one_ ?_)
    refine wp_gen (fun W => Blk W (0) (bandC) 132 ∧ Blk W (B) (arrV L) 25 ∧ SL W (q0) (q1) (3) (p2) (n) (c2) (flE l) ∧ SL W (q1) (q2) (16) (pa) (na) (ca) (A.flatMap intsV) ∧ Blk W (q2) (arrV M) 35 ∧ Below (B) w W ∧ q2 + 1 ≤ W.heap.size) ⟨bk_, bk_, sl_, sl_, bk_, bl_, sz_⟩ ?_
    clear hBW hA hQ hSA hfar hsz
    rintro w7 ⟨hBW, hA, hQ, hSA, hX, hfar, hsz⟩
    go_wp2_with fail
    refine (HTR.out (by omega) _ _ _ _ _ hBW hQ).mono ?_
    rintro e w8 ⟨rfl, hb8⟩
    replace hBW := hBW.newB hb8
    replace hA := hA.newB hb8
    replace hQ := hQ.newB hb8
    replace hSA := hSA.newB hb8
    replace hX := hX.newB hb8
    replace hfar := hfar.trans (hb8.mono (by omega))
    replace hsz := Nat.le_trans hsz hb8.size
    go_wp2_with fail
    refine (HRT.out (by omega) _ (HE.out.below hB.symm hfar)).mono ?_
    rintro e w9 ⟨rfl, hb9⟩
    replace hBW := hBW.newB hb9
    replace hA := hA.newB hb9
    replace hQ := hQ.newB hb9
    replace hSA := hSA.newB hb9
    replace hX := hX.newB hb9
    replace hfar := hfar.trans (hb9.mono (by omega))
    replace hsz := Nat.le_trans hsz hb9.size
    go_wp2_with (refine ld 25 rfl (by rfl) w_RState rfl hA LL.sz ?_)
    refine (HRR.out _).mono ?_
    rintro e w10 ⟨rfl, hb10⟩
    replace hBW := hBW.newB hb10
    replace hA := hA.newB hb10
    replace hQ := hQ.newB hb10
    replace hSA := hSA.newB hb10
    replace hX := hX.newB hb10
    replace hfar := hfar.trans (hb10.mono (by omega))
    replace hsz := Nat.le_trans hsz hb10.size
    have hz10 : q2 + 1 ≤ w10.heap.size := hsz
    cases rs with
    | false =>
      obtain ⟨hA0, hM0⟩ := HFB.out (by first | rfl | trivial)
      have hna0 : na = 0 := by rw [← HNA.out, hA0]; rfl
      clear hSA
      rw [hM0] at hX
      subst hna0
      go_upto_region 8 with (fail)
      refine wp_region_held_drew (S := fun W => Blk W (0) (bandC) 132 ∧ Blk W (B) (arrV L) 25 ∧ SL W (q0) (q1) (3) (p2) (n) (c2) (flE l) ∧ Blk W (q2) (arrV L) 35 ∧ Below (B) w W ∧ q2 + 1 ≤ W.heap.size) (by kernel_rfl) (⟨hBW.drew, hA.drew, hQ.drew, hX.drew, hfar.drew, hsz⟩) (fun hH => ?_)
      have hH2 := hH
      obtain ⟨hBW, hA, hQ, hX, hfar, hsz⟩ := hH2
      refine wpAnyH_take (i := 0) (oi := { dst := some 36, op := Op.move (Operand.tmp 6), type := 47, pos := "law.go:119", after := _, guard := none }) (v := _) rfl (by kernel_rfl) (by kernel_rfl) (by kernel_rfl) (fun _ _ _ h => h) (.inl ⟨by rfl, fun w hS => by (go_simp; try rfl)⟩) hH ?_
      try simp only [Act.put, List.setIfInBounds_toArray, List.set_cons_zero, List.set_cons_succ]
      refine wpAnyH_take (i := 1) (oi := { dst := some 37, op := Op.call { callee := Callee.builtin Builtin.len, args := #[Operand.tmp 36], argTypes := #[47] }, type := 3, pos := "law.go:119", after := _, guard := none }) (v := _) rfl (by kernel_rfl) (by kernel_rfl) (by kernel_rfl) (fun _ _ _ h => h) (.inl ⟨by rfl, fun w hS => by (go_simp; try rfl)⟩) hH ?_
      try simp only [Act.put, List.setIfInBounds_toArray, List.set_cons_zero, List.set_cons_succ]
      refine wpAnyH_take (i := 2) (oi := { dst := some 38, op := Op.binOp BinOp.eql 3 (Operand.tmp 37) (Operand.const (Value.int IntKind.i64 0)) 3, type := 4, pos := "law.go:119", after := _, guard := none }) (v := _) rfl (by kernel_rfl) (by kernel_rfl) (by kernel_rfl) (fun _ _ _ h => h) (.inl ⟨by rfl, fun w hS => by (go_simp; try rfl)⟩) hH ?_
      try simp only [Act.put, List.setIfInBounds_toArray, List.set_cons_zero, List.set_cons_succ]
      refine wpAnyH_take (i := 3) (oi := { dst := some 39, op := Op.move (Operand.tmp 38), type := 4, pos := "law.go:119", after := _, guard := none }) (v := _) rfl (by kernel_rfl) (by kernel_rfl) (by kernel_rfl) (fun _ _ _ h => h) (.inl ⟨by rfl, fun w hS => by (go_simp; try rfl)⟩) hH ?_
      try simp only [Act.put, List.setIfInBounds_toArray, List.set_cons_zero, List.set_cons_succ]
      refine wpAnyH_take (i := 4) (oi := { dst := some 40, op := Op.load 35 (Operand.tmp 7), type := 35, pos := "law.go:119", after := _, guard := some (3, true) }) (v := .agg (arrV L)) rfl (by kernel_rfl) (by kernel_rfl) (by kernel_rfl) (fun _ _ _ h => h) (yieldsIf_ld (by rfl) 35 rfl w_State rfl (fun _ hS => hS.2.2.2.1) zz_) hH ?_
      try simp only [Act.put, List.setIfInBounds_toArray, List.set_cons_zero, List.set_cons_succ]
      refine wpAnyH_take (i := 5) (oi := { dst := some 41, op := Op.load 25 (Operand.tmp 2), type := 25, pos := "law.go:119", after := _, guard := some (3, true) }) (v := .agg (arrV L)) rfl (by kernel_rfl) (by kernel_rfl) (by kernel_rfl) (fun _ _ _ h => h) (yieldsIf_ld (by rfl) 25 rfl w_RState rfl (fun _ hS => hS.2.1) zz_) hH ?_
      try simp only [Act.put, List.setIfInBounds_toArray, List.set_cons_zero, List.set_cons_succ]
      refine wpAnyH_ready (rs := [6]) (by kernel_rfl) (by simp) ?_
      refine AllReadyH.cons (o := { dst := some 42, op := Op.call { callee := Callee.value (Operand.func 11), args := #[Operand.tmp 41], argTypes := #[25] }, type := 35, pos := "law.go:119", after := _, guard := some (3, true) }) rfl (fun K hK => ?_) AllReadyH.nil
      rw [if_pos (by rfl)]
      go_simp
      refine (HOFL.out _).mono ?_
      rintro r wq ⟨rfl, hb⟩
      have hbs := hb.size
      try simp only [World.size_alloc, World.size_setCell, World.size_drew, size_setRow] at hbs
      go_wp2_with fail
      refine hK.out _ _ ⟨bk_, bk_, sl_, bk_, bl_, Nat.le_trans (sz_) hb.size⟩ (fun hH2 => ?_)
      clear hH
      have hH := hH2
      obtain ⟨hBW, hA, hQ, hX, hfar, hsz⟩ := hH2
      clear hK K
      try simp only [Act.put, List.setIfInBounds_toArray, List.set_cons_zero, List.set_cons_succ]
      refine wpAnyH_take (i := 7) (oi := { dst := some 43, op := Op.binOp BinOp.eql 35 (Operand.tmp 40) (Operand.tmp 42) 35, type := 4, pos := "law.go:119", after := _, guard := some (3, true) }) (v := .bool true) rfl (by kernel_rfl) (by kernel_rfl) (by kernel_rfl) (fun _ _ _ h => h) (yieldsIf_eql (by rfl) 35 rfl rfl rfl eg_State (eq_state_self LL)) hH ?_
      try simp only [Act.put, List.setIfInBounds_toArray, List.set_cons_zero, List.set_cons_succ]
      refine wpAnyH_take (i := 8) (oi := { dst := some 44, op := Op.pick (Operand.tmp 39) (Operand.tmp 43) (Operand.const (Value.bool false)), type := 4, pos := "law.go:119", after := _, guard := none }) (v := _) rfl (by kernel_rfl) (by kernel_rfl) (by kernel_rfl) (fun _ _ _ h => h) (.inl ⟨by rfl, fun w hS => by (go_simp; try rfl)⟩) hH ?_
      try simp only [Act.put, List.setIfInBounds_toArray, List.set_cons_zero, List.set_cons_succ]
      refine wpAnyH_take (i := 9) (oi := { dst := some 4, op := Op.assign (Operand.tmp 44), type := 4, pos := "law.go:119", after := _, guard := none }) (v := _) rfl (by kernel_rfl) (by kernel_rfl) (by kernel_rfl) (fun _ _ _ h => h) (.inl ⟨by rfl, fun w hS => by (go_simp; try rfl)⟩) hH ?_
      try simp only [Act.put, List.setIfInBounds_toArray, List.set_cons_zero, List.set_cons_succ]
      refine wpAnyH_done (by kernel_rfl) ?_ _
      go_wp2_with fail
      go_ret
      exact ⟨rfl, (by (try rw [hB]); exact bl_)⟩
    | true =>
      have hcnt := HCNT.out (by first | rfl | trivial)
      go_wp2_with (refine ld 25 rfl (by rfl) w_RState rfl hA LL.sz ?_)
      refine (HRF.out (by first | rfl | trivial) (by omega) _ (HE.out.below hB.symm hfar)).mono ?_
      rintro r w11 ⟨v11, rfl, hv11, hb11⟩
      replace hBW := hBW.newB hb11
      replace hA := hA.newB hb11
      replace hQ := hQ.newB hb11
      replace hSA := hSA.newB hb11
      replace hX := hX.newB hb11
      replace hfar := hfar.trans (hb11.mono (by omega))
      replace hsz := Nat.le_trans hsz hb11.size
      rw [HNA.out] at hv11
      obtain ⟨pb, cb, rfl, hSB⟩ := SL.own hv11
      obtain ⟨q3, hq3⟩ : ∃ q, w11.heap.size = q := ⟨_, rfl⟩
      have hq23 : q2 + 1 ≤ q3 := by omega
      rw [hq3] at hSB
      have hSBw : SL w11 (q2 + 1) q3 16 pb na cb (A.flatMap intsV) := hSB.wider hz10 (Nat.le_refl _) (by omega)
      clear hSB hv11
      have hSB := hSBw
      clear hSBw
      have hcb := hSB.2.2.1
      unfold maxLen at hcb
      have hncb : na ≤ cb := hSB.2.1
      go_upto_region 10 with (refine st 25 rfl (by rfl) w_RState rfl rfl bk_ lz_ lz_ one_ ?_)
      refine wp_gen (fun W => Blk W (0) (bandC) 132 ∧ Blk W (B) (arrV L) 25 ∧ SL W (q0) (q1) (3) (p2) (n) (c2) (flE l) ∧ SL W (q1) (q2) (16) (pa) (na) (ca) (A.flatMap intsV) ∧ Blk W (q2) (arrV M) 35 ∧ SL W (q2 + 1) (q3) (16) (pb) (na) (cb) (A.flatMap intsV) ∧ Blk W (q3) (arrV M) 25 ∧ Below (B) w W ∧ q3 + 1 ≤ W.heap.size) ⟨bk_, bk_, sl_, sl_, bk_, sl_, bk_, bl_, sz_⟩ ?_
      clear hBW hA hQ hSA hX hSB hfar hsz
      rintro w12 ⟨hBW, hA, hQ, hSA, hX, hSB, hY, hfar, hsz⟩
      obtain ⟨q4, hq4⟩ : ∃ q, w12.heap.size = q := ⟨_, rfl⟩
      have HQ4 := Lib.hid hq4
      have HHX := Lib.hid hX
      have HHY := Lib.hid hY
      have HSA := Lib.hid hSA
      have HSB := Lib.hid hSB
      have HQQ := Lib.hid hQ
      have hq34 : q3 + 1 ≤ q4 := by omega
      clear hBW hA hQ hX hY hSA hSB hq4
      go_wp2_with fail
      go_loopw [10] (fun i wr => ∃ k : Nat, k ≤ na ∧ i = .int .i64 k ∧ Below q4 w12 wr) (fun i _ => na - (intOf i).toNat)
      case atStart => exact ⟨0, by omega, rfl, Below.refl _ _⟩
      case round =>
        obtain ⟨k, hk, rfl, hbr⟩ := hrel
        by_cases hlt : k < na
        · have hlti : (k : Int) < (na : Int) := by omega
          have hkl : k < A.length := by rw [HNA.out]; exact hlt
          obtain ⟨b, he⟩ : ∃ b, A[k]? = some b := ⟨_, List.getElem?_eq_getElem hkl⟩
          have h1 : BS w12 q1 q2 pa ca A := by unfold BS; rw [HNA.out]; exact HSA.out
          have h2 : BS w12 (q2 + 1) q3 pb cb A := by unfold BS; rw [HNA.out]; exact HSB.out
          obtain ⟨g1, o1, rfl, -, g1lt, r1⟩ := h1.get HAL.out he
          obtain ⟨g2, o2, rfl, -, g2lt, r2⟩ := h2.get HAL.out he
          have t1 := range_below r1 hbr (by omega)
          have t2 := range_below r2 hbr (by omega)
          have hb := HAL.out b (List.mem_of_getElem? he)
          have ib : (Tryz.prog.info? 27).map (·.size) = some (intsV b).length := by rw [List.length_map, hb]; exact blockInfo
          have ib2 : (Tryz.prog.info? 22).map (·.size) = some (intsV b).length := by rw [List.length_map, hb]; exact sixInfo
          have HB := Lib.hid hb
          clear he hkl r1 r2 hb h1 h2
          go_upto_region 13 with (fail)
          refine wp_region_held_drew (S := fun W => W.rangeAt g1 (o1 + k * 16) (intsV b) ∧ W.rangeAt g2 (o2 + k * 16) (intsV b)) (by kernel_rfl) (⟨t1, t2⟩) (fun hH => ?_)
          refine wpAnyH_take (i := 0) (oi := { dst := some 57, op := Op.move (Operand.tmp 6), type := 47, pos := "law.go:123", after := _, guard := none }) (v := _) rfl (by kernel_rfl) (by kernel_rfl) (by kernel_rfl) (fun _ _ _ h => h) (.inl ⟨by rfl, fun w hS => by (go_simp; try rfl)⟩) hH ?_
          try simp only [Act.put, List.setIfInBounds_toArray, List.set_cons_zero, List.set_cons_succ]
          refine wpAnyH_take (i := 1) (oi := { dst := some 58, op := Op.call { callee := Callee.builtin Builtin.len, args := #[Operand.tmp 57], argTypes := #[47] }, type := 3, pos := "law.go:123", after := _, guard := none }) (v := _) rfl (by kernel_rfl) (by kernel_rfl) (by kernel_rfl) (fun _ _ _ h => h) (.inl ⟨by rfl, fun w hS => by (go_simp; try rfl)⟩) hH ?_
          try simp only [Act.put, List.setIfInBounds_toArray, List.set_cons_zero, List.set_cons_succ]
          refine wpAnyH_take (i := 2) (oi := { dst := some 59, op := Op.move (Operand.tmp 8), type := 52, pos := "law.go:123", after := _, guard := none }) (v := _) rfl (by kernel_rfl) (by kernel_rfl) (by kernel_rfl) (fun _ _ _ h => h) (.inl ⟨by rfl, fun w hS => by (go_simp; try rfl)⟩) hH ?_
          try simp only [Act.put, List.setIfInBounds_toArray, List.set_cons_zero, List.set_cons_succ]
          refine wpAnyH_take (i := 3) (oi := { dst := some 60, op := Op.call { callee := Callee.builtin Builtin.len, args := #[Operand.tmp 59], argTypes := #[52] }, type := 3, pos := "law.go:123", after := _, guard := none }) (v := _) rfl (by kernel_rfl) (by kernel_rfl) (by kernel_rfl) (fun _ _ _ h => h) (.inl ⟨by rfl, fun w hS => by (go_simp; try rfl)⟩) hH ?_
          try simp only [Act.put, List.setIfInBounds_toArray, List.set_cons_zero, List.set_cons_succ]
          refine wpAnyH_take (i := 4) (oi := { dst := some 61, op := Op.binOp BinOp.neq 3 (Operand.tmp 58) (Operand.tmp 60) 3, type := 4, pos := "law.go:123", after := _, guard := none }) (v := .bool false) rfl (by kernel_rfl) (by kernel_rfl) (by kernel_rfl) (fun _ _ _ h => h) (.inl ⟨by rfl, fun w hS => by go_simp⟩) hH ?_
          try simp only [Act.put, List.setIfInBounds_toArray, List.set_cons_zero, List.set_cons_succ]
          refine wpAnyH_take (i := 5) (oi := { dst := some 62, op := Op.move (Operand.tmp 61), type := 4, pos := "law.go:123", after := _, guard := none }) (v := _) rfl (by kernel_rfl) (by kernel_rfl) (by kernel_rfl) (fun _ _ _ h => h) (.inl ⟨by rfl, fun w hS => by (go_simp; try rfl)⟩) hH ?_
          try simp only [Act.put, List.setIfInBounds_toArray, List.set_cons_zero, List.set_cons_succ]
          refine wpAnyH_take (i := 6) (oi := { dst := some 63, op := Op.move (Operand.tmp 6), type := 47, pos := "law.go:123", after := _, guard := some (5, false) }) (v := _) rfl (by kernel_rfl) (by kernel_rfl) (by kernel_rfl) (fun _ _ _ h => h) (.inl ⟨by rfl, fun w hS => by (go_simp; try rfl)⟩) hH ?_
          try simp only [Act.put, List.setIfInBounds_toArray, List.set_cons_zero, List.set_cons_succ]
          refine wpAnyH_take (i := 7) (oi := { dst := some 64, op := Op.move (Operand.tmp 10), type := 3, pos := "law.go:123", after := _, guard := some (5, false) }) (v := _) rfl (by kernel_rfl) (by kernel_rfl) (by kernel_rfl) (fun _ _ _ h => h) (.inl ⟨by rfl, fun w hS => by (go_simp; try rfl)⟩) hH ?_
          try simp only [Act.put, List.setIfInBounds_toArray, List.set_cons_zero, List.set_cons_succ]
          refine wpAnyH_take (i := 8) (oi := { dst := some 65, op := Op.indexAddr 47 (Operand.tmp 63) (Operand.tmp 64), type := 0, pos := "law.go:123", after := _, guard := some (5, false) }) (v := _) rfl (by kernel_rfl) (by kernel_rfl) (by kernel_rfl) (fun _ _ _ h => h) (.inl ⟨by rfl, fun w hS => by (go_simp; try rfl)⟩) hH ?_
          try simp only [Act.put, List.setIfInBounds_toArray, List.set_cons_zero, List.set_cons_succ]
          refine wpAnyH_take (i := 9) (oi := { dst := some 66, op := Op.load 27 (Operand.tmp 65), type := 27, pos := "law.go:123", after := _, guard := some (5, false) }) (v := .agg (arrV b)) rfl (by kernel_rfl) (by kernel_rfl) (by kernel_rfl) (fun _ _ _ h => h) (yieldsIf_load_mid (by rfl) 27 _ rfl _ _ rfl (intsV b) _ (fun _ h => h.1) Tryz.underlying27 rfl ib) hH ?_
          try simp only [Act.put, List.setIfInBounds_toArray, List.set_cons_zero, List.set_cons_succ]
          refine wpAnyH_take (i := 10) (oi := { dst := some 67, op := Op.move (Operand.tmp 8), type := 52, pos := "law.go:123", after := _, guard := some (5, false) }) (v := _) rfl (by kernel_rfl) (by kernel_rfl) (by kernel_rfl) (fun _ _ _ h => h) (.inl ⟨by rfl, fun w hS => by (go_simp; try rfl)⟩) hH ?_
          try simp only [Act.put, List.setIfInBounds_toArray, List.set_cons_zero, List.set_cons_succ]
          refine wpAnyH_take (i := 11) (oi := { dst := some 68, op := Op.move (Operand.tmp 10), type := 3, pos := "law.go:123", after := _, guard := some (5, false) }) (v := _) rfl (by kernel_rfl) (by kernel_rfl) (by kernel_rfl) (fun _ _ _ h => h) (.inl ⟨by rfl, fun w hS => by (go_simp; try rfl)⟩) hH ?_
          try simp only [Act.put, List.setIfInBounds_toArray, List.set_cons_zero, List.set_cons_succ]
          refine wpAnyH_take (i := 12) (oi := { dst := some 69, op := Op.indexAddr 52 (Operand.tmp 67) (Operand.tmp 68), type := 0, pos := "law.go:123", after := _, guard := some (5, false) }) (v := _) rfl (by kernel_rfl) (by kernel_rfl) (by kernel_rfl) (fun _ _ _ h => h) (.inl ⟨by rfl, fun w hS => by (go_simp; try rfl)⟩) hH ?_
          try simp only [Act.put, List.setIfInBounds_toArray, List.set_cons_zero, List.set_cons_succ]
          refine wpAnyH_take (i := 13) (oi := { dst := some 70, op := Op.load 22 (Operand.tmp 69), type := 22, pos := "law.go:123", after := _, guard := some (5, false) }) (v := .agg (arrV b)) rfl (by kernel_rfl) (by kernel_rfl) (by kernel_rfl) (fun _ _ _ h => h) (yieldsIf_load_mid (by rfl) 22 _ rfl _ _ rfl (intsV b) _ (fun _ h => h.2) Tryz.underlying22 rfl ib2) hH ?_
          try simp only [Act.put, List.setIfInBounds_toArray, List.set_cons_zero, List.set_cons_succ]
          refine wpAnyH_take (i := 14) (oi := { dst := some 71, op := Op.binOp BinOp.neq 27 (Operand.tmp 66) (Operand.tmp 70) 27, type := 4, pos := "law.go:123", after := _, guard := some (5, false) }) (v := .bool false) rfl (by kernel_rfl) (by kernel_rfl) (by kernel_rfl) (fun _ _ _ h => h) (yieldsIf_neq (b := true) (by rfl) 27 rfl rfl rfl eg_Block (eq_block_self HB.out)) hH ?_
          try simp only [Act.put, List.setIfInBounds_toArray, List.set_cons_zero, List.set_cons_succ]
          refine wpAnyH_take (i := 15) (oi := { dst := some 72, op := Op.pick (Operand.tmp 62) (Operand.const (Value.bool true)) (Operand.tmp 71), type := 4, pos := "law.go:123", after := _, guard := none }) (v := _) rfl (by kernel_rfl) (by kernel_rfl) (by kernel_rfl) (fun _ _ _ h => h) (.inl ⟨by rfl, fun w hS => by (go_simp; try rfl)⟩) hH ?_
          try simp only [Act.put, List.setIfInBounds_toArray, List.set_cons_zero, List.set_cons_succ]
          refine wpAnyH_done (by kernel_rfl) ?_ _
          go_wp2_with fail
          go_roundw
          case rel => exact ⟨k + 1, by omega, by go_num, hbr.drew⟩
          case measure => simp [intOf]; omega
        · have hke : (k : Int) = (na : Int) := by omega
          simp only [hke]
          clear hke
          have hpl := fun w => Plain_any M LM.out w
          have HPL := Lib.hid hpl
          clear hpl
          have hX := HHX.out.below hbr (by omega)
          have hY := HHY.out.below hbr (by omega)
          have hQ := HQQ.out.below (hbr.mono (by omega))
          have hfarn : Below B w wr := hfar.trans (hbr.mono (by omega))
          have hszn : q4 ≤ wr.heap.size := by have := hbr.size; have := HQ4.out; omega
          clear hfar hsz
          have hfar := hfarn
          have hsz := hszn
          clear hfarn hszn
          go_upto_region 15 with (fail)
          refine wp_region_held_drew (S := fun W => Blk W (q2) (arrV M) 35 ∧ Blk W (q3) (arrV M) 25 ∧ SL W (q0) (q1) (3) (p2) (n) (c2) (flE l) ∧ Below (B) w W ∧ q4 ≤ W.heap.size) (by kernel_rfl) (⟨hX.drew, hY.drew, hQ.drew, hfar.drew, hsz⟩) (fun hH => ?_)
          have hH2 := hH
          obtain ⟨hX, hY, hQ, hfar, hsz⟩ := hH2
          refine wpAnyH_take (i := 0) (oi := { dst := some 73, op := Op.move (Operand.tmp 6), type := 47, pos := "law.go:127", after := _, guard := none }) (v := _) rfl (by kernel_rfl) (by kernel_rfl) (by kernel_rfl) (fun _ _ _ h => h) (.inl ⟨by rfl, fun w hS => by (go_simp; try rfl)⟩) hH ?_
          try simp only [Act.put, List.setIfInBounds_toArray, List.set_cons_zero, List.set_cons_succ]
          refine wpAnyH_take (i := 1) (oi := { dst := some 74, op := Op.call { callee := Callee.builtin Builtin.len, args := #[Operand.tmp 73], argTypes := #[47] }, type := 3, pos := "law.go:127", after := _, guard := none }) (v := _) rfl (by kernel_rfl) (by kernel_rfl) (by kernel_rfl) (fun _ _ _ h => h) (.inl ⟨by rfl, fun w hS => by (go_simp; try rfl)⟩) hH ?_
          try simp only [Act.put, List.setIfInBounds_toArray, List.set_cons_zero, List.set_cons_succ]
          refine wpAnyH_take (i := 2) (oi := { dst := some 75, op := Op.move (Operand.tmp 8), type := 52, pos := "law.go:127", after := _, guard := none }) (v := _) rfl (by kernel_rfl) (by kernel_rfl) (by kernel_rfl) (fun _ _ _ h => h) (.inl ⟨by rfl, fun w hS => by (go_simp; try rfl)⟩) hH ?_
          try simp only [Act.put, List.setIfInBounds_toArray, List.set_cons_zero, List.set_cons_succ]
          refine wpAnyH_take (i := 3) (oi := { dst := some 76, op := Op.call { callee := Callee.builtin Builtin.len, args := #[Operand.tmp 75], argTypes := #[52] }, type := 3, pos := "law.go:127", after := _, guard := none }) (v := _) rfl (by kernel_rfl) (by kernel_rfl) (by kernel_rfl) (fun _ _ _ h => h) (.inl ⟨by rfl, fun w hS => by (go_simp; try rfl)⟩) hH ?_
          try simp only [Act.put, List.setIfInBounds_toArray, List.set_cons_zero, List.set_cons_succ]
          refine wpAnyH_take (i := 4) (oi := { dst := some 77, op := Op.binOp BinOp.eql 3 (Operand.tmp 74) (Operand.tmp 76) 3, type := 4, pos := "law.go:127", after := _, guard := none }) (v := .bool true) rfl (by kernel_rfl) (by kernel_rfl) (by kernel_rfl) (fun _ _ _ h => h) (.inl ⟨by rfl, fun w hS => by go_simp⟩) hH ?_
          try simp only [Act.put, List.setIfInBounds_toArray, List.set_cons_zero, List.set_cons_succ]
          refine wpAnyH_take (i := 5) (oi := { dst := some 78, op := Op.move (Operand.tmp 77), type := 4, pos := "law.go:127", after := _, guard := none }) (v := _) rfl (by kernel_rfl) (by kernel_rfl) (by kernel_rfl) (fun _ _ _ h => h) (.inl ⟨by rfl, fun w hS => by (go_simp; try rfl)⟩) hH ?_
          try simp only [Act.put, List.setIfInBounds_toArray, List.set_cons_zero, List.set_cons_succ]
          refine wpAnyH_take (i := 6) (oi := { dst := some 79, op := Op.load 35 (Operand.tmp 7), type := 35, pos := "law.go:127", after := _, guard := some (5, true) }) (v := .agg (arrV M)) rfl (by kernel_rfl) (by kernel_rfl) (by kernel_rfl) (fun _ _ _ h => h) (yieldsIf_ld (by rfl) 35 rfl w_State rfl (fun _ hS => hS.1) zz_) hH ?_
          try simp only [Act.put, List.setIfInBounds_toArray, List.set_cons_zero, List.set_cons_succ]
          refine wpAnyH_take (i := 8) (oi := { dst := some 81, op := Op.load 25 (Operand.tmp 9), type := 25, pos := "law.go:127", after := _, guard := some (5, true) }) (v := .agg (arrV M)) rfl (by kernel_rfl) (by kernel_rfl) (by kernel_rfl) (fun _ _ _ h => h) (yieldsIf_ld (by rfl) 25 rfl w_RState rfl (fun _ hS => hS.2.1) zz_) hH ?_
          try simp only [Act.put, List.setIfInBounds_toArray, List.set_cons_zero, List.set_cons_succ]
          refine wpAnyH_ready (rs := [7]) (by kernel_rfl) (by simp) ?_
          refine AllReadyH.cons (o := { dst := some 80, op := Op.call { callee := Callee.value (Operand.func 13), args := #[Operand.tmp 79], argTypes := #[35] }, type := 25, pos := "law.go:127", after := _, guard := some (5, true) }) rfl (fun K hK => ?_) AllReadyH.nil
          rw [if_pos (by rfl)]
          go_simp
          refine (HPL.out _).mono ?_
          rintro r wq ⟨rfl, hb⟩
          have hbs := hb.size
          try simp only [World.size_alloc, World.size_setCell, World.size_drew, size_setRow] at hbs
          go_wp2_with fail
          refine hK.out _ _ ⟨bk_, bk_, sl_, bl_, Nat.le_trans (sz_) hb.size⟩ (fun hH2 => ?_)
          clear hH
          have hH := hH2
          obtain ⟨hX, hY, hQ, hfar, hsz⟩ := hH2
          clear hK K
          try simp only [Act.put, List.setIfInBounds_toArray, List.set_cons_zero, List.set_cons_succ]
          refine wpAnyH_take (i := 9) (oi := { dst := some 82, op := Op.binOp BinOp.eql 25 (Operand.tmp 80) (Operand.tmp 81) 25, type := 4, pos := "law.go:127", after := _, guard := some (5, true) }) (v := .bool true) rfl (by kernel_rfl) (by kernel_rfl) (by kernel_rfl) (fun _ _ _ h => h) (yieldsIf_eql (by rfl) 25 rfl rfl rfl eg_RState (eq_rstate_self LM)) hH ?_
          try simp only [Act.put, List.setIfInBounds_toArray, List.set_cons_zero, List.set_cons_succ]
          refine wpAnyH_take (i := 10) (oi := { dst := some 83, op := Op.pick (Operand.tmp 78) (Operand.tmp 82) (Operand.const (Value.bool false)), type := 4, pos := "law.go:127", after := _, guard := none }) (v := _) rfl (by kernel_rfl) (by kernel_rfl) (by kernel_rfl) (fun _ _ _ h => h) (.inl ⟨by rfl, fun w hS => by (go_simp; try rfl)⟩) hH ?_
          try simp only [Act.put, List.setIfInBounds_toArray, List.set_cons_zero, List.set_cons_succ]
          refine wpAnyH_take (i := 11) (oi := { dst := some 84, op := Op.move (Operand.tmp 83), type := 4, pos := "law.go:127", after := _, guard := none }) (v := _) rfl (by kernel_rfl) (by kernel_rfl) (by kernel_rfl) (fun _ _ _ h => h) (.inl ⟨by rfl, fun w hS => by (go_simp; try rfl)⟩) hH ?_
          try simp only [Act.put, List.setIfInBounds_toArray, List.set_cons_zero, List.set_cons_succ]
          refine wpAnyH_take (i := 12) (oi := { dst := some 85, op := Op.move (Operand.tmp 5), type := 45, pos := "law.go:127", after := _, guard := some (11, true) }) (v := _) rfl (by kernel_rfl) (by kernel_rfl) (by kernel_rfl) (fun _ _ _ h => h) (.inl ⟨by rfl, fun w hS => by (go_simp; try rfl)⟩) hH ?_
          try simp only [Act.put, List.setIfInBounds_toArray, List.set_cons_zero, List.set_cons_succ]
          refine wpAnyH_take (i := 14) (oi := { dst := some 87, op := Op.move (Operand.tmp 8), type := 52, pos := "law.go:127", after := _, guard := some (11, true) }) (v := _) rfl (by kernel_rfl) (by kernel_rfl) (by kernel_rfl) (fun _ _ _ h => h) (.inl ⟨by rfl, fun w hS => by (go_simp; try rfl)⟩) hH ?_
          try simp only [Act.put, List.setIfInBounds_toArray, List.set_cons_zero, List.set_cons_succ]
          refine wpAnyH_take (i := 15) (oi := { dst := some 88, op := Op.call { callee := Callee.builtin Builtin.len, args := #[Operand.tmp 87], argTypes := #[52] }, type := 3, pos := "law.go:127", after := _, guard := some (11, true) }) (v := _) rfl (by kernel_rfl) (by kernel_rfl) (by kernel_rfl) (fun _ _ _ h => h) (.inl ⟨by rfl, fun w hS => by (go_simp; try rfl)⟩) hH ?_
          try simp only [Act.put, List.setIfInBounds_toArray, List.set_cons_zero, List.set_cons_succ]
          refine wpAnyH_ready (rs := [13]) (by kernel_rfl) (by simp) ?_
          refine AllReadyH.cons (o := { dst := some 86, op := Op.call { callee := Callee.value (Operand.func 21), args := #[Operand.tmp 85], argTypes := #[45] }, type := 3, pos := "law.go:127", after := _, guard := some (11, true) }) rfl (fun K hK => ?_) AllReadyH.nil
          rw [if_pos (by rfl)]
          go_simp
          refine (HSD.out (by omega) _ _ _ _ _ hQ).mono ?_
          rintro r wq2 ⟨rfl, hb⟩
          have hbs := hb.size
          try simp only [World.size_alloc, World.size_setCell, World.size_drew, size_setRow] at hbs
          go_wp2_with fail
          refine hK.out _ _ ⟨bk_, bk_, sl_, bl_, Nat.le_trans (sz_) hb.size⟩ (fun hH2 => ?_)
          clear hH
          have hH := hH2
          obtain ⟨hX, hY, hQ, hfar, hsz⟩ := hH2
          clear hK K
          try simp only [Act.put, List.setIfInBounds_toArray, List.set_cons_zero, List.set_cons_succ]
          refine wpAnyH_take (i := 16) (oi := { dst := some 89, op := Op.binOp BinOp.eql 3 (Operand.tmp 86) (Operand.tmp 88) 3, type := 4, pos := "law.go:127", after := _, guard := some (11, true) }) (v := .bool true) rfl (by kernel_rfl) (by kernel_rfl) (by kernel_rfl) (fun _ _ _ h => h) (.inl ⟨by rfl, fun w hS => by (rw [← hcnt]; go_simp)⟩) hH ?_
          try simp only [Act.put, List.setIfInBounds_toArray, List.set_cons_zero, List.set_cons_succ]
          refine wpAnyH_take (i := 17) (oi := { dst := some 90, op := Op.pick (Operand.tmp 84) (Operand.tmp 89) (Operand.const (Value.bool false)), type := 4, pos := "law.go:127", after := _, guard := none }) (v := _) rfl (by kernel_rfl) (by kernel_rfl) (by kernel_rfl) (fun _ _ _ h => h) (.inl ⟨by rfl, fun w hS => by (go_simp; try rfl)⟩) hH ?_
          try simp only [Act.put, List.setIfInBounds_toArray, List.set_cons_zero, List.set_cons_succ]
          refine wpAnyH_take (i := 18) (oi := { dst := some 4, op := Op.assign (Operand.tmp 90), type := 4, pos := "law.go:127", after := _, guard := none }) (v := _) rfl (by kernel_rfl) (by kernel_rfl) (by kernel_rfl) (fun _ _ _ h => h) (.inl ⟨by rfl, fun w hS => by (go_simp; try rfl)⟩) hH ?_
          try simp only [Act.put, List.setIfInBounds_toArray, List.set_cons_zero, List.set_cons_succ]
          refine wpAnyH_done (by kernel_rfl) ?_ _
          go_wp2_with fail
          go_ret
          exact ⟨rfl, (by (try rw [hB]); exact bl_)⟩
end Go.Proofs.YtmfihaaiddolmaaGreatDoor
