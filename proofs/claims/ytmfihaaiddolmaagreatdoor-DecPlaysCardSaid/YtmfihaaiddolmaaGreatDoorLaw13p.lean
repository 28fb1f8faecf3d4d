/- The walk of spoollaw13.DecPlays: whatever the state and the packet, it returns true. -/
import Derived.Test.YtmfihaaiddolmaaGreatDoorRef13c
set_option linter.unusedSimpArgs false
set_option linter.unusedVariables false
namespace Go.Proofs.YtmfihaaiddolmaaGreatDoor
open Go.RowKit

theorem parts_cases (ls : List Int) (s : ByteArray) : (partsE ls s = 0 ∧ partsL ls s = levsS s ls ∧ partsW ls s = wavS s ls) ∨ (partsE ls s ≠ 0 ∧ partsL ls s = zs 4 ∧ partsW ls s = zs 16) := by
  by_cases h : partsE ls s = 0
  · exact .inl ⟨h, by unfold partsL; rw [if_pos h], by unfold partsW; rw [if_pos h]⟩
  · exact .inr ⟨h, by unfold partsL; rw [if_neg h]; rfl, by unfold partsW; rw [if_neg h]; rfl⟩
set_option maxRecDepth 100000 in
set_option maxHeartbeats 40000000 in
theorem DecPlays_any (L : List Int) (hL : L.length = 38) (s : ByteArray) (w : World) (hW : BandsW w) : Calls Tryz.prog 3 #[.agg (arrV L), .string s] w fun e w' => e = .returned (.bool true) ∧ Below w.heap.size w w' := by
  have LL := Len.mk hL
  have h4 := levL_len hL
  have hE : partsE (levL L) s = if 10 ≤ s.size ∧ s.size ≤ 32 then (if (levL L).all levP = true then 0 else 1) else 10 := rfl
  have hpa := fun w hW => Parts_any (levL L) h4 s w hW
  have hcs := parts_cases (levL L) s
  have hLO := levsS_ok s (levL L)
  have hWO := wavS_ok s (levL L)
  have hb1 := rstate_built1 (levL L) h4
  have hm := fun w => RRight_any (mkSt (levL L) (List.replicate 16 0) 0) (by simp [mkSt, h4]) w
  rw [right_levels _ h4] at hm
  have hRP := fun h1 h2 h3 w => RParts_any (levL L) (ok_of_levP h4 h1) s h2 h3 w
  have hRR := fun w => RRight_any L hL w
  have hOf := fun w => Of_any L hL w
  have hD := fun w hW => Decode_any L hL s w hW
  have hRD := fun h1 h2 h3 w => RDecode_any L hL h1 s h2 h3 w
  have hDE : decE L s = if 10 ≤ s.size ∧ s.size ≤ 32 then (if rightS L = true then 0 else 1) else 10 := rfl
  have hDg := fun h0 hr => dec_good L s h0 hr
  have hDl := dec_lens L s
  have hrl : rightS L = true → (levL L).all levP = true := right_levs
  obtain ⟨M, hM⟩ : ∃ M, mkSt (levL L) (List.replicate 16 0) 0 = M := ⟨_, rfl⟩
  obtain ⟨pl, hpl⟩ : ∃ M, partsL (levL L) s = M := ⟨_, rfl⟩
  obtain ⟨pw, hpw⟩ : ∃ M, partsW (levL L) s = M := ⟨_, rfl⟩
  obtain ⟨pe, hpe⟩ : ∃ M, partsE (levL L) s = M := ⟨_, rfl⟩
  obtain ⟨ls, hls⟩ : ∃ M, levsS s (levL L) = M := ⟨_, rfl⟩
  obtain ⟨wv, hwv⟩ : ∃ M, wavS s (levL L) = M := ⟨_, rfl⟩
  obtain ⟨O, hO⟩ : ∃ M, decO L s = M := ⟨_, rfl⟩
  obtain ⟨F, hF⟩ : ∃ M, decSt L s = M := ⟨_, rfl⟩
  obtain ⟨E, hEE⟩ : ∃ M, decE L s = M := ⟨_, rfl⟩
  obtain ⟨lp, hlp⟩ : ∃ b, (levL L).all levP = b := ⟨_, rfl⟩
  obtain ⟨rs, hrs⟩ : ∃ b, rightS L = b := ⟨_, rfl⟩
  rw [hpl, hpw, hpe, hls, hwv] at hcs
  rw [hpe, hlp] at hE
  rw [hEE, hrs] at hDE
  rw [hls] at hLO
  rw [hwv] at hWO
  rw [hM] at hb1
  simp only [hpl, hpw, hpe, hls, hwv, hM, hO, hF, hEE, hlp, hrs] at hpa hm hRP hRR hD hRD hDg hrl
  rw [hO, hF] at hDl
  have LO := Len.mk hDl.1
  have LF := Len.mk hDl.2
  have LLS := Len.mk hLO.1
  have LWV := Len.mk hWO.1
  have HPA := Lib.hid hpa
  have HM := Lib.hid hm
  have HRP := Lib.hid hRP
  have HRR := Lib.hid hRR
  have HOF := Lib.hid hOf
  have HD := Lib.hid hD
  have HRD := Lib.hid hRD
  have HDG := Lib.hid hDg
  have HE := Lib.hid hE
  have HDE := Lib.hid hDE
  have HCS := Lib.hid hcs
  have HRL := Lib.hid hrl
  have HB1 := Lib.hid hb1
  clear hDl hpa hm hRP hRR hOf hD hRD hDg hE hDE hcs hrl hb1 hM hpl hpw hpe hls hwv hO hF hEE hlp hrs hLO hWO h4 hL
  obtain ⟨B, hB⟩ : ∃ B, w.heap.size = B := ⟨_, rfl⟩
  have hfar := Below.refl B w
  have hsz : B ≤ w.heap.size := by omega
  have hbl := hW.lt
  rw [hB] at hbl
  have LPL : Len pl 4 := by rcases HCS.out with ⟨_, h, _⟩ | ⟨_, h, _⟩ <;> rw [h]; exact LLS; exact Len.zs 4
  have LPW : Len pw 16 := by rcases HCS.out with ⟨_, _, h⟩ | ⟨_, _, h⟩ <;> rw [h]; exact LWV; exact Len.zs 16
  have hawk := fun w hW => awake13_any w hW
  have HAWK := Lib.hid hawk
  clear hawk
  go_enter Tryz.func3, Tryz.ntmps3
  go_upto_region 1 with (fail)
  refine wp_gen (fun W => Blk W (B) (arrV L) 25 ∧ Below (B) w W ∧ B + 1 ≤ W.heap.size) ⟨bk_, bl_, sz_⟩ ?_
  clear hfar hsz
  rintro w1 ⟨hA, hfar, hsz⟩
  have hW1 : BandsW w1 := Blk.below hW hfar hbl
  by_cases hlong : (200 : Int) < s.size
  · go_wp2_with fail
    refine (HAWK.out _ hW1).mono ?_
    rintro e w2 ⟨rfl, hb2⟩
    replace hA := hA.newB hb2
    replace hfar := hfar.trans (hb2.mono (by omega))
    replace hsz := Nat.le_trans hsz hb2.size
    have hW2 : BandsW w2 := Blk.newB hW1 hb2
    go_wp2_with fail
    refine (HAWK.out _ hW2).mono ?_
    rintro e w3 ⟨rfl, hb3⟩
    replace hA := hA.newB hb3
    replace hfar := hfar.trans (hb3.mono (by omega))
    replace hsz := Nat.le_trans hsz hb3.size
    go_wp2_with fail
    go_ret
    exact ⟨rfl, (by (try rw [hB]); exact bl_)⟩
  go_wp2_with fail
  refine (HAWK.out _ hW1).mono ?_
  rintro e w2 ⟨rfl, hb2⟩
  replace hA := hA.newB hb2
  replace hfar := hfar.trans (hb2.mono (by omega))
  replace hsz := Nat.le_trans hsz hb2.size
  have hW2 : BandsW w2 := Blk.newB hW1 hb2
  go_wp2_with (refine ldp 23 rfl (by rfl) w_Four rfl hA LL (by omega) ?_)
  refine (HPA.out _ hW2).mono ?_
  rintro e w3 ⟨rfl, hb3⟩
  replace hA := hA.newB hb3
  replace hfar := hfar.trans (hb3.mono (by omega))
  replace hsz := Nat.le_trans hsz hb3.size
  obtain ⟨g, hs_g⟩ : ∃ g, w3.heap.size = g := ⟨_, rfl⟩
  have hk_g : B + 1 ≤ g := by omega
  have hW3 : BandsW w3 := Blk.newB hW2 hb3
  go_upto_region 4 with (first | (refine st 23 rfl (by rfl) w_Four rfl rfl bk_ lz_ lz_ one_ ?_) | (refine st 27 rfl (by rfl) w_Block rfl rfl bk_ lz_ lz_ one_ ?_))
  refine wp_gen (fun W => Blk W (B) (arrV L) 25 ∧ Blk W (g) (arrV pl) 23 ∧ Blk W (g + 1) (arrV pw) 27 ∧ Below (B) w W ∧ g + 2 ≤ W.heap.size) ⟨bk_, bk_, bk_, bl_, sz_⟩ ?_
  clear hA hfar hsz
  rintro w4 ⟨hA, hP, hQ, hfar, hsz⟩
  have hW4 : BandsW w4 := Blk.below hW hfar hbl
  by_cases hsize : 10 ≤ s.size ∧ s.size ≤ 32
  case neg =>
    have hpe : pe = 10 := by rw [HE.out, if_neg hsize]
    subst hpe
    obtain ⟨rfl, rfl⟩ : pl = zs 4 ∧ pw = zs 16 := by rcases HCS.out with ⟨h, _, _⟩ | ⟨_, h1, h2⟩; exact absurd h (by decide); exact ⟨h1, h2⟩
    have hz4 : Tryz.prog.built 23 [] = some (arrV (zs 4)) := by kernel_rfl
    by_cases hl : (s.size : Int) < 10
    · clear hsize
      go_wp2_with (first | (refine ld 23 rfl (by rfl) w_Four rfl hP LPL.sz ?_) | (refine ld 27 rfl (by rfl) w_Block rfl hQ LPW.sz ?_) | (refine bd 23 rfl (by rfl) rfl hz4 ?_) | (refine bd 27 rfl (by rfl) rfl block_zs ?_) | (refine eqw 23 rfl (by rfl) rfl rfl eg_Four (eq_four_self LPL) ?_) | (refine eqw 27 rfl (by rfl) rfl rfl eg_Block (eq_block_self LPW.out) ?_))
      go_ret
      exact ⟨rfl, (by (try rw [hB]); exact bl_)⟩
    · have hl2 : (32 : Int) < s.size := by omega
      clear hsize
      go_wp2_with (first | (refine ld 23 rfl (by rfl) w_Four rfl hP LPL.sz ?_) | (refine ld 27 rfl (by rfl) w_Block rfl hQ LPW.sz ?_) | (refine bd 23 rfl (by rfl) rfl hz4 ?_) | (refine bd 27 rfl (by rfl) rfl block_zs ?_) | (refine eqw 23 rfl (by rfl) rfl rfl eg_Four (eq_four_self LPL) ?_) | (refine eqw 27 rfl (by rfl) rfl rfl eg_Block (eq_block_self LPW.out) ?_))
      go_ret
      exact ⟨rfl, (by (try rw [hB]); exact bl_)⟩
  case pos =>
    have h10 : ¬ (s.size : Int) < 10 := by omega
    have h32 : ¬ (32 : Int) < s.size := by omega
    go_wp2_with (first | (refine ldp 23 rfl (by rfl) w_Four rfl hA LL (by omega) ?_) | (refine bd 25 rfl (by rfl) rfl HB1.out ?_))
    refine (HM.out _).mono ?_
    rintro e w5 ⟨rfl, hb5⟩
    replace hA := hA.newB hb5
    replace hP := hP.newB hb5
    replace hQ := hQ.newB hb5
    replace hfar := hfar.trans (hb5.mono (by omega))
    replace hsz := Nat.le_trans hsz hb5.size
    cases lp with
    | false =>
      have hpe : pe = 1 := by rw [HE.out, if_pos hsize]; rfl
      subst hpe
      obtain ⟨rfl, rfl⟩ : pl = zs 4 ∧ pw = zs 16 := by rcases HCS.out with ⟨h, _, _⟩ | ⟨_, h1, h2⟩; exact absurd h (by decide); exact ⟨h1, h2⟩
      have hz4 : Tryz.prog.built 23 [] = some (arrV (zs 4)) := by kernel_rfl
      go_wp2_with (first | (refine ld 23 rfl (by rfl) w_Four rfl hP LPL.sz ?_) | (refine ld 27 rfl (by rfl) w_Block rfl hQ LPW.sz ?_) | (refine bd 23 rfl (by rfl) rfl hz4 ?_) | (refine bd 27 rfl (by rfl) rfl block_zs ?_) | (refine eqw 23 rfl (by rfl) rfl rfl eg_Four (eq_four_self LPL) ?_) | (refine eqw 27 rfl (by rfl) rfl rfl eg_Block (eq_block_self LPW.out) ?_))
      go_ret
      exact ⟨rfl, (by (try rw [hB]); exact bl_)⟩
    | true =>
      have hpe : pe = 0 := by rw [HE.out, if_pos hsize]; rfl
      subst hpe
      obtain ⟨rfl, rfl⟩ : pl = ls ∧ pw = wv := by rcases HCS.out with ⟨_, h1, h2⟩ | ⟨h, _, _⟩; exact ⟨h1, h2⟩; exact absurd rfl h
      go_wp2_with (first | (refine ldp 23 rfl (by rfl) w_Four rfl hA LL (by omega) ?_))
      refine (HRP.out (by first | rfl | trivial) hsize.1 hsize.2 _).mono ?_
      rintro e w6 ⟨rfl, hb6⟩
      replace hA := hA.newB hb6
      replace hP := hP.newB hb6
      replace hQ := hQ.newB hb6
      replace hfar := hfar.trans (hb6.mono (by omega))
      replace hsz := Nat.le_trans hsz hb6.size
      obtain ⟨g2, hs_g2⟩ : ∃ g, w6.heap.size = g := ⟨_, rfl⟩
      have hk_g2 : g + 2 ≤ g2 := by omega
      go_upto_region 9 with (first | (refine st 23 rfl (by rfl) w_Four rfl rfl bk_ lz_ lz_ one_ ?_) | (refine st 22 rfl (by rfl) w_Sixteen rfl rfl bk_ lz_ lz_ one_ ?_))
      refine wp_gen (fun W => Blk W (B) (arrV L) 25 ∧ Blk W (g) (arrV pl) 23 ∧ Blk W (g + 1) (arrV pw) 27 ∧ Blk W (g2) (arrV pl) 23 ∧ Blk W (g2 + 1) (arrV pw) 22 ∧ Below (B) w W ∧ g2 + 2 ≤ W.heap.size) ⟨bk_, bk_, bk_, bk_, bk_, bl_, sz_⟩ ?_
      clear hA hP hQ hfar hsz
      rintro w7 ⟨hA, hP, hQ, hP2, hQ2, hfar, hsz⟩
      have hW7 : BandsW w7 := Blk.below hW hfar hbl
      go_upto_region 11 with (first | (refine ld 23 rfl (by rfl) w_Four rfl hP LPL.sz ?_) | (refine ld 23 rfl (by rfl) w_Four rfl hP2 LPL.sz ?_) | (refine ld 27 rfl (by rfl) w_Block rfl hQ LPW.sz ?_) | (refine ld 22 rfl (by rfl) w_Sixteen rfl hQ2 LPW.sz ?_) | (refine neqw 23 rfl (by rfl) rfl rfl eg_Four (eq_four_self LPL) ?_) | (refine neqw 27 rfl (by rfl) rfl rfl eg_Block (eq_block_self LPW.out) ?_))
      go_wp2_with (first | (refine ld 25 rfl (by rfl) w_RState rfl hA LL.sz ?_))
      refine (HOF.out _).mono ?_
      rintro e w8 ⟨rfl, hb8⟩
      replace hA := hA.newB hb8
      replace hP := hP.newB hb8
      replace hQ := hQ.newB hb8
      replace hP2 := hP2.newB hb8
      replace hQ2 := hQ2.newB hb8
      replace hfar := hfar.trans (hb8.mono (by omega))
      replace hsz := Nat.le_trans hsz hb8.size
      have hW8 : BandsW w8 := Blk.newB hW7 hb8
      go_wp2_with fail
      refine (HD.out _ hW8).mono ?_
      rintro e w9 ⟨rfl, hb9⟩
      replace hA := hA.newB hb9
      replace hP := hP.newB hb9
      replace hQ := hQ.newB hb9
      replace hP2 := hP2.newB hb9
      replace hQ2 := hQ2.newB hb9
      replace hfar := hfar.trans (hb9.mono (by omega))
      replace hsz := Nat.le_trans hsz hb9.size
      obtain ⟨g3, hs_g3⟩ : ∃ g, w9.heap.size = g := ⟨_, rfl⟩
      have hk_g3 : g2 + 2 ≤ g3 := by omega
      go_upto_region 12 with (first | (refine st 35 rfl (by rfl) w_State rfl rfl bk_ lz_ lz_ one_ ?_) | (refine st 27 rfl (by rfl) w_Block rfl rfl bk_ lz_ lz_ one_ ?_))
      refine wp_gen (fun W => Blk W (B) (arrV L) 25 ∧ Blk W (g) (arrV pl) 23 ∧ Blk W (g + 1) (arrV pw) 27 ∧ Blk W (g2) (arrV pl) 23 ∧ Blk W (g2 + 1) (arrV pw) 22 ∧ Blk W (g3) (arrV O) 27 ∧ Blk W (g3 + 1) (arrV F) 35 ∧ Below (B) w W ∧ g3 + 2 ≤ W.heap.size) ⟨bk_, bk_, bk_, bk_, bk_, bk_, bk_, bl_, sz_⟩ ?_
      clear hA hP hQ hP2 hQ2 hfar hsz
      rintro w10 ⟨hA, hP, hQ, hP2, hQ2, hO, hF, hfar, hsz⟩
      go_wp2_with (first | (refine ld 25 rfl (by rfl) w_RState rfl hA LL.sz ?_))
      refine (HRR.out _).mono ?_
      rintro e w11 ⟨rfl, hb11⟩
      replace hA := hA.newB hb11
      replace hP := hP.newB hb11
      replace hQ := hQ.newB hb11
      replace hP2 := hP2.newB hb11
      replace hQ2 := hQ2.newB hb11
      replace hO := hO.newB hb11
      replace hF := hF.newB hb11
      replace hfar := hfar.trans (hb11.mono (by omega))
      replace hsz := Nat.le_trans hsz hb11.size
      cases rs with
      | false =>
        have hE1 : E = 1 := by rw [HDE.out, if_pos hsize]; rfl
        subst hE1
        go_wp2_with fail
        go_ret
        exact ⟨rfl, (by (try rw [hB]); exact bl_)⟩
      | true =>
        have hE0 : E = 0 := by rw [HDE.out, if_pos hsize]; rfl
        subst hE0
        go_wp2_with (first | (refine ld 25 rfl (by rfl) w_RState rfl hA LL.sz ?_))
        refine (HRD.out (by first | rfl | trivial) hsize.1 hsize.2 _).mono ?_
        rintro e w12 ⟨rfl, hb12⟩
        replace hA := hA.newB hb12
        replace hP := hP.newB hb12
        replace hQ := hQ.newB hb12
        replace hP2 := hP2.newB hb12
        replace hQ2 := hQ2.newB hb12
        replace hO := hO.newB hb12
        replace hF := hF.newB hb12
        replace hfar := hfar.trans (hb12.mono (by omega))
        replace hsz := Nat.le_trans hsz hb12.size
        obtain ⟨g4, hs_g4⟩ : ∃ g, w12.heap.size = g := ⟨_, rfl⟩
        have hk_g4 : g3 + 2 ≤ g4 := by omega
        go_upto_region 15 with (first | (refine st 25 rfl (by rfl) w_RState rfl rfl bk_ lz_ lz_ one_ ?_) | (refine st 22 rfl (by rfl) w_Sixteen rfl rfl bk_ lz_ lz_ one_ ?_))
        refine wp_gen (fun W => Blk W (B) (arrV L) 25 ∧ Blk W (g) (arrV pl) 23 ∧ Blk W (g + 1) (arrV pw) 27 ∧ Blk W (g2) (arrV pl) 23 ∧ Blk W (g2 + 1) (arrV pw) 22 ∧ Blk W (g3) (arrV O) 27 ∧ Blk W (g3 + 1) (arrV F) 35 ∧ Blk W (g4) (arrV O) 22 ∧ Blk W (g4 + 1) (arrV F) 25 ∧ Below (B) w W ∧ g4 + 2 ≤ W.heap.size) ⟨bk_, bk_, bk_, bk_, bk_, bk_, bk_, bk_, bk_, bl_, sz_⟩ ?_
        clear hA hP hQ hP2 hQ2 hO hF hfar hsz
        rintro w13 ⟨hA, hP, hQ, hP2, hQ2, hO, hF, hO2, hF2, hfar, hsz⟩
        have hpl := fun w => Plain_any F LF.out w
        have HPL := Lib.hid hpl
        clear hpl
        refine wp_region_held_drew (S := fun W => Blk W (B) (arrV L) 25 ∧ Blk W (g) (arrV pl) 23 ∧ Blk W (g + 1) (arrV pw) 27 ∧ Blk W (g2) (arrV pl) 23 ∧ Blk W (g2 + 1) (arrV pw) 22 ∧ Blk W (g3) (arrV O) 27 ∧ Blk W (g3 + 1) (arrV F) 35 ∧ Blk W (g4) (arrV O) 22 ∧ Blk W (g4 + 1) (arrV F) 25 ∧ Below (B) w W ∧ g4 + 2 ≤ W.heap.size) (by kernel_rfl) (⟨hA.drew, hP.drew, hQ.drew, hP2.drew, hQ2.drew, hO.drew, hF.drew, hO2.drew, hF2.drew, hfar.drew, hsz⟩) (fun hH => ?_)
        have hH2 := hH
        obtain ⟨hA, hP, hQ, hP2, hQ2, hO, hF, hO2, hF2, hfar, hsz⟩ := hH2
        refine wpAnyH_take (i := 0) (oi := { dst := some 106, op := Op.move (Operand.tmp 12), type := 28, pos := "law.go:91", after := _, guard := none }) (v := _) rfl (by kernel_rfl) (by kernel_rfl) (by kernel_rfl) (fun _ _ _ h => h) (.inl ⟨by rfl, fun w hS => by (go_simp; try rfl)⟩) hH ?_
        try simp only [Act.put, List.setIfInBounds_toArray, List.set_cons_zero, List.set_cons_succ]
        refine wpAnyH_take (i := 1) (oi := { dst := some 107, op := Op.binOp BinOp.eql 28 (Operand.tmp 106) (Operand.const (Value.int IntKind.i64 0)) 28, type := 4, pos := "law.go:91", after := _, guard := none }) (v := _) rfl (by kernel_rfl) (by kernel_rfl) (by kernel_rfl) (fun _ _ _ h => h) (.inl ⟨by rfl, fun w hS => by (go_simp; try rfl)⟩) hH ?_
        try simp only [Act.put, List.setIfInBounds_toArray, List.set_cons_zero, List.set_cons_succ]
        refine wpAnyH_take (i := 2) (oi := { dst := some 108, op := Op.move (Operand.tmp 107), type := 4, pos := "law.go:91", after := _, guard := none }) (v := _) rfl (by kernel_rfl) (by kernel_rfl) (by kernel_rfl) (fun _ _ _ h => h) (.inl ⟨by rfl, fun w hS => by (go_simp; try rfl)⟩) hH ?_
        try simp only [Act.put, List.setIfInBounds_toArray, List.set_cons_zero, List.set_cons_succ]
        refine wpAnyH_take (i := 3) (oi := { dst := some 109, op := Op.load 27 (Operand.tmp 10), type := 27, pos := "law.go:91", after := _, guard := some (2, true) }) (v := .agg (arrV O)) rfl (by kernel_rfl) (by kernel_rfl) (by kernel_rfl) (fun _ _ _ h => h) (yieldsIf_ld (by rfl) 27 rfl w_Block rfl (fun _ hS => hS.2.2.2.2.2.1) zz_) hH ?_
        try simp only [Act.put, List.setIfInBounds_toArray, List.set_cons_zero, List.set_cons_succ]
        refine wpAnyH_take (i := 4) (oi := { dst := some 110, op := Op.load 22 (Operand.tmp 13), type := 22, pos := "law.go:91", after := _, guard := some (2, true) }) (v := .agg (arrV O)) rfl (by kernel_rfl) (by kernel_rfl) (by kernel_rfl) (fun _ _ _ h => h) (yieldsIf_ld (by rfl) 22 rfl w_Sixteen rfl (fun _ hS => hS.2.2.2.2.2.2.2.1) zz_) hH ?_
        try simp only [Act.put, List.setIfInBounds_toArray, List.set_cons_zero, List.set_cons_succ]
        refine wpAnyH_take (i := 5) (oi := { dst := some 111, op := Op.binOp BinOp.eql 27 (Operand.tmp 109) (Operand.tmp 110) 27, type := 4, pos := "law.go:91", after := _, guard := some (2, true) }) (v := .bool true) rfl (by kernel_rfl) (by kernel_rfl) (by kernel_rfl) (fun _ _ _ h => h) (yieldsIf_eql (by rfl) 27 rfl rfl rfl eg_Block (eq_block_self LO.out)) hH ?_
        try simp only [Act.put, List.setIfInBounds_toArray, List.set_cons_zero, List.set_cons_succ]
        refine wpAnyH_take (i := 6) (oi := { dst := some 112, op := Op.pick (Operand.tmp 108) (Operand.tmp 111) (Operand.const (Value.bool false)), type := 4, pos := "law.go:91", after := _, guard := none }) (v := _) rfl (by kernel_rfl) (by kernel_rfl) (by kernel_rfl) (fun _ _ _ h => h) (.inl ⟨by rfl, fun w hS => by (go_simp; try rfl)⟩) hH ?_
        try simp only [Act.put, List.setIfInBounds_toArray, List.set_cons_zero, List.set_cons_succ]
        refine wpAnyH_take (i := 7) (oi := { dst := some 113, op := Op.move (Operand.tmp 112), type := 4, pos := "law.go:91", after := _, guard := none }) (v := _) rfl (by kernel_rfl) (by kernel_rfl) (by kernel_rfl) (fun _ _ _ h => h) (.inl ⟨by rfl, fun w hS => by (go_simp; try rfl)⟩) hH ?_
        try simp only [Act.put, List.setIfInBounds_toArray, List.set_cons_zero, List.set_cons_succ]
        refine wpAnyH_take (i := 8) (oi := { dst := some 114, op := Op.load 35 (Operand.tmp 11), type := 35, pos := "law.go:91", after := _, guard := some (7, true) }) (v := .agg (arrV F)) rfl (by kernel_rfl) (by kernel_rfl) (by kernel_rfl) (fun _ _ _ h => h) (yieldsIf_ld (by rfl) 35 rfl w_State rfl (fun _ hS => hS.2.2.2.2.2.2.1) zz_) hH ?_
        try simp only [Act.put, List.setIfInBounds_toArray, List.set_cons_zero, List.set_cons_succ]
        refine wpAnyH_take (i := 10) (oi := { dst := some 116, op := Op.load 25 (Operand.tmp 14), type := 25, pos := "law.go:91", after := _, guard := some (7, true) }) (v := .agg (arrV F)) rfl (by kernel_rfl) (by kernel_rfl) (by kernel_rfl) (fun _ _ _ h => h) (yieldsIf_ld (by rfl) 25 rfl w_RState rfl (fun _ hS => hS.2.2.2.2.2.2.2.2.1) zz_) hH ?_
        try simp only [Act.put, List.setIfInBounds_toArray, List.set_cons_zero, List.set_cons_succ]
        refine wpAnyH_ready (rs := [9]) (by kernel_rfl) (by simp) ?_
        refine AllReadyH.cons (o := { dst := some 115, op := Op.call { callee := Callee.value (Operand.func 13), args := #[Operand.tmp 114], argTypes := #[35] }, type := 25, pos := "law.go:91", after := _, guard := some (7, true) }) rfl (fun K hK => ?_) AllReadyH.nil
        rw [if_pos (by rfl)]
        go_simp
        refine (HPL.out _).mono ?_
        rintro r wq ⟨rfl, hb⟩
        have hbs := hb.size
        try simp only [World.size_alloc, World.size_setCell, World.size_drew, size_setRow] at hbs
        go_wp2_with fail
        refine hK.out _ _ ⟨bk_, bk_, bk_, bk_, bk_, bk_, bk_, bk_, bk_, bl_, Nat.le_trans (sz_) hb.size⟩ (fun hH2 => ?_)
        clear hH
        have hH := hH2
        obtain ⟨hA, hP, hQ, hP2, hQ2, hO, hF, hO2, hF2, hfar, hsz⟩ := hH2
        clear hK K
        try simp only [Act.put, List.setIfInBounds_toArray, List.set_cons_zero, List.set_cons_succ]
        refine wpAnyH_take (i := 11) (oi := { dst := some 117, op := Op.binOp BinOp.eql 25 (Operand.tmp 115) (Operand.tmp 116) 25, type := 4, pos := "law.go:91", after := _, guard := some (7, true) }) (v := .bool true) rfl (by kernel_rfl) (by kernel_rfl) (by kernel_rfl) (fun _ _ _ h => h) (yieldsIf_eql (by rfl) 25 rfl rfl rfl eg_RState (eq_rstate_self LF)) hH ?_
        try simp only [Act.put, List.setIfInBounds_toArray, List.set_cons_zero, List.set_cons_succ]
        refine wpAnyH_take (i := 12) (oi := { dst := some 118, op := Op.pick (Operand.tmp 113) (Operand.tmp 117) (Operand.const (Value.bool false)), type := 4, pos := "law.go:91", after := _, guard := none }) (v := _) rfl (by kernel_rfl) (by kernel_rfl) (by kernel_rfl) (fun _ _ _ h => h) (.inl ⟨by rfl, fun w hS => by (go_simp; try rfl)⟩) hH ?_
        try simp only [Act.put, List.setIfInBounds_toArray, List.set_cons_zero, List.set_cons_succ]
        refine wpAnyH_take (i := 13) (oi := { dst := some 4, op := Op.assign (Operand.tmp 118), type := 4, pos := "law.go:91", after := _, guard := none }) (v := _) rfl (by kernel_rfl) (by kernel_rfl) (by kernel_rfl) (fun _ _ _ h => h) (.inl ⟨by rfl, fun w hS => by (go_simp; try rfl)⟩) hH ?_
        try simp only [Act.put, List.setIfInBounds_toArray, List.set_cons_zero, List.set_cons_succ]
        refine wpAnyH_done (by kernel_rfl) ?_ _
        go_wp2_with fail
        go_ret
        exact ⟨rfl, (by (try rw [hB]); exact bl_)⟩
end Go.Proofs.YtmfihaaiddolmaaGreatDoor
