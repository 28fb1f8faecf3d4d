/- The walk of spoollaw23.SeekEnds: whatever comes in, it returns true. -/
import Derived.Test.YtbpdocdomjafbaaDoorSeek5
set_option linter.unusedSimpArgs false
set_option linter.unusedVariables false
namespace Go.Proofs.YtbpdocdomjafbaaDoor
open Go.RowKit

set_option maxRecDepth 100000 in
set_option maxHeartbeats 8000000 in
theorem SeekEnds_any (l : List Ent) (p : Option Addr) (cap : Nat) (w : World) (hW : BandsW w) (hE : EntIn w p cap l) :
    Calls Tryd.prog 9 #[.slice p l.length cap] w fun r w' => r = .returned (.bool true) ∧ Below w.heap.size w w' := by
  have hBW : Blk w 0 bandC 142 := hW
  have hB0 := hW.lt
  have hc1 := hE.1
  have hc2 := hE.2.1
  have hfew := few23_any l p cap
  obtain ⟨n, hn⟩ : ∃ n, l.length = n := ⟨_, rfl⟩
  have HN := Lib.hid hn
  have hOf := fun h w => Of21_any l h p cap w
  rw [hn] at hc1 hfew hOf ⊢
  have HFEW := Lib.hid hfew
  have HOF := Lib.hid hOf
  have HE := Lib.hid hE
  clear hE hn hW hfew hOf
  obtain ⟨B, hB⟩ : ∃ B, w.heap.size = B := ⟨_, rfl⟩
  rw [hB] at hB0
  have hfar := Below.refl B w
  have hsz : B ≤ w.heap.size := by omega
  go_enter Tryd.func9, Tryd.ntmps9
  go_wp2_with fail
  refine (awake23_any _ hBW).mono ?_
  rintro e w2 ⟨rfl, hb2⟩
  replace hBW := hBW.newB hb2
  replace hfar := hfar.trans (hb2.mono (by omega))
  replace hsz := Nat.le_trans hsz hb2.size
  go_wp2_with fail
  refine (HFEW.out _ (HE.out.below hB.symm hfar)).mono ?_
  rintro r wf ⟨rfl, rfl⟩
  cases hf : fewE l with
  | false =>
    go_wp2_with fail
    refine (awake23_any _ hBW).mono ?_
    rintro e w3 ⟨rfl, hb3⟩
    replace hBW := hBW.newB hb3
    replace hfar := hfar.trans (hb3.mono (by omega))
    replace hsz := Nat.le_trans hsz hb3.size
    go_wp2_with fail
    go_ret
    exact ⟨rfl, (by (try rw [hB]); exact bl_)⟩
  | true =>
    have h25 : n ≤ 25 := by rw [← HN.out]; exact few_len hf
    clear hf
    go_wp2_with fail
    refine (HOF.out (by omega) _ (HE.out.below hB.symm hfar)).mono ?_
    obtain ⟨q0, hq0⟩ : ∃ q, w2.heap.size = q := ⟨_, rfl⟩
    have hq0B : B ≤ q0 := by omega
    rintro r w3 ⟨v3, rfl, hv3, hb3⟩
    replace hBW := hBW.newB hb3
    replace hfar := hfar.trans (hb3.mono (by omega))
    replace hsz := Nat.le_trans hsz hb3.size
    obtain ⟨p2, c2, rfl, hQ⟩ := hv3.sl
    rw [HN.out] at hQ ⊢
    have hnc : n ≤ c2 := hQ.2.1
    have hcm := hQ.2.2.1
    unfold maxLen at hcm
    obtain ⟨q1, hq1⟩ : ∃ q, w3.heap.size = q := ⟨_, rfl⟩
    rw [hq0, hq1] at hQ
    have hq1B : B ≤ q1 := by omega
    replace hsz : q1 ≤ w3.heap.size := by omega
    clear hv3 hq0 hq1
    -- the true ones
    have hTn : truthsE (zs 38) l ≤ n := by rw [← HN.out]; exact truths_le _ _
    have hAT := truths_take (zs 38) l
    have hml : (l.take (truthsE (zs 38) l)).length = truthsE (zs 38) l := by rw [List.length_take, HN.out]; omega
    have hTr := fun w (hW : BandsW w) (hs : SL w q0 q1 3 p2 n c2 (flE l)) => Truths_any HN.out (by omega) hW hs
    have hQm := es_take hQ HN.out hTn
    obtain ⟨T, hT⟩ : ∃ T, truthsE (zs 38) l = T := ⟨_, rfl⟩
    rw [hT] at hTn hAT hml hQm
    simp only [hT] at hTr
    obtain ⟨m, hm⟩ : ∃ m, l.take T = m := ⟨_, rfl⟩
    rw [hm] at hAT hml hQm
    have hTc : (T : Int) ≤ c2 := by omega
    have hFo := fun w (hW : BandsW w) (hs : SL w q0 q1 3 p2 T c2 (flE m)) => toBN (Fold_all (Len.zs 38) hml (by omega) hW hs)
    have hFr := fun k (hkT : k ≤ T) w (hW : BandsW w) (hs : SL w q0 q1 3 p2 T c2 (flE m)) => From_in hml (by omega) hW hs hkT
    have hSm := fun k (hkT : k ≤ T) lo1 hi1 lo2 hi2 p1 p2 c1 c2 w h1 h2 => Same_any (fromO m k) (fromO_len m k) (by have := fromO_le m k; omega) lo1 hi1 lo2 hi2 p1 p2 c1 c2 w h1 h2
    have hFl := fun k => fromO_le m k
    have hf0 : fromO m 0 = foldO (zs 38) m := by rw [from_true hAT (Nat.zero_le _)]; rfl
    have hfT : (fromO m T).length = 0 := by rw [from_true hAT (by omega), ← hml, List.drop_length]; rfl
    have hA16 := foldO_len (zs 38) m
    have LM := Len.mk (foldS_len (L := zs 38) zs_len38 m)
    obtain ⟨A, hA⟩ : ∃ A, foldO (zs 38) m = A := ⟨_, rfl⟩
    obtain ⟨M, hM⟩ : ∃ M, foldS (zs 38) m = M := ⟨_, rfl⟩
    obtain ⟨fm, hfm⟩ : ∃ x, flE m = x := ⟨_, rfl⟩
    have hQf : SL w3 q0 q1 3 p2 T c2 fm := by rw [← hfm]; exact hQm
    simp only [hA, hM, hfm] at hFo LM hf0
    simp only [BS] at hSm
    simp only [hfm] at hFr
    obtain ⟨na, hna⟩ : ∃ n, A.length = n := ⟨_, rfl⟩
    simp only [hna] at hFo
    have hfm2 := hfm
    have HTR := Lib.hid hTr
    have HFO := Lib.hid hFo
    have HFR := Lib.hid hFr
    have HSM := Lib.hid hSm
    have HFL := Lib.hid hFl
    have HF0 := Lib.hid hf0
    have HFT := Lib.hid hfT
    have HNA := Lib.hid hna
    have HAT := Lib.hid hAT
    have HML := Lib.hid hml
    have HFM := Lib.hid hfm
    clear hT hAT hml hm hTr hFo hFr hSm hFl hA16 hA hM hna hfm hfm2 hf0 hfT hQm
    go_wp2_with fail
    refine (HTR.out _ hBW hQ).mono ?_
    rintro e w4 ⟨rfl, hb4⟩
    replace hBW := hBW.newB hb4
    replace hQ := hQ.newB hb4
    replace hQf := hQf.newB hb4
    replace hfar := hfar.trans (hb4.mono (by omega))
    replace hsz := Nat.le_trans hsz hb4.size
    go_wp2_with (first | (refine st 43 rfl (by rfl) w_Entry rfl rfl bk_ zz_ zz_ one_ ?_) | (refine ld 43 rfl (by rfl) w_Entry rfl bk_ zz_ ?_) | (refine bd 34 rfl (by rfl) rfl state_zs ?_) | (refine bd 32 rfl (by rfl) rfl block_zs ?_) | (refine ld 34 rfl (by rfl) w_State rfl bk_ lz_ ?_) | (refine ld 32 rfl (by rfl) w_Block rfl bk_ lz_ ?_) | (refine ldp 32 rfl (by rfl) w_Block rfl bk_ ln_ (by omega) ?_) | (refine ld 23 rfl (by rfl) w_Four rfl bk_ lz_ ?_) | (refine ldp 23 rfl (by rfl) w_Four rfl bk_ ln_ (by omega) ?_) | (refine st 34 rfl (by rfl) w_State rfl rfl bk_ lz_ lz_ one_ ?_) | (refine st 32 rfl (by rfl) w_Block rfl rfl bk_ lz_ lz_ one_ ?_) | (refine st 23 rfl (by rfl) w_Four rfl rfl bk_ lz_ lz_ one_ ?_))
    refine (HFO.out _ hBW hQf).mono ?_
    rintro r w5 ⟨v5, rfl, hv5, hb5⟩
    replace hBW := hBW.newB hb5
    replace hQ := hQ.newB hb5
    replace hQf := hQf.newB hb5
    replace hfar := hfar.trans (hb5.mono (by omega))
    replace hsz := Nat.le_trans hsz hb5.size
    obtain ⟨pa, ca, loa, hia, rfl, hsa, hloa, hha⟩ := own_ex hv5
    obtain ⟨N5, hN5⟩ : ∃ N, w5.heap.size = N := ⟨_, rfl⟩
    rw [hN5] at hha
    have hBN5 : q1 ≤ N5 := by omega
    clear hv5 hloa
    go_upto_region 6 with (first | (refine st 43 rfl (by rfl) w_Entry rfl rfl bk_ zz_ zz_ one_ ?_) | (refine ld 43 rfl (by rfl) w_Entry rfl bk_ zz_ ?_) | (refine bd 34 rfl (by rfl) rfl state_zs ?_) | (refine bd 32 rfl (by rfl) rfl block_zs ?_) | (refine ld 34 rfl (by rfl) w_State rfl bk_ lz_ ?_) | (refine ld 32 rfl (by rfl) w_Block rfl bk_ lz_ ?_) | (refine ldp 32 rfl (by rfl) w_Block rfl bk_ ln_ (by omega) ?_) | (refine ld 23 rfl (by rfl) w_Four rfl bk_ lz_ ?_) | (refine ldp 23 rfl (by rfl) w_Four rfl bk_ ln_ (by omega) ?_) | (refine st 34 rfl (by rfl) w_State rfl rfl bk_ lz_ lz_ one_ ?_) | (refine st 32 rfl (by rfl) w_Block rfl rfl bk_ lz_ lz_ one_ ?_) | (refine st 23 rfl (by rfl) w_Four rfl rfl bk_ lz_ lz_ one_ ?_))
    refine wp_gen (fun W => Blk W (0) (bandC) 142 ∧ SL W (q0) (q1) (3) (p2) (n) (c2) (flE l) ∧ SL W (q0) (q1) (3) (p2) (T) (c2) (fm) ∧ SL W (loa) (hia) (16) (pa) (na) (ca) (A.flatMap intsV) ∧ Blk W (N5) (arrV M) 34 ∧ Below (B) w W ∧ N5 + 1 ≤ W.heap.size) ⟨bk_, sl_, sl_, sl_, bk_, bl_, sz_⟩ ?_
    clear hBW hQ hQf hsa hfar hsz
    rintro w6 ⟨hBW, hQ, hQf, hsa, hM1, hfar, hsz⟩
    clear hM1
    go_wp2_with fail
    refine (HFR.out 0 (Nat.zero_le _) _ hBW hQf).mono ?_
    rintro r w7 ⟨pb, cb, lob, hib, rfl, hsb, hlob, hb7⟩
    rw [HF0.out, HNA.out] at hsb ⊢
    replace hBW := hBW.newB hb7
    replace hQ := hQ.newB hb7
    replace hQf := hQf.newB hb7
    replace hsa := hsa.newB hb7
    replace hfar := hfar.trans (hb7.mono (by omega))
    replace hsz := Nat.le_trans hsz hb7.size
    have hTi : (T : Int) = (T : Nat) := rfl
    clear hTi
    go_wp2_with fail
    refine (HFR.out T (Nat.le_refl _) _ hBW hQf).mono ?_
    rintro r w8 ⟨pl, cl, lol, hil, rfl, hsl, hlol, hb8⟩
    rw [HFT.out] at hsl ⊢
    replace hBW := hBW.newB hb8
    replace hQ := hQ.newB hb8
    replace hQf := hQf.newB hb8
    replace hsa := hsa.newB hb8
    replace hsb := hsb.newB hb8
    replace hfar := hfar.trans (hb8.mono (by omega))
    replace hsz := Nat.le_trans hsz hb8.size
    clear hsl hlol
    go_wp2_with fail
    go_loopw [10] (fun i wr => ∃ k : Nat, k ≤ T ∧ i = .int .i64 k ∧ Blk wr 0 bandC 142 ∧ SL wr q0 q1 3 p2 T c2 fm ∧ SL wr loa hia 16 pa na ca (A.flatMap intsV) ∧ SL wr lob hib 16 pb na cb (A.flatMap intsV) ∧ Below B w wr ∧ N5 + 1 ≤ wr.heap.size) (fun i _ => T - (intOf i).toNat)
    case atStart => exact ⟨0, by omega, rfl, hBW, hQf, hsa, hsb, hfar, hsz⟩
    case round =>
      clear hBW hQ hQf hsa hsb hfar hsz
      obtain ⟨k, hk, rfl, hBW, hQf, hsa, hsb, hfar, hsz⟩ := hrel
      by_cases hlt : k < T
      · have hkl : k < m.length := by rw [HML.out]; exact hlt
        obtain ⟨e, he⟩ : ∃ e, m[k]? = some e := ⟨_, List.getElem?_eq_getElem hkl⟩
        obtain ⟨x, hx, hxl⟩ := from_step HAT.out he
        have hk1 : k + 1 ≤ T := hlt
        have hFra := HFR.out k (by omega)
        have hFrb := HFR.out (k + 1) hk1
        have hSmb := HSM.out (k + 1) hk1
        have hF16 := fromO_len m k
        obtain ⟨Y, hY⟩ : ∃ Y, fromO m (k + 1) = Y := ⟨_, rfl⟩
        have hdr : (fromO m k).drop x.length = Y := by rw [hx, hY, List.drop_left]
        have hla : (fromO m k).length = x.length + Y.length := by rw [hx, hY, List.length_append]
        obtain ⟨X, hX⟩ : ∃ X, fromO m k = X := ⟨_, rfl⟩
        simp only [hX, hY] at hFra hFrb hSmb hF16 hdr hla
        obtain ⟨lx, hlx⟩ : ∃ n, X.length = n := ⟨_, rfl⟩
        obtain ⟨ly, hly⟩ : ∃ n, Y.length = n := ⟨_, rfl⟩
        obtain ⟨d, hd⟩ : ∃ n, x.length = n := ⟨_, rfl⟩
        simp only [hlx] at hFra
        simp only [hly] at hFrb hSmb
        rw [hd] at hdr hxl
        rw [hlx, hly, hd] at hla
        have hmk : (m.take (k + 1)).drop k = [e] := by
          rw [List.take_add_one, he, Option.toList_some, List.drop_append_of_le_length (by rw [List.length_take]; omega), List.drop_of_length_le (by rw [List.length_take]; omega), List.nil_append]
        have hx25 : lx ≤ 25 := by
          have := HFL.out k
          rw [hX, hlx, HML.out] at this
          omega
        have hdx : d ≤ lx := by omega
        have hll : (lx : Int) - ly = d := by omega
        have hnd : lx - d = ly := by omega
        obtain ⟨p1, hp1⟩ : ∃ p', (if c2 = k then p2 else p2.map (·.add (k * 3))) = p' := ⟨_, rfl⟩
        have hkk : k + 1 - k = 1 := by omega
        have hQe := es_mid (show SL wr q0 q1 3 p2 T c2 (flE m) by rw [HFM.out]; exact hQf) HML.out (k := k) (i := k + 1) (by omega) hk1 hp1 hkk
        rw [hmk] at hQe
        have hSd := fun w (hs : SL w q0 q1 3 p1 1 (c2 - k) (flE [e])) => Sounds_any (l := [e]) (n := 1) rfl (by omega) hs
        rw [← hxl] at hSd
        obtain ⟨fe, hfe⟩ : ∃ x, flE [e] = x := ⟨_, rfl⟩
        rw [hfe] at hQe
        simp only [hfe] at hSd
        have hk1c : k + 1 ≤ c2 := by omega
        have hkk1 : k ≤ k + 1 := by omega
        have HSD := Lib.hid hSd
        have HFRa := Lib.hid hFra
        have HFRb := Lib.hid hFrb
        have HSMb := Lib.hid hSmb
        have HP1 := Lib.hid hp1
        have HKK := Lib.hid hkk
        have HF16 := Lib.hid hF16
        have HDR := Lib.hid hdr
        have HND := Lib.hid hnd
        have HLA := Lib.hid hla
        clear hkl he hx hxl hFra hFrb hSmb hF16 hY hdr hX hlx hly hd hmk hp1 hkk hSd hfe hla hnd
        go_wp2_with fail
        refine (HFRa.out _ hBW hQf).mono ?_
        rintro r w9 ⟨px, cx, lox, hix, rfl, hsx, hlox, hb9⟩
        replace hBW := hBW.newB hb9
        replace hQf := hQf.newB hb9
        replace hsa := hsa.newB hb9
        replace hsb := hsb.newB hb9
        replace hQe := hQe.newB hb9
        replace hfar := hfar.trans (hb9.mono (by omega))
        replace hsz := Nat.le_trans hsz hb9.size
        go_wp2_with fail
        refine (HFRb.out _ hBW hQf).mono ?_
        rintro r w10 ⟨py, cy, loy, hiy, rfl, hsy, hloy, hb10⟩
        replace hBW := hBW.newB hb10
        replace hQf := hQf.newB hb10
        replace hsa := hsa.newB hb10
        replace hsb := hsb.newB hb10
        replace hQe := hQe.newB hb10
        replace hsx := hsx.newB hb10
        replace hfar := hfar.trans (hb10.mono (by omega))
        replace hsz := Nat.le_trans hsz hb10.size
        obtain ⟨pd, hpd⟩ : ∃ p', (if cx = d then px else px.map (·.add (d * 16))) = p' := ⟨_, rfl⟩
        have hsd := sl_drop16 hsx HF16.out hdx HDR.out hpd HND.out
        have HPD := Lib.hid hpd
        clear hpd
        go_wp2_with (first | (refine of_yields (yieldsIf_slx (by rfl) 29 rfl rfl rfl rfl Tryd.underlying29 el_Entry.1 hkk1 hk1c HP1.out HKK.out) (by rfl) ?_) | (refine of_yields (yieldsIf_sllm (by rfl) 31 rfl rfl rfl Tryd.underlying31 el_Block.1 hdx HPD.out HND.out) (by rfl) ?_))
        refine (HSD.out _ hQe).mono ?_
        rintro e w11 ⟨rfl, hb11⟩
        replace hBW := hBW.newB hb11
        replace hQf := hQf.newB hb11
        replace hsa := hsa.newB hb11
        replace hsb := hsb.newB hb11
        replace hQe := hQe.newB hb11
        replace hsx := hsx.newB hb11
        replace hsy := hsy.newB hb11
        replace hsd := hsd.newB hb11
        replace hfar := hfar.trans (hb11.mono (by omega))
        replace hsz := Nat.le_trans hsz hb11.size
        go_wp2_with (first | (refine of_yields (yieldsIf_sllm (by rfl) 31 rfl rfl rfl Tryd.underlying31 el_Block.1 hdx HPD.out HND.out) (by rfl) ?_))
        refine (HSMb.out _ _ _ _ _ _ _ _ _ hsd hsy).mono ?_
        rintro e w12 ⟨rfl, hb12⟩
        replace hBW := hBW.newB hb12
        replace hQf := hQf.newB hb12
        replace hsa := hsa.newB hb12
        replace hsb := hsb.newB hb12
        replace hQe := hQe.newB hb12
        replace hsx := hsx.newB hb12
        replace hsy := hsy.newB hb12
        replace hsd := hsd.newB hb12
        replace hfar := hfar.trans (hb12.mono (by omega))
        replace hsz := Nat.le_trans hsz hb12.size
        go_wp2_with fail
        go_roundw
        case rel => exact ⟨k + 1, hk1, by go_num, hBW, hQf, hsa, hsb, hfar, hsz⟩
        case measure => simp [intOf]; omega
      · obtain rfl : k = T := by omega
        have hSa := HSM.out 0 (Nat.zero_le _)
        rw [HF0.out, HNA.out] at hSa
        have HSa := Lib.hid hSa
        clear hSa
        go_wp2_with fail
        refine (HSa.out _ _ _ _ _ _ _ _ _ hsb hsa).mono ?_
        rintro e w12 ⟨rfl, hb12⟩
        replace hBW := hBW.newB hb12
        replace hQf := hQf.newB hb12
        replace hsa := hsa.newB hb12
        replace hsb := hsb.newB hb12
        replace hfar := hfar.trans (hb12.mono (by omega))
        replace hsz := Nat.le_trans hsz hb12.size
        go_wp2_with fail
        go_ret
        exact ⟨rfl, (by (try rw [hB]); exact bl_)⟩
end Go.Proofs.YtbpdocdomjafbaaDoor
