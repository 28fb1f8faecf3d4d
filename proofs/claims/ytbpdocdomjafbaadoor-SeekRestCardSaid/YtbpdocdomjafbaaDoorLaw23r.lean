/- The walk of spoollaw23.SeekRest: whatever comes in, it returns true. -/
import Derived.Test.YtbpdocdomjafbaaDoorSeek5
set_option linter.unusedSimpArgs false
set_option linter.unusedVariables false
namespace Go.Proofs.YtbpdocdomjafbaaDoor
open Go.RowKit

set_option maxRecDepth 100000 in
set_option maxHeartbeats 8000000 in
theorem SeekRest_any (l : List Ent) (p : Option Addr) (cap : Nat) (i : Int) (hi0 : 0 ≤ i) (hi255 : i ≤ 255) (w : World) (hW : BandsW w) (hE : EntIn w p cap l) :
    Calls Tryd.prog 8 #[.slice p l.length cap, .int .u8 i] w fun r w' => r = .returned (.bool true) ∧ Below w.heap.size w w' := by
  have hBW : Blk w 0 bandC 142 := hW
  have hB0 := hW.lt
  have hc1 := hE.1
  have hc2 := hE.2.1
  have hfew := few23_any l p cap
  obtain ⟨n, hn⟩ : ∃ n, l.length = n := ⟨_, rfl⟩
  have HN := Lib.hid hn
  have hOf := fun h w => Of21_any l h p cap w
  rw [hn] at hc1 hfew hOf ⊢
  have HFEW := Lib.hid hfew
  have HOF := Lib.hid hOf
  have HE := Lib.hid hE
  clear hE hn hW hfew hOf
  obtain ⟨B, hB⟩ : ∃ B, w.heap.size = B := ⟨_, rfl⟩
  rw [hB] at hB0
  have hfar := Below.refl B w
  have hsz : B ≤ w.heap.size := by omega
  go_enter Tryd.func8, Tryd.ntmps8
  go_wp2_with fail
  refine (awake23_any _ hBW).mono ?_
  rintro e w2 ⟨rfl, hb2⟩
  replace hBW := hBW.newB hb2
  replace hfar := hfar.trans (hb2.mono (by omega))
  replace hsz := Nat.le_trans hsz hb2.size
  go_wp2_with fail
  refine (HFEW.out _ (HE.out.below hB.symm hfar)).mono ?_
  rintro r wf ⟨rfl, rfl⟩
  cases hf : fewE l with
  | false =>
    go_wp2_with fail
    refine (awake23_any _ hBW).mono ?_
    rintro e w3 ⟨rfl, hb3⟩
    replace hBW := hBW.newB hb3
    replace hfar := hfar.trans (hb3.mono (by omega))
    replace hsz := Nat.le_trans hsz hb3.size
    go_wp2_with fail
    go_ret
    exact ⟨rfl, (by (try rw [hB]); exact bl_)⟩
  | true =>
    have h25 : n ≤ 25 := by rw [← HN.out]; exact few_len hf
    clear hf
    go_wp2_with fail
    refine (HOF.out (by omega) _ (HE.out.below hB.symm hfar)).mono ?_
    obtain ⟨q0, hq0⟩ : ∃ q, w2.heap.size = q := ⟨_, rfl⟩
    have hq0B : B ≤ q0 := by omega
    rintro r w3 ⟨v3, rfl, hv3, hb3⟩
    replace hBW := hBW.newB hb3
    replace hfar := hfar.trans (hb3.mono (by omega))
    replace hsz := Nat.le_trans hsz hb3.size
    obtain ⟨p2, c2, rfl, hQ⟩ := hv3.sl
    rw [HN.out] at hQ ⊢
    have hnc : n ≤ c2 := hQ.2.1
    have hcm := hQ.2.2.1
    unfold maxLen at hcm
    obtain ⟨q1, hq1⟩ : ∃ q, w3.heap.size = q := ⟨_, rfl⟩
    rw [hq0, hq1] at hQ
    have hq1B : B ≤ q1 := by omega
    replace hsz : q1 ≤ w3.heap.size := by omega
    clear hv3 hq0 hq1
    -- the true ones
    have hTn : truthsE (zs 38) l ≤ n := by rw [← HN.out]; exact truths_le _ _
    have hAT := truths_take (zs 38) l
    have hml : (l.take (truthsE (zs 38) l)).length = truthsE (zs 38) l := by rw [List.length_take, HN.out]; omega
    have hTr := fun w (hW : BandsW w) (hs : SL w q0 q1 3 p2 n c2 (flE l)) => Truths_any HN.out (by omega) hW hs
    have hQm := es_take hQ HN.out hTn
    obtain ⟨T, hT⟩ : ∃ T, truthsE (zs 38) l = T := ⟨_, rfl⟩
    rw [hT] at hTn hAT hml hQm
    simp only [hT] at hTr
    obtain ⟨m, hm⟩ : ∃ m, l.take T = m := ⟨_, rfl⟩
    rw [hm] at hAT hml hQm
    obtain ⟨k, hk, hkT⟩ := mod_nat i T
    have hTc : (T : Int) ≤ c2 := by omega
    have hcut := fromO_cut hAT (k := k) (by omega)
    have hkl : (m.take k).length = k := by rw [List.length_take]; omega
    have hQk := es_take hQm hml hkT
    have hSd := fun w (hs : SL w q0 q1 3 p2 k c2 (flE (m.take k))) => Sounds_any hkl (by omega) hs
    have hFo := fun w (hW : BandsW w) (hs : SL w q0 q1 3 p2 T c2 (flE m)) => toBN (Fold_all (Len.zs 38) hml (by omega) hW hs)
    have hFr := fun w (hW : BandsW w) (hs : SL w q0 q1 3 p2 T c2 (flE m)) => From_in hml (by omega) hW hs hkT
    have hFl := fromO_le m k
    have hF16 := fromO_len m k
    have hA16 := foldO_len (zs 38) m
    have hAl := foldO_le (zs 38) m
    have LM := Len.mk (foldS_len (L := zs 38) zs_len38 m)
    obtain ⟨A, hA⟩ : ∃ A, foldO (zs 38) m = A := ⟨_, rfl⟩
    obtain ⟨M, hM⟩ : ∃ M, foldS (zs 38) m = M := ⟨_, rfl⟩
    obtain ⟨C, hC⟩ : ∃ C, fromO m k = C := ⟨_, rfl⟩
    obtain ⟨d, hd⟩ : ∃ d, soundsE (m.take k) = d := ⟨_, rfl⟩
    simp only [hA, hM, hC, hd, hml] at hcut hSd hFo hFr hFl hF16 hA16 hAl LM
    obtain ⟨na, hna⟩ : ∃ n, A.length = n := ⟨_, rfl⟩
    obtain ⟨nc, hnc2⟩ : ∃ n, C.length = n := ⟨_, rfl⟩
    have hSm := fun lo1 hi1 lo2 hi2 p1 p2 c1 c2 w h1 h2 => Same_any C hF16 (by omega) lo1 hi1 lo2 hi2 p1 p2 c1 c2 w h1 h2
    simp only [BS, hnc2] at hSm
    simp only [hna, hnc2] at hFo hFr hAl hFl hcut
    have hdn : d ≤ na := hcut.1
    have hdC : A.drop d = C := hcut.2.symm
    have hndc : na - d = nc := by rw [← hnc2, ← hdC, List.length_drop, hna]
    have hdna : (d : Int) ≤ na := by omega
    obtain ⟨fm, hfm⟩ : ∃ x, flE m = x := ⟨_, rfl⟩
    obtain ⟨fk, hfk⟩ : ∃ x, flE (m.take k) = x := ⟨_, rfl⟩
    rw [hfm] at hQm
    rw [hfk] at hQk
    simp only [hfm] at hFo hFr
    simp only [hfk] at hSd
    have HTR := Lib.hid hTr
    have HSD := Lib.hid hSd
    have HFO := Lib.hid hFo
    have HFR := Lib.hid hFr
    have HSM := Lib.hid hSm
    have HA16 := Lib.hid hA16
    have HDC := Lib.hid hdC
    have HND := Lib.hid hndc
    have HK := Lib.hid hk
    clear hT hAT hml hm hk hcut hkl hTr hSd hFo hFr hF16 hA16 hA hM hC hd hna hnc2 hSm hdC hndc hfm hfk
    go_wp2_with fail
    refine (HTR.out _ hBW hQ).mono ?_
    rintro e w4 ⟨rfl, hb4⟩
    replace hBW := hBW.newB hb4
    replace hQ := hQ.newB hb4
    replace hQm := hQm.newB hb4
    replace hQk := hQk.newB hb4
    replace hfar := hfar.trans (hb4.mono (by omega))
    replace hsz := Nat.le_trans hsz hb4.size
    go_upto_region 6 with (first | (refine st 43 rfl (by rfl) w_Entry rfl rfl bk_ zz_ zz_ one_ ?_) | (refine ld 43 rfl (by rfl) w_Entry rfl bk_ zz_ ?_) | (refine bd 34 rfl (by rfl) rfl state_zs ?_) | (refine bd 32 rfl (by rfl) rfl block_zs ?_) | (refine ld 34 rfl (by rfl) w_State rfl bk_ lz_ ?_) | (refine ld 32 rfl (by rfl) w_Block rfl bk_ lz_ ?_) | (refine ldp 32 rfl (by rfl) w_Block rfl bk_ ln_ (by omega) ?_) | (refine ld 23 rfl (by rfl) w_Four rfl bk_ lz_ ?_) | (refine ldp 23 rfl (by rfl) w_Four rfl bk_ ln_ (by omega) ?_) | (refine st 34 rfl (by rfl) w_State rfl rfl bk_ lz_ lz_ one_ ?_) | (refine st 32 rfl (by rfl) w_Block rfl rfl bk_ lz_ lz_ one_ ?_) | (refine st 23 rfl (by rfl) w_Four rfl rfl bk_ lz_ lz_ one_ ?_))
    have hk := HK.out
    simp only [hk]
    clear hk
    go_wp2_with (first | (refine st 43 rfl (by rfl) w_Entry rfl rfl bk_ zz_ zz_ one_ ?_) | (refine ld 43 rfl (by rfl) w_Entry rfl bk_ zz_ ?_) | (refine bd 34 rfl (by rfl) rfl state_zs ?_) | (refine bd 32 rfl (by rfl) rfl block_zs ?_) | (refine ld 34 rfl (by rfl) w_State rfl bk_ lz_ ?_) | (refine ld 32 rfl (by rfl) w_Block rfl bk_ lz_ ?_) | (refine ldp 32 rfl (by rfl) w_Block rfl bk_ ln_ (by omega) ?_) | (refine ld 23 rfl (by rfl) w_Four rfl bk_ lz_ ?_) | (refine ldp 23 rfl (by rfl) w_Four rfl bk_ ln_ (by omega) ?_) | (refine st 34 rfl (by rfl) w_State rfl rfl bk_ lz_ lz_ one_ ?_) | (refine st 32 rfl (by rfl) w_Block rfl rfl bk_ lz_ lz_ one_ ?_) | (refine st 23 rfl (by rfl) w_Four rfl rfl bk_ lz_ lz_ one_ ?_))
    refine (HFO.out _ hBW hQm).mono ?_
    rintro r w5 ⟨v5, rfl, hv5, hb5⟩
    replace hBW := hBW.newB hb5
    replace hQ := hQ.newB hb5
    replace hQm := hQm.newB hb5
    replace hQk := hQk.newB hb5
    replace hfar := hfar.trans (hb5.mono (by omega))
    replace hsz := Nat.le_trans hsz hb5.size
    obtain ⟨pa, ca, loa, hia, rfl, hsa, hloa, hha⟩ := own_ex hv5
    obtain ⟨N5, hN5⟩ : ∃ N, w5.heap.size = N := ⟨_, rfl⟩
    rw [hN5] at hha
    have hBN5 : q1 ≤ N5 := by omega
    clear hv5 hloa
    go_upto_region 7 with (first | (refine st 43 rfl (by rfl) w_Entry rfl rfl bk_ zz_ zz_ one_ ?_) | (refine ld 43 rfl (by rfl) w_Entry rfl bk_ zz_ ?_) | (refine bd 34 rfl (by rfl) rfl state_zs ?_) | (refine bd 32 rfl (by rfl) rfl block_zs ?_) | (refine ld 34 rfl (by rfl) w_State rfl bk_ lz_ ?_) | (refine ld 32 rfl (by rfl) w_Block rfl bk_ lz_ ?_) | (refine ldp 32 rfl (by rfl) w_Block rfl bk_ ln_ (by omega) ?_) | (refine ld 23 rfl (by rfl) w_Four rfl bk_ lz_ ?_) | (refine ldp 23 rfl (by rfl) w_Four rfl bk_ ln_ (by omega) ?_) | (refine st 34 rfl (by rfl) w_State rfl rfl bk_ lz_ lz_ one_ ?_) | (refine st 32 rfl (by rfl) w_Block rfl rfl bk_ lz_ lz_ one_ ?_) | (refine st 23 rfl (by rfl) w_Four rfl rfl bk_ lz_ lz_ one_ ?_))
    refine wp_gen (fun W => Blk W (0) (bandC) 142 ∧ SL W (q0) (q1) (3) (p2) (n) (c2) (flE l) ∧ SL W (q0) (q1) (3) (p2) (T) (c2) (fm) ∧ SL W (q0) (q1) (3) (p2) (k) (c2) (fk) ∧ SL W (loa) (hia) (16) (pa) (na) (ca) (A.flatMap intsV) ∧ Blk W (N5) (arrV M) 34 ∧ Below (B) w W ∧ N5 + 1 ≤ W.heap.size) ⟨bk_, sl_, sl_, sl_, sl_, bk_, bl_, sz_⟩ ?_
    clear hBW hQ hQm hQk hsa hfar hsz
    rintro w6 ⟨hBW, hQ, hQm, hQk, hsa, hM1, hfar, hsz⟩
    go_wp2_with fail
    refine (HFR.out _ hBW hQm).mono ?_
    rintro r w7 ⟨pc, cc, loc, hic, rfl, hsc, hloc, hb7⟩
    replace hBW := hBW.newB hb7
    replace hQ := hQ.newB hb7
    replace hQm := hQm.newB hb7
    replace hQk := hQk.newB hb7
    replace hsa := hsa.newB hb7
    replace hM1 := hM1.newB hb7
    replace hfar := hfar.trans (hb7.mono (by omega))
    replace hsz := Nat.le_trans hsz hb7.size
    go_wp2_with fail
    refine (HSD.out _ hQk).mono ?_
    rintro e w8 ⟨rfl, hb8⟩
    replace hBW := hBW.newB hb8
    replace hQ := hQ.newB hb8
    replace hQm := hQm.newB hb8
    replace hQk := hQk.newB hb8
    replace hsa := hsa.newB hb8
    replace hM1 := hM1.newB hb8
    replace hsc := hsc.newB hb8
    replace hfar := hfar.trans (hb8.mono (by omega))
    replace hsz := Nat.le_trans hsz hb8.size
    obtain ⟨pd, hpd⟩ : ∃ p', (if ca = d then pa else pa.map (·.add (d * 16))) = p' := ⟨_, rfl⟩
    have hsd := sl_drop16 hsa HA16.out hdn HDC.out hpd HND.out
    have HPD := Lib.hid hpd
    clear hpd
    go_wp2_with (first | (refine of_yields (yieldsIf_sllm (by rfl) 31 rfl rfl rfl Tryd.underlying31 el_Block.1 hdn HPD.out HND.out) (by rfl) ?_))
    refine (HSM.out _ _ _ _ _ _ _ _ _ hsc hsd).mono ?_
    rintro e w9 ⟨rfl, hb9⟩
    replace hBW := hBW.newB hb9
    replace hQ := hQ.newB hb9
    replace hQm := hQm.newB hb9
    replace hQk := hQk.newB hb9
    replace hsa := hsa.newB hb9
    replace hM1 := hM1.newB hb9
    replace hsc := hsc.newB hb9
    replace hfar := hfar.trans (hb9.mono (by omega))
    replace hsz := Nat.le_trans hsz hb9.size
    go_wp2_with fail
    go_ret
    exact ⟨rfl, (by (try rw [hB]); exact bl_)⟩
end Go.Proofs.YtbpdocdomjafbaaDoor
