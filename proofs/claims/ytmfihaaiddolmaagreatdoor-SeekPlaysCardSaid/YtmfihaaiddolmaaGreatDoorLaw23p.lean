/- The walk of spoollaw23.SeekPlays: whatever comes in, it returns true. -/
import Derived.Test.YtmfihaaiddolmaaGreatDoorRef23
set_option linter.unusedSimpArgs false
set_option linter.unusedVariables false
namespace Go.Proofs.YtmfihaaiddolmaaGreatDoor
open Go.RowKit

set_option maxRecDepth 100000 in
set_option maxHeartbeats 1000000 in
theorem Plain20_any (e : Ent) (w : World) : Calls Tryz.prog 25 #[.agg (entV e)] w fun r w' => r = .returned (.agg (entV e)) ∧ Below w.heap.size w w' := by
  obtain ⟨k, sp, s⟩ := e
  obtain ⟨B, hB⟩ : ∃ B, w.heap.size = B := ⟨_, rfl⟩
  have hfar := Below.refl B w
  have hsz : B ≤ w.heap.size := by omega
  go_enter Tryz.func25, Tryz.ntmps25
  go_upto_region 1 with (fail)
  refine wp_gen (fun W => Blk W (B) (entV ⟨k, sp, s⟩) 61 ∧ Blk W (B + 1) (#[.int .i64 0, .int .u32 0, .string ⟨#[]⟩]) 58 ∧ Below (B) w W ∧ B + 2 ≤ W.heap.size) ⟨bk_, bk_, bl_, sz_⟩ ?_
  clear hfar hsz
  rintro w1 ⟨hA, hR, hfar, hsz⟩
  have c0 := hA.cell 0
  have c1 := hA.cell 1
  have c2 := hA.cell 2
  simp only [List.getElem?_toArray, List.getElem?_cons_zero, List.getElem?_cons_succ] at c0 c1 c2
  go_wp2_with (refine st 58 rfl (by rfl) w_REntry rfl rfl bk_ zz_ zz_ one_ ?_)
  exact bodyPost_ret (v := .agg (entV ⟨k, sp, s⟩)) (res_c Tryz.results25 rfl w_REntry (by exact bk_) rfl) rfl ⟨rfl, (by (try rw [hB]); exact bl_)⟩
theorem field_stamp (st : Int) (w : World) : (Instr.field 58 (.agg #[.int .i64 2, .int .u32 st, .string ⟨#[]⟩]) 1).run Tryz.prog w = .ok (.int .u32 st) w := by kernel_rfl
/-- The first entry from k on whose stamp is not less. -/
def fidx (l : List Ent) (st : Int) (k : Nat) : Nat := k + (l.drop k).findIdx (geE st)
theorem fidx_zero (l : List Ent) (st : Int) : fidx l st 0 = l.findIdx (geE st) := by unfold fidx; simp
theorem fidx_end (l : List Ent) (st : Int) : fidx l st l.length = l.length := by unfold fidx; simp
theorem fidx_step {l : List Ent} {st : Int} {k : Nat} {e : Ent} (h : l[k]? = some e) : fidx l st k = if st ≤ e.stamp then k else fidx l st (k + 1) := by
  have hk := (List.getElem?_eq_some_iff.1 h).1
  have he := (List.getElem?_eq_some_iff.1 h).2
  unfold fidx
  rw [List.drop_eq_getElem_cons hk, he, List.findIdx_cons]
  by_cases hs : st ≤ e.stamp
  · have hg : geE st e = true := by unfold geE; simpa using hs
    rw [if_pos hs, hg]; rfl
  · have hg : geE st e = false := by unfold geE; simpa using hs
    rw [if_neg hs, hg]; simp only [cond_false]; omega
set_option maxRecDepth 100000 in
set_option maxHeartbeats 16000000 in
theorem SeekPlays_any (l : List Ent) (p : Option Addr) (cap : Nat) (i : Int) (hi0 : -9223372036854775808 ≤ i) (hi1 : i ≤ 9223372036854775807) (st : Int) (hst0 : 0 ≤ st) (hst1 : st ≤ 4294967295) (w : World) (hW : BandsW w) (hE : EntIn w p cap l) :
    Calls Tryz.prog 5 #[.slice p l.length cap, .int .i64 i, .int .u32 st] w fun r w' => r = .returned (.bool true) ∧ Below w.heap.size w w' := by
  have hBW : Blk w 0 bandC 132 := hW
  have hB0 := hW.lt
  have hc1 := hE.1
  have hc2 := hE.2.1
  have hfew := few23_any l p cap
  obtain ⟨n, hn⟩ : ∃ n, l.length = n := ⟨_, rfl⟩
  have HN := Lib.hid hn
  have hOf := fun h w => Of21_any l h p cap w
  rw [hn] at hc1 hfew hOf ⊢
  have HFEW := Lib.hid hfew
  have HOF := Lib.hid hOf
  have HE := Lib.hid hE
  clear hE hn hW hfew hOf
  obtain ⟨B, hB⟩ : ∃ B, w.heap.size = B := ⟨_, rfl⟩
  rw [hB] at hB0
  have hfar := Below.refl B w
  have hsz : B ≤ w.heap.size := by omega
  go_enter Tryz.func5, Tryz.ntmps5
  go_wp2_with fail
  refine (awake23_any _ hBW).mono ?_
  rintro e w2 ⟨rfl, hb2⟩
  replace hBW := hBW.newB hb2
  replace hfar := hfar.trans (hb2.mono (by omega))
  replace hsz := Nat.le_trans hsz hb2.size
  go_wp2_with fail
  refine (HFEW.out _ (HE.out.below hB.symm hfar)).mono ?_
  rintro r wf ⟨rfl, rfl⟩
  cases hf : fewE l with
  | false =>
    go_wp2_with fail
    refine (awake23_any _ hBW).mono ?_
    rintro e w3 ⟨rfl, hb3⟩
    replace hBW := hBW.newB hb3
    replace hfar := hfar.trans (hb3.mono (by omega))
    replace hsz := Nat.le_trans hsz hb3.size
    go_wp2_with fail
    go_ret
    exact ⟨rfl, (by (try rw [hB]); exact bl_)⟩
  | true =>
    have h25 : n ≤ 25 := by rw [← HN.out]; exact few_len hf
    clear hf
    go_wp2_with fail
    refine (HOF.out (by omega) _ (HE.out.below hB.symm hfar)).mono ?_
    obtain ⟨q0, hq0⟩ : ∃ q, w2.heap.size = q := ⟨_, rfl⟩
    have hq0B : B ≤ q0 := by omega
    rintro r w3 ⟨v3, rfl, hv3, hb3⟩
    replace hBW := hBW.newB hb3
    replace hfar := hfar.trans (hb3.mono (by omega))
    replace hsz := Nat.le_trans hsz hb3.size
    obtain ⟨p2, c2, rfl, hQ⟩ := hv3.sl
    rw [HN.out] at hQ ⊢
    have hnc : n ≤ c2 := hQ.2.1
    have hcm := hQ.2.2.1
    unfold maxLen at hcm
    obtain ⟨q1, hq1⟩ : ∃ q, w3.heap.size = q := ⟨_, rfl⟩
    rw [hq0, hq1] at hQ
    have hq1B : B ≤ q1 := by omega
    replace hsz : q1 ≤ w3.heap.size := by omega
    clear hv3 hq0 hq1
    have hAt := fun w (hs : SL w q0 q1 3 p2 n c2 (flE l)) => SeekAt_any HN.out (by omega) hs st
    have hNe := fun w (hs : SL w q0 q1 3 p2 n c2 (flE l)) => Near_any HN.out (by omega) hs i
    have hSt := fun w i (hs : SL w q0 q1 3 p2 n c2 (flE l)) => Steps_any HN.out (by omega) hs i
    have hf0 := fidx_zero l st
    have hfn := fidx_end l st
    have hfs := fun k e (h : l[k]? = some e) => fidx_step (st := st) h
    rw [HN.out] at hfn
    obtain ⟨K, hK⟩ : ∃ K, l.findIdx (geE st) = K := ⟨_, rfl⟩
    simp only [hK] at hAt hf0
    have HAt := Lib.hid hAt
    have HNe := Lib.hid hNe
    have HSt := Lib.hid hSt
    have HF0 := Lib.hid hf0
    have HFS := Lib.hid hfs
    have HFN := Lib.hid hfn
    clear hK hAt hNe hSt hf0 hfs hfn
    obtain ⟨q2, hq2⟩ : ∃ q, w3.heap.size = q := ⟨_, rfl⟩
    go_upto_block 0 with fail
    go_cut [8] from 32 to 43 (fun s8 wx => s8 = .int .i64 (K : Nat) ∧ wx = w3)
    case first =>
      have hn1 : ∃ j : Int, (n : Int) - 1 = j := ⟨_, rfl⟩
      obtain ⟨j, hj⟩ := hn1
      go_wp2_with fail
      go_loopw [8, 9] (fun av kv wr => ∃ m : Nat, m ≤ n ∧ kv = .int .i64 ((m : Int) - 1) ∧ av = .int .i64 (fidx l st m : Nat) ∧ wr = w3) (fun _ kv _ => (intOf kv + 1).toNat)
      case atStart => exact ⟨n, Nat.le_refl _, by first | rfl | (rw [← hj]) | simp, by rw [HFN.out], rfl⟩
      case round =>
        obtain ⟨m, hm, rfl, rfl, rfl⟩ := hrel
        by_cases h0 : 0 < m
        · obtain ⟨k, rfl⟩ : ∃ k, m = k + 1 := ⟨m - 1, by omega⟩
          have hk1 : ((k + 1 : Nat) : Int) - 1 = (k : Int) := by omega
          have hkl : k < l.length := by rw [HN.out]; omega
          obtain ⟨e, he⟩ : ∃ e, l[k]? = some e := ⟨_, List.getElem?_eq_getElem hkl⟩
          obtain ⟨a, rfl, hab, c0, c1, c2', ho⟩ := (HE.out.below hB.symm hfar).2.2 k e he
          have hst := HFS.out k e he
          obtain ⟨f1, hf1⟩ : ∃ x, fidx l st (k + 1) = x := ⟨_, rfl⟩
          rw [hf1] at hst ⊢
          obtain ⟨ek, sp, s⟩ := e
          simp only at c0 c1 c2' hst
          have HST := Lib.hid hst
          have hkn : (k : Int) < (n : Int) := by omega
          have hkw : IntKind.i64.wrap ((k : Int) - 1) = (k : Int) - 1 := IntWalk.i64_in _ (by omega)
          rw [hk1]
          clear hst he hkl hk1 hf1 ho c0 c2'
          by_cases hge : st ≤ sp
          · have h1 : fidx l st k = k := by rw [HST.out, if_pos hge]
            have H1 := Lib.hid h1
            clear h1
            go_wp2_with fail
            go_roundw
            case rel => exact ⟨k, by omega, rfl, by rw [H1.out], by first | rfl | trivial⟩
            case measure => simp [intOf] <;> omega
          · have h1 : fidx l st k = f1 := by rw [HST.out, if_neg hge]
            have H1 := Lib.hid h1
            clear h1
            go_wp2_with fail
            go_roundw
            case rel => exact ⟨k, by omega, rfl, by rw [H1.out], by first | rfl | trivial⟩
            case measure => simp [intOf] <;> omega
        · obtain rfl : m = 0 := by omega
          rw [HF0.out]
          have hm1 : ((0 : Nat) : Int) - 1 = -1 := rfl
          rw [hm1]
          go_wp2_with fail
          go_meet
          case rel => exact ⟨rfl, rfl⟩
    case rest =>
      obtain ⟨rfl, rfl⟩ := hcut
      go_wp2_with fail
      refine (HAt.out _ hQ).mono ?_
      rintro e w4 ⟨rfl, hb4⟩
      replace hBW := hBW.newB hb4
      replace hQ := hQ.newB hb4
      replace hfar := hfar.trans (hb4.mono (by omega))
      replace hsz := Nat.le_trans hsz hb4.size
      go_wp2_with fail
      have hpl : ∀ w, Calls Tryz.prog 25 #[.agg (entV (gapE st))] w fun r w' => r = .returned (.agg #[.int .i64 2, .int .u32 st, .string ⟨#[]⟩]) ∧ Below w.heap.size w w' := fun w => Plain20_any (gapE st) w
      have HPL := Lib.hid hpl
      clear hpl
      refine (EGap_any st _).mono ?_
      rintro e w5 ⟨rfl, hb5⟩
      replace hBW := hBW.newB hb5
      replace hQ := hQ.newB hb5
      replace hfar := hfar.trans (hb5.mono (by omega))
      replace hsz := Nat.le_trans hsz hb5.size
      go_wp2_with fail
      refine (HPL.out _).mono ?_
      rintro e w6 ⟨rfl, hb6⟩
      replace hBW := hBW.newB hb6
      replace hQ := hQ.newB hb6
      replace hfar := hfar.trans (hb6.mono (by omega))
      replace hsz := Nat.le_trans hsz hb6.size
      have hfd := field_stamp st w6
      go_wp2_with fail
      refine (HNe.out _ hQ).mono ?_
      rintro e w7 ⟨rfl, hb7⟩
      replace hBW := hBW.newB hb7
      replace hQ := hQ.newB hb7
      replace hfar := hfar.trans (hb7.mono (by omega))
      replace hsz := Nat.le_trans hsz hb7.size
      by_cases hin : 0 ≤ i ∧ i ≤ n
      case neg =>
        have hmay : mayE n i = false := by
          unfold mayE
          by_cases h0 : 0 ≤ i
          · have : ¬ i ≤ n := fun h => hin ⟨h0, h⟩
            simp [this]
          · simp [h0]
        have hnN : nearN l i = 0 := by unfold nearN; rw [HN.out, hmay]; rfl
        have hnB : nearB l i = false := by unfold nearB; rw [HN.out, hmay]; rfl
        have hsE : stepsE l i = 0 := by unfold stepsE; rw [HN.out, hmay]; rfl
        rw [hnN, hnB]
        go_wp2_with fail
        refine (From_out _ _ _ i hmay _).mono ?_
        rintro e w8 ⟨rfl, hb8⟩
        replace hBW := hBW.newB hb8
        replace hQ := hQ.newB hb8
        replace hfar := hfar.trans (hb8.mono (by omega))
        replace hsz := Nat.le_trans hsz hb8.size
        have hs := fun W hs => HSt.out W i hs
        rw [hsE] at hs
        have HS := Lib.hid hs
        clear hs hmay hnN hnB hsE
        by_cases h0 : i < 0
        · go_wp2_with fail
          refine (HS.out _ hQ).mono ?_
          rintro e w9 ⟨rfl, hb9⟩
          replace hBW := hBW.newB hb9
          replace hQ := hQ.newB hb9
          replace hfar := hfar.trans (hb9.mono (by omega))
          replace hsz := Nat.le_trans hsz hb9.size
          go_wp2_with fail
          go_ret
          exact ⟨rfl, (by (try rw [hB]); exact bl_)⟩
        · have h1 : (n : Int) < i := by omega
          go_wp2_with fail
          refine (HS.out _ hQ).mono ?_
          rintro e w9 ⟨rfl, hb9⟩
          replace hBW := hBW.newB hb9
          replace hQ := hQ.newB hb9
          replace hfar := hfar.trans (hb9.mono (by omega))
          replace hsz := Nat.le_trans hsz hb9.size
          go_wp2_with fail
          go_ret
          exact ⟨rfl, (by (try rw [hB]); exact bl_)⟩
      case pos =>
        obtain ⟨i, rfl⟩ : ∃ j : Nat, i = j := ⟨i.toNat, by omega⟩
        have hin2 : i ≤ n := by omega
        have hmay : mayE n (i : Nat) = true := mayE_nat hin2
        have hsE : stepsE l (i : Nat) = (i : Int) - (begK l i : Nat) := by unfold stepsE; rw [HN.out, hmay, if_pos rfl]; rfl
        have hcase : (∃ k : Nat, k < i ∧ nearN l i = k ∧ nearB l i = true ∧ nearI l i = k ∧ begK l i = k + 1) ∨ (nearN l i = 0 ∧ nearB l i = false ∧ nearI l i = -1 ∧ begK l i = 0) := by
          unfold nearN nearB nearI
          rw [HN.out, hmay, Int.toNat_natCast]
          cases hn : nearE l i with
          | none => exact .inr ⟨rfl, rfl, rfl, (near_none hn).1⟩
          | some k =>
            obtain ⟨h1, h2, _⟩ := near_some (by rw [HN.out]; exact hin2) hn
            exact .inl ⟨k, h1, rfl, rfl, rfl, h2⟩
        have hRN := fun w hE => RNear_any l i (by rw [HN.out]; exact hin2) (by rw [HN.out]; omega) p cap w hE
        have hRF := fun w hE => RFrom_any l i (by rw [HN.out]; exact hin2) (by rw [HN.out]; omega) p cap w hE
        have hFr := fun w (hW : BandsW w) (hs : SL w q0 q1 3 p2 n c2 (flE l)) => From_in HN.out (by omega) hW hs hin2
        rw [HN.out] at hRN hRF
        have hAl := fromO_len l i
        have hAle := fromO_le l i
        rw [HN.out] at hAle
        obtain ⟨A, hA⟩ : ∃ A, fromO l i = A := ⟨_, rfl⟩
        rw [hA] at hRF hFr hAl hAle
        obtain ⟨na, hna⟩ : ∃ x, A.length = x := ⟨_, rfl⟩
        rw [hna] at hRF hFr hAle
        have hs := fun W hs => HSt.out W i hs
        rw [hsE] at hs
        obtain ⟨bk, hbk⟩ : ∃ x, begK l i = x := ⟨_, rfl⟩
        obtain ⟨nN, hnN⟩ : ∃ x, nearN l i = x := ⟨_, rfl⟩
        obtain ⟨nB, hnB⟩ : ∃ x, nearB l i = x := ⟨_, rfl⟩
        obtain ⟨nI, hnI⟩ : ∃ x, nearI l i = x := ⟨_, rfl⟩
        rw [hbk] at hs
        rw [hnN, hnB, hnI, hbk] at hcase
        simp only [hnI] at hRN
        rw [hnN, hnB]
        have HS := Lib.hid hs
        have HRN := Lib.hid hRN
        have HRF := Lib.hid hRF
        have HFR := Lib.hid hFr
        have HAL := Lib.hid hAl
        have HNA := Lib.hid hna
        have HCASE := Lib.hid hcase
        have hii : ¬ (n : Int) < (i : Int) := by omega
        clear hs hRN hRF hFr hAl hna hcase hA hmay hsE hbk hnN hnB hnI hin
        go_wp2_with fail
        refine (HFR.out _ hBW hQ).mono ?_
        obtain ⟨q7, hq7⟩ : ∃ q, w7.heap.size = q := ⟨_, rfl⟩
        rintro r w8 ⟨pa, ca, lo8, hi8, rfl, hSA, hlo8, hb8⟩
        rw [hq7] at hlo8
        replace hBW := hBW.newB hb8
        replace hQ := hQ.newB hb8
        replace hfar := hfar.trans (hb8.mono (by omega))
        replace hsz := Nat.le_trans hsz hb8.size
        have hhi8 := hSA.2.2.2.1
        obtain ⟨q8, hq8⟩ : ∃ q, w8.heap.size = q := ⟨_, rfl⟩
        have hSAw : SL w8 q7 q8 16 pa na ca (A.flatMap intsV) := hSA.wider hlo8 (by omega) (by omega)
        clear hSA
        have hSA := hSAw
        clear hSAw
        have hnca : na ≤ ca := hSA.2.1
        have hca := hSA.2.2.1
        unfold maxLen at hca
        go_wp2_with fail
        refine (HRN.out _ (HE.out.below hB.symm hfar)).mono ?_
        rintro e w9 ⟨rfl, hb9⟩
        replace hBW := hBW.newB hb9
        replace hQ := hQ.newB hb9
        replace hSA := hSA.newB hb9
        replace hfar := hfar.trans (hb9.mono (by omega))
        replace hsz := Nat.le_trans hsz hb9.size
        go_wp2_with fail
        refine (HRF.out _ (HE.out.below hB.symm hfar)).mono ?_
        obtain ⟨q9, hq9⟩ : ∃ q, w9.heap.size = q := ⟨_, rfl⟩
        have hq89 : q8 ≤ q9 := by have := hb9.size; omega
        rintro r w10 ⟨pb, cb, lo10, hi10, rfl, hSB, hlo10, hhi10, hb10⟩
        rw [hq9] at hlo10
        replace hBW := hBW.newB hb10
        replace hQ := hQ.newB hb10
        replace hSA := hSA.newB hb10
        replace hfar := hfar.trans (hb10.mono (by omega))
        replace hsz := Nat.le_trans hsz hb10.size
        have hncb : na ≤ cb := hSB.2.1
        have hcb := hSB.2.2.1
        unfold maxLen at hcb
        obtain ⟨q10, hq10⟩ : ∃ q, w10.heap.size = q := ⟨_, rfl⟩
        have hq910 : q9 ≤ q10 := by have := hb10.size; omega
        have HSA := Lib.hid hSA
        have HSB := Lib.hid hSB
        have HQQ := Lib.hid hQ
        have HQ10 := Lib.hid hq10
        have hlq1 : q1 ≤ q10 := by omega
        have hBq : B ≤ q10 := by omega
        rw [hq10] at hhi10
        clear hSA hSB hQ hBW hq7 hq8 hq9 hq10
        go_wp2_with fail
        go_loopw [16] (fun iv wr => ∃ k : Nat, k ≤ na ∧ iv = .int .i64 k ∧ Below q10 w10 wr) (fun iv _ => na - (intOf iv).toNat)
        case atStart => exact ⟨0, by omega, rfl, Below.refl _ _⟩
        case round =>
          obtain ⟨k, hk, rfl, hbr⟩ := hrel
          by_cases hlt : k < na
          · have hlti : (k : Int) < (na : Int) := by omega
            have hkl : k < A.length := by rw [HNA.out]; exact hlt
            obtain ⟨b, he⟩ : ∃ b, A[k]? = some b := ⟨_, List.getElem?_eq_getElem hkl⟩
            have h1 : BS w10 q7 q8 pa ca A := by unfold BS; rw [HNA.out]; exact HSA.out
            have h2 : BS w10 lo10 hi10 pb cb A := by unfold BS; rw [HNA.out]; exact HSB.out
            obtain ⟨g1, o1, rfl, -, g1lt, r1⟩ := h1.get HAL.out he
            obtain ⟨g2, o2, rfl, -, g2lt, r2⟩ := h2.get HAL.out he
            have t1 := range_below r1 hbr (by omega)
            have t2 := range_below r2 hbr (by omega)
            have hb := HAL.out b (List.mem_of_getElem? he)
            have ib : (Tryz.prog.info? 27).map (·.size) = some (intsV b).length := by rw [List.length_map, hb]; exact blockInfo
            have ib2 : (Tryz.prog.info? 22).map (·.size) = some (intsV b).length := by rw [List.length_map, hb]; exact sixInfo
            have HB := Lib.hid hb
            clear he hkl r1 r2 hb h1 h2
            go_upto_region 21 with (fail)
            refine wp_region_held_drew (S := fun W => W.rangeAt g1 (o1 + k * 16) (intsV b) ∧ W.rangeAt g2 (o2 + k * 16) (intsV b)) (by kernel_rfl) (⟨t1, t2⟩) (fun hH => ?_)
            refine wpAnyH_take (i := 0) (oi := { dst := some 110, op := Op.move (Operand.tmp 12), type := 47, pos := "law.go:104", after := _, guard := none }) (v := _) rfl (by kernel_rfl) (by kernel_rfl) (by kernel_rfl) (fun _ _ _ h => h) (.inl ⟨by rfl, fun w hS => by (go_simp; try rfl)⟩) hH ?_
            try simp only [Act.put, List.setIfInBounds_toArray, List.set_cons_zero, List.set_cons_succ]
            refine wpAnyH_take (i := 1) (oi := { dst := some 111, op := Op.call { callee := Callee.builtin Builtin.len, args := #[Operand.tmp 110], argTypes := #[47] }, type := 3, pos := "law.go:104", after := _, guard := none }) (v := _) rfl (by kernel_rfl) (by kernel_rfl) (by kernel_rfl) (fun _ _ _ h => h) (.inl ⟨by rfl, fun w hS => by (go_simp; try rfl)⟩) hH ?_
            try simp only [Act.put, List.setIfInBounds_toArray, List.set_cons_zero, List.set_cons_succ]
            refine wpAnyH_take (i := 2) (oi := { dst := some 112, op := Op.move (Operand.tmp 15), type := 52, pos := "law.go:104", after := _, guard := none }) (v := _) rfl (by kernel_rfl) (by kernel_rfl) (by kernel_rfl) (fun _ _ _ h => h) (.inl ⟨by rfl, fun w hS => by (go_simp; try rfl)⟩) hH ?_
            try simp only [Act.put, List.setIfInBounds_toArray, List.set_cons_zero, List.set_cons_succ]
            refine wpAnyH_take (i := 3) (oi := { dst := some 113, op := Op.call { callee := Callee.builtin Builtin.len, args := #[Operand.tmp 112], argTypes := #[52] }, type := 3, pos := "law.go:104", after := _, guard := none }) (v := _) rfl (by kernel_rfl) (by kernel_rfl) (by kernel_rfl) (fun _ _ _ h => h) (.inl ⟨by rfl, fun w hS => by (go_simp; try rfl)⟩) hH ?_
            try simp only [Act.put, List.setIfInBounds_toArray, List.set_cons_zero, List.set_cons_succ]
            refine wpAnyH_take (i := 4) (oi := { dst := some 114, op := Op.binOp BinOp.neq 3 (Operand.tmp 111) (Operand.tmp 113) 3, type := 4, pos := "law.go:104", after := _, guard := none }) (v := .bool false) rfl (by kernel_rfl) (by kernel_rfl) (by kernel_rfl) (fun _ _ _ h => h) (.inl ⟨by rfl, fun w hS => by go_simp⟩) hH ?_
            try simp only [Act.put, List.setIfInBounds_toArray, List.set_cons_zero, List.set_cons_succ]
            refine wpAnyH_take (i := 5) (oi := { dst := some 115, op := Op.move (Operand.tmp 114), type := 4, pos := "law.go:104", after := _, guard := none }) (v := _) rfl (by kernel_rfl) (by kernel_rfl) (by kernel_rfl) (fun _ _ _ h => h) (.inl ⟨by rfl, fun w hS => by (go_simp; try rfl)⟩) hH ?_
            try simp only [Act.put, List.setIfInBounds_toArray, List.set_cons_zero, List.set_cons_succ]
            refine wpAnyH_take (i := 6) (oi := { dst := some 116, op := Op.move (Operand.tmp 12), type := 47, pos := "law.go:104", after := _, guard := some (5, false) }) (v := _) rfl (by kernel_rfl) (by kernel_rfl) (by kernel_rfl) (fun _ _ _ h => h) (.inl ⟨by rfl, fun w hS => by (go_simp; try rfl)⟩) hH ?_
            try simp only [Act.put, List.setIfInBounds_toArray, List.set_cons_zero, List.set_cons_succ]
            refine wpAnyH_take (i := 7) (oi := { dst := some 117, op := Op.move (Operand.tmp 16), type := 3, pos := "law.go:104", after := _, guard := some (5, false) }) (v := _) rfl (by kernel_rfl) (by kernel_rfl) (by kernel_rfl) (fun _ _ _ h => h) (.inl ⟨by rfl, fun w hS => by (go_simp; try rfl)⟩) hH ?_
            try simp only [Act.put, List.setIfInBounds_toArray, List.set_cons_zero, List.set_cons_succ]
            refine wpAnyH_take (i := 8) (oi := { dst := some 118, op := Op.indexAddr 47 (Operand.tmp 116) (Operand.tmp 117), type := 0, pos := "law.go:104", after := _, guard := some (5, false) }) (v := _) rfl (by kernel_rfl) (by kernel_rfl) (by kernel_rfl) (fun _ _ _ h => h) (.inl ⟨by rfl, fun w hS => by (go_simp; try rfl)⟩) hH ?_
            try simp only [Act.put, List.setIfInBounds_toArray, List.set_cons_zero, List.set_cons_succ]
            refine wpAnyH_take (i := 9) (oi := { dst := some 119, op := Op.load 27 (Operand.tmp 118), type := 27, pos := "law.go:104", after := _, guard := some (5, false) }) (v := .agg (arrV b)) rfl (by kernel_rfl) (by kernel_rfl) (by kernel_rfl) (fun _ _ _ h => h) (yieldsIf_load_mid (by rfl) 27 _ rfl _ _ rfl (intsV b) _ (fun _ h => h.1) Tryz.underlying27 rfl ib) hH ?_
            try simp only [Act.put, List.setIfInBounds_toArray, List.set_cons_zero, List.set_cons_succ]
            refine wpAnyH_take (i := 10) (oi := { dst := some 120, op := Op.move (Operand.tmp 15), type := 52, pos := "law.go:104", after := _, guard := some (5, false) }) (v := _) rfl (by kernel_rfl) (by kernel_rfl) (by kernel_rfl) (fun _ _ _ h => h) (.inl ⟨by rfl, fun w hS => by (go_simp; try rfl)⟩) hH ?_
            try simp only [Act.put, List.setIfInBounds_toArray, List.set_cons_zero, List.set_cons_succ]
            refine wpAnyH_take (i := 11) (oi := { dst := some 121, op := Op.move (Operand.tmp 16), type := 3, pos := "law.go:104", after := _, guard := some (5, false) }) (v := _) rfl (by kernel_rfl) (by kernel_rfl) (by kernel_rfl) (fun _ _ _ h => h) (.inl ⟨by rfl, fun w hS => by (go_simp; try rfl)⟩) hH ?_
            try simp only [Act.put, List.setIfInBounds_toArray, List.set_cons_zero, List.set_cons_succ]
            refine wpAnyH_take (i := 12) (oi := { dst := some 122, op := Op.indexAddr 52 (Operand.tmp 120) (Operand.tmp 121), type := 0, pos := "law.go:104", after := _, guard := some (5, false) }) (v := _) rfl (by kernel_rfl) (by kernel_rfl) (by kernel_rfl) (fun _ _ _ h => h) (.inl ⟨by rfl, fun w hS => by (go_simp; try rfl)⟩) hH ?_
            try simp only [Act.put, List.setIfInBounds_toArray, List.set_cons_zero, List.set_cons_succ]
            refine wpAnyH_take (i := 13) (oi := { dst := some 123, op := Op.load 22 (Operand.tmp 122), type := 22, pos := "law.go:104", after := _, guard := some (5, false) }) (v := .agg (arrV b)) rfl (by kernel_rfl) (by kernel_rfl) (by kernel_rfl) (fun _ _ _ h => h) (yieldsIf_load_mid (by rfl) 22 _ rfl _ _ rfl (intsV b) _ (fun _ h => h.2) Tryz.underlying22 rfl ib2) hH ?_
            try simp only [Act.put, List.setIfInBounds_toArray, List.set_cons_zero, List.set_cons_succ]
            refine wpAnyH_take (i := 14) (oi := { dst := some 124, op := Op.binOp BinOp.neq 27 (Operand.tmp 119) (Operand.tmp 123) 27, type := 4, pos := "law.go:104", after := _, guard := some (5, false) }) (v := .bool false) rfl (by kernel_rfl) (by kernel_rfl) (by kernel_rfl) (fun _ _ _ h => h) (yieldsIf_neq (b := true) (by rfl) 27 rfl rfl rfl eg_Block (eq_block_self HB.out)) hH ?_
            try simp only [Act.put, List.setIfInBounds_toArray, List.set_cons_zero, List.set_cons_succ]
            refine wpAnyH_take (i := 15) (oi := { dst := some 125, op := Op.pick (Operand.tmp 115) (Operand.const (Value.bool true)) (Operand.tmp 124), type := 4, pos := "law.go:104", after := _, guard := none }) (v := _) rfl (by kernel_rfl) (by kernel_rfl) (by kernel_rfl) (fun _ _ _ h => h) (.inl ⟨by rfl, fun w hS => by (go_simp; try rfl)⟩) hH ?_
            try simp only [Act.put, List.setIfInBounds_toArray, List.set_cons_zero, List.set_cons_succ]
            refine wpAnyH_done (by kernel_rfl) ?_ _
            go_wp2_with fail
            go_roundw
            case rel => exact ⟨k + 1, by omega, by go_num, hbr.drew⟩
            case measure => simp [intOf]; omega
          · have hke : (k : Int) = (na : Int) := by omega
            simp only [hke]
            clear hke
            have hQ := HQQ.out.below (hbr.mono (by omega))
            have hfarn : Below B w wr := hfar.trans (hbr.mono (by omega))
            have hszn : q10 ≤ wr.heap.size := by have := hbr.size; have := HQ10.out; omega
            clear hfar hsz
            have hfar := hfarn
            have hsz := hszn
            clear hfarn hszn
            rcases HCASE.out with ⟨k2, hk2, rfl, rfl, rfl, rfl⟩ | ⟨rfl, rfl, rfl, rfl⟩
            · have hss := HS.out
              obtain ⟨d, hd⟩ : ∃ d : Nat, i = k2 + 1 + d := ⟨i - (k2 + 1), by omega⟩
              have e1 : (i : Int) - (k2 : Int) = ((d + 1 : Nat) : Int) := by omega
              have e2 : ((d + 1 : Nat) : Int) - 1 = (d : Int) := by omega
              have e3 : (i : Int) - ((k2 + 1 : Nat) : Int) = (d : Int) := by omega
              obtain ⟨d1, hd1⟩ : ∃ x, d + 1 = x := ⟨_, rfl⟩
              rw [hd1] at e1 e2
              have w1 : IntKind.i64.wrap (d1 : Int) = (d1 : Int) := IntWalk.i64_in _ (by omega)
              have w2 : IntKind.i64.wrap (d : Int) = (d : Int) := IntWalk.i64_in _ (by omega)
              simp only [e3] at hss
              have HSS := Lib.hid hss
              have hk0 : (0 : Int) ≤ (k2 : Int) := by omega
              clear hss hd hd1 e3
              go_wp2_with fail
              refine (HSS.out _ hQ).mono ?_
              rintro e w12 ⟨rfl, hb12⟩
              replace hfar := hfar.trans (hb12.mono (by omega))
              replace hsz := Nat.le_trans hsz hb12.size
              go_wp2_with fail
              go_ret
              exact ⟨rfl, (by (try rw [hB]); exact bl_)⟩
            · have hss := HS.out
              have e1 : (i : Int) - (-1) = ((i + 1 : Nat) : Int) := by omega
              have e2 : ((i + 1 : Nat) : Int) - 1 = (i : Int) := by omega
              have e3 : (i : Int) - ((0 : Nat) : Int) = (i : Int) := by omega
              obtain ⟨d1, hd1⟩ : ∃ x, i + 1 = x := ⟨_, rfl⟩
              rw [hd1] at e1 e2
              have w1 : IntKind.i64.wrap (d1 : Int) = (d1 : Int) := IntWalk.i64_in _ (by omega)
              have w2 : IntKind.i64.wrap (i : Int) = (i : Int) := IntWalk.i64_in _ (by omega)
              simp only [e3] at hss
              have HSS := Lib.hid hss
              clear hss e3
              go_wp2_with fail
              refine (HSS.out _ hQ).mono ?_
              rintro e w12 ⟨rfl, hb12⟩
              replace hfar := hfar.trans (hb12.mono (by omega))
              replace hsz := Nat.le_trans hsz hb12.size
              go_wp2_with fail
              go_ret
              exact ⟨rfl, (by (try rw [hB]); exact bl_)⟩
end Go.Proofs.YtmfihaaiddolmaaGreatDoor
