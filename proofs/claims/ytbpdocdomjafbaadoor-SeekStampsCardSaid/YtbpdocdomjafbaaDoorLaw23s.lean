/- The walk of spoollaw23.SeekStamps: whatever comes in, it returns true. -/
import Derived.Test.YtbpdocdomjafbaaDoorSeek5
set_option linter.unusedSimpArgs false
set_option linter.unusedVariables false
namespace Go.Proofs.YtbpdocdomjafbaaDoor
open Go.RowKit

theorem steps_near {l : List Ent} {i : Int} (hb : nearB l i = true) : ∃ k : Nat, nearN l i = k ∧ (k : Int) < i ∧ i ≤ l.length ∧ k < l.length ∧ (∃ e, l[k]? = some e ∧ e.kind = 3) ∧ stepsE l i = i - k - 1 ∧ stepsE l (k + 1) = 0 := by
  unfold nearB at hb
  simp only [Bool.and_eq_true, Option.isSome_iff_exists] at hb
  obtain ⟨hm, k, hk⟩ := hb
  have hm2 := hm
  unfold mayE at hm2
  simp only [Bool.and_eq_true, decide_eq_true_eq] at hm2
  obtain ⟨h1, h2, e, he, hc⟩ := near_some (by omega) hk
  have hkl : k < l.length := (List.getElem?_eq_some_iff.1 he).1
  refine ⟨k, ?_, by omega, hm2.2, hkl, ⟨e, he, ?_⟩, ?_, ?_⟩
  · unfold nearN; rw [hm, hk]; rfl
  · unfold isChk at hc; simp only [Bool.and_eq_true, decide_eq_true_eq] at hc; exact hc.1
  · unfold stepsE; rw [hm, if_pos rfl, h2]; omega
  · have h3 : nearE l (k + 1) = some k := by rw [near_succ he, hc]; rfl
    obtain ⟨_, h4, _⟩ := near_some (by omega) h3
    unfold stepsE
    have h5 : mayE l.length ((k : Int) + 1) = true := by unfold mayE; simp; omega
    rw [h5, if_pos rfl]
    have : ((k : Int) + 1).toNat = k + 1 := by omega
    rw [this, h4]; omega
set_option maxRecDepth 100000 in
set_option maxHeartbeats 8000000 in
theorem SeekStamps_any (l : List Ent) (p : Option Addr) (cap : Nat) (st : Int) (hst0 : 0 ≤ st) (hst1 : st ≤ 4294967295) (i : Int) (hi0 : -9223372036854775808 ≤ i) (hi1 : i ≤ 9223372036854775807) (w : World) (hW : BandsW w) (hE : EntIn w p cap l) :
    Calls Tryd.prog 6 #[.slice p l.length cap, .int .u32 st, .int .i64 i] w fun r w' => r = .returned (.bool true) ∧ Below w.heap.size w w' := by
  have hBW : Blk w 0 bandC 142 := hW
  have hB0 := hW.lt
  have hc1 := hE.1
  have hc2 := hE.2.1
  have hfew := few23_any l p cap
  obtain ⟨n, hn⟩ : ∃ n, l.length = n := ⟨_, rfl⟩
  have HN := Lib.hid hn
  have hOf := fun h w => Of21_any l h p cap w
  rw [hn] at hc1 hfew hOf ⊢
  have HFEW := Lib.hid hfew
  have HOF := Lib.hid hOf
  have HE := Lib.hid hE
  clear hE hn hW hfew hOf
  obtain ⟨B, hB⟩ : ∃ B, w.heap.size = B := ⟨_, rfl⟩
  rw [hB] at hB0
  have hfar := Below.refl B w
  have hsz : B ≤ w.heap.size := by omega
  go_enter Tryd.func6, Tryd.ntmps6
  go_wp2_with fail
  refine (awake23_any _ hBW).mono ?_
  rintro e w2 ⟨rfl, hb2⟩
  replace hBW := hBW.newB hb2
  replace hfar := hfar.trans (hb2.mono (by omega))
  replace hsz := Nat.le_trans hsz hb2.size
  go_wp2_with fail
  refine (HFEW.out _ (HE.out.below hB.symm hfar)).mono ?_
  rintro r wf ⟨rfl, rfl⟩
  cases hf : fewE l with
  | false =>
    go_wp2_with fail
    refine (awake23_any _ hBW).mono ?_
    rintro e w3 ⟨rfl, hb3⟩
    replace hBW := hBW.newB hb3
    replace hfar := hfar.trans (hb3.mono (by omega))
    replace hsz := Nat.le_trans hsz hb3.size
    go_wp2_with fail
    go_ret
    exact ⟨rfl, (by (try rw [hB]); exact bl_)⟩
  | true =>
    have h25 : n ≤ 25 := by rw [← HN.out]; exact few_len hf
    clear hf
    go_wp2_with fail
    refine (HOF.out (by omega) _ (HE.out.below hB.symm hfar)).mono ?_
    obtain ⟨q0, hq0⟩ : ∃ q, w2.heap.size = q := ⟨_, rfl⟩
    have hq0B : B ≤ q0 := by omega
    rintro r w3 ⟨v3, rfl, hv3, hb3⟩
    replace hBW := hBW.newB hb3
    replace hfar := hfar.trans (hb3.mono (by omega))
    replace hsz := Nat.le_trans hsz hb3.size
    obtain ⟨p2, c2, rfl, hQ⟩ := hv3.sl
    rw [HN.out] at hQ ⊢
    have hnc : n ≤ c2 := hQ.2.1
    have hcm := hQ.2.2.1
    unfold maxLen at hcm
    obtain ⟨q1, hq1⟩ : ∃ q, w3.heap.size = q := ⟨_, rfl⟩
    rw [hq0, hq1] at hQ
    have hq1B : B ≤ q1 := by omega
    replace hsz : q1 ≤ w3.heap.size := by omega
    clear hv3 hq0 hq1
    have hIl : l.findIdx (geE st) ≤ n := by rw [← HN.out]; exact List.findIdx_le_length
    have hlo : ∀ j e, l[j]? = some e → j < l.findIdx (geE st) → e.stamp < st := fun j e he hj => by
      have h1 := List.not_of_lt_findIdx hj
      have h2 : l[j]'(by have := HN.out; omega) = e := Option.some.inj ((List.getElem?_eq_getElem _).symm.trans he)
      rw [h2] at h1
      unfold geE at h1
      simpa using h1
    have hhi : ∀ e, l[l.findIdx (geE st)]? = some e → st ≤ e.stamp := fun e he => by
      have hl := (List.getElem?_eq_some_iff.1 he).1
      have h1 := List.findIdx_getElem (p := geE st) (xs := l) (w := hl)
      rw [(List.getElem?_eq_some_iff.1 he).2] at h1
      unfold geE at h1
      simpa using h1
    have hAt := fun w (hs : SL w q0 q1 3 p2 n c2 (flE l)) => SeekAt_any HN.out (by omega) hs st
    have hNe := fun w (hs : SL w q0 q1 3 p2 n c2 (flE l)) => Near_any HN.out (by omega) hs i
    have hSt := fun w i (hs : SL w q0 q1 3 p2 n c2 (flE l)) => Steps_any HN.out (by omega) hs i
    obtain ⟨K, hK⟩ : ∃ K, l.findIdx (geE st) = K := ⟨_, rfl⟩
    simp only [hK] at hIl hlo hhi hAt
    have HAt := Lib.hid hAt
    have HNe := Lib.hid hNe
    have HSt := Lib.hid hSt
    have HLO := Lib.hid hlo
    have HHI := Lib.hid hhi
    clear hK hAt hNe hSt hlo hhi
    go_wp2_with fail
    refine (HAt.out _ hQ).mono ?_
    rintro e w4 ⟨rfl, hb4⟩
    replace hBW := hBW.newB hb4
    replace hQ := hQ.newB hb4
    replace hfar := hfar.trans (hb4.mono (by omega))
    replace hsz := Nat.le_trans hsz hb4.size
    have hes : ∀ (W : World) (hs : SL W q0 q1 3 p2 n c2 (flE l)) (j : Nat), j < n → ∃ b o e, p2 = some ⟨b, o, none⟩ ∧ l[j]? = some e ∧ W.cell? ⟨b, o + j * 3, none⟩ = some (.int .i64 e.kind) ∧ W.cell? ⟨b, o + j * 3 + 1, none⟩ = some (.int .u32 e.stamp) := fun W hs j hj => by
      have hES : ES W q0 q1 p2 c2 l := by unfold ES; rw [HN.out]; exact hs
      obtain ⟨e, he⟩ : ∃ e, l[j]? = some e := ⟨_, List.getElem?_eq_getElem (by rw [HN.out]; exact hj)⟩
      obtain ⟨b, o, hp, _, _, hr⟩ := hES.get he
      exact ⟨b, o, e, hp, he, hr 0 _ rfl, hr 1 _ rfl⟩
    have HES := Lib.hid hes
    clear hes
    go_upto_region 5 with (fail)
    go_cut [47] from 25 to 46 (fun s47 wx => s47 = .bool false ∧ wx = w4)
    case first =>
      by_cases hKn : K < n
      · obtain ⟨b, o, e, rfl, he, -, c1⟩ := HES.out _ hQ K hKn
        have h1 := HHI.out e he
        have h2 : ¬ e.stamp < st := by omega
        clear he
        go_wp2_with fail
        go_meet
        case rel => exact ⟨by simp; try omega, rfl⟩
      · obtain rfl : K = n := by omega
        go_wp2_with fail
        go_meet
        case rel => exact ⟨by simp; try omega, rfl⟩
    case rest =>
      obtain ⟨rfl, rfl⟩ := hcut
      go_wp2_with fail
      go_loop [9] (fun x => ∃ k : Nat, k ≤ K ∧ x = .int .i64 k) (fun x => K - (intOf x).toNat)
      case atStart => exact ⟨0, by omega, rfl⟩
      case round =>
        obtain ⟨k, hk, rfl⟩ := hrel
        by_cases hlt : k < K
        · obtain ⟨b, o, e, rfl, he, -, c1⟩ := HES.out _ hQ k (by omega)
          have h1 := HLO.out k e he hlt
          have h2 : ¬ st ≤ e.stamp := by omega
          have hkn : k < n := by omega
          clear he
          go_wp2_with fail
          go_round
          case rel => exact ⟨k + 1, hlt, by go_num⟩
          case measure => simp [intOf]; omega
        · obtain rfl : k = K := by omega
          go_wp2_with fail
          refine (HNe.out _ hQ).mono ?_
          rintro e w5 ⟨rfl, hb5⟩
          replace hBW := hBW.newB hb5
          replace hQ := hQ.newB hb5
          replace hfar := hfar.trans (hb5.mono (by omega))
          replace hsz := Nat.le_trans hsz hb5.size
          cases hb : nearB l i with
          | false =>
            go_wp2_with fail
            go_ret
            exact ⟨rfl, (by (try rw [hB]); exact bl_)⟩
          | true =>
            obtain ⟨j, hj, hji, hil, hjl, ⟨e, he, hk3⟩, hs1, hs2⟩ := steps_near hb
            rw [HN.out] at hjl hil
            rw [hj]
            obtain ⟨b, o, e', rfl, he', c0, -⟩ := HES.out _ hQ j hjl
            obtain rfl : e = e' := Option.some.inj (he.symm.trans he')
            rw [hk3] at c0
            have hS1 := HSt.out
            clear he he' hk3 hb hj
            go_wp2_with fail
            refine (hS1 _ i hQ).mono ?_
            rw [hs1]
            rintro e w6 ⟨rfl, hb6⟩
            replace hBW := hBW.newB hb6
            replace hQ := hQ.newB hb6
            replace hfar := hfar.trans (hb6.mono (by omega))
            replace hsz := Nat.le_trans hsz hb6.size
            go_wp2_with fail
            refine (hS1 _ ((j : Int) + 1) hQ).mono ?_
            rw [hs2]
            rintro e w7 ⟨rfl, hb7⟩
            replace hBW := hBW.newB hb7
            replace hQ := hQ.newB hb7
            replace hfar := hfar.trans (hb7.mono (by omega))
            replace hsz := Nat.le_trans hsz hb7.size
            go_wp2_with fail
            go_ret
            exact ⟨rfl, (by (try rw [hB]); exact bl_)⟩
end Go.Proofs.YtbpdocdomjafbaaDoor
