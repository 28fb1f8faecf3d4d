/- The walk of spoollaw21.SpecGaps: whatever comes in, it returns true. -/
import Derived.Test.YtbpdocdomjafbaaDoorLaw21b
set_option linter.unusedSimpArgs false
set_option linter.unusedVariables false
namespace Go.Proofs.YtbpdocdomjafbaaDoor
open Go.RowKit

theorem gaps_fold {L : List Int} (hl : L.length = 38) (hr : rightS L = true) (a l : List Ent) (sp : Int) :
    foldO L (a ++ [gapE sp] ++ l) = foldO L a ++ [loseO (foldS L a)] ++ foldO (zs 38) l ∧ foldS L (a ++ [gapE sp] ++ l) = foldS (zs 38) l ∧ (foldO L (a ++ [gapE sp] ++ l)).length = soundsE a + 1 + soundsE l := by
  have hg := gap_step (foldS_right hl hr a) sp
  have e1 : foldO (foldS L a) [gapE sp] = [loseO (foldS L a)] := by show stepO _ _ ++ [] = _; rw [hg.1]; rfl
  have e2 : foldS L (a ++ [gapE sp]) = zs 38 := by rw [foldS_app]; exact hg.2
  have e3 : foldO L (a ++ [gapE sp] ++ l) = foldO L a ++ [loseO (foldS L a)] ++ foldO (zs 38) l := by rw [foldO_app, foldO_app, e1, e2]
  refine ⟨e3, by rw [foldS_app, e2], ?_⟩
  have hz := foldO_count (L := zs 38) (by simp [zs]) rightS_zero l
  rw [e3, List.length_append, List.length_append, foldO_count hl hr, hz]
  rfl
theorem gaps_rest {L : List Int} (hl : L.length = 38) (hr : rightS L = true) (a l : List Ent) (sp : Int) : (foldO L (a ++ [gapE sp] ++ l)).drop (soundsE a + 1) = foldO (zs 38) l := by
  rw [(gaps_fold hl hr a l sp).1]
  have h : (foldO L a ++ [loseO (foldS L a)]).length = soundsE a + 1 := by rw [List.length_append, foldO_count hl hr]; rfl
  rw [← h, List.drop_left]
/-- What a walk asks of a slice that came in. -/
theorem entIn_at {w W : World} {p : Option Addr} {cap : Nat} {l : List Ent} {B : Nat} (h : Hid (EntIn w p cap l)) (hB : w.heap.size = B) (hb : Below B w W) : EntIn W p cap l := h.out.below hB.symm hb
set_option maxRecDepth 100000 in
set_option maxHeartbeats 16000000 in
theorem SpecGaps_any (L : List Int) (hL : L.length = 38) (M : List Int) (hM : M.length = 38) (a b l : List Ent) (pa pb pl : Option Addr) (ca cb cl : Nat) (w : World) (hW : BandsW w) (hEa : EntIn w pa ca a) (hEb : EntIn w pb cb b) (hEl : EntIn w pl cl l) :
    Calls Tryd.prog 4 #[.agg (arrV L), .agg (arrV M), .slice pa a.length ca, .slice pb b.length cb, .slice pl l.length cl] w fun r w' => r = .returned (.bool true) ∧ Below w.heap.size w w' := by
  have hBW : Blk w 0 bandC 142 := hW
  have hB0 := hW.lt
  have LL := Len.mk hL
  have LM := Len.mk hM
  have hRL := fun w => RRight_any L hL w
  have hRM := fun w => RRight_any M hM w
  have HRL := Lib.hid hRL
  have HRM := Lib.hid hRM
  clear hRL hRM hL hM
  have hc1a := hEa.1
  have hc2a := hEa.2.1
  have hfewa := few_any a pa ca
  have hOfa := fun h w => Of21_any a h pa ca w
  obtain ⟨na, hna⟩ : ∃ n, a.length = n := ⟨_, rfl⟩
  have HNa := Lib.hid hna
  rw [hna] at hc1a hfewa hOfa ⊢
  have HFEWa := Lib.hid hfewa
  have HOFa := Lib.hid hOfa
  have HEa := Lib.hid hEa
  clear hEa hna hfewa hOfa
  have hc1b := hEb.1
  have hc2b := hEb.2.1
  have hfewb := few_any b pb cb
  have hOfb := fun h w => Of21_any b h pb cb w
  obtain ⟨nb, hnb⟩ : ∃ n, b.length = n := ⟨_, rfl⟩
  have HNb := Lib.hid hnb
  rw [hnb] at hc1b hfewb hOfb ⊢
  have HFEWb := Lib.hid hfewb
  have HOFb := Lib.hid hOfb
  have HEb := Lib.hid hEb
  clear hEb hnb hfewb hOfb
  have hc1l := hEl.1
  have hc2l := hEl.2.1
  have hfewl := few_any l pl cl
  have hOfl := fun h w => Of21_any l h pl cl w
  obtain ⟨nl, hnl⟩ : ∃ n, l.length = n := ⟨_, rfl⟩
  have HNl := Lib.hid hnl
  rw [hnl] at hc1l hfewl hOfl ⊢
  have HFEWl := Lib.hid hfewl
  have HOFl := Lib.hid hOfl
  have HEl := Lib.hid hEl
  clear hEl hnl hfewl hOfl
  clear hW
  obtain ⟨B, hB⟩ : ∃ B, w.heap.size = B := ⟨_, rfl⟩
  rw [hB] at hB0
  have hfar := Below.refl B w
  have hsz : B ≤ w.heap.size := by omega
  go_enter Tryd.func4, Tryd.ntmps4
  go_upto_region 1 with (fail)
  refine wp_gen (fun W => Blk W (0) (bandC) 142 ∧ Blk W (B) (arrV L) 25 ∧ Blk W (B + 1) (arrV M) 25 ∧ Below (B) w W ∧ B + 2 ≤ W.heap.size) ⟨bk_, bk_, bk_, bl_, sz_⟩ ?_
  clear hBW hfar hsz
  rintro w1 ⟨hBW, hA, hA2, hfar, hsz⟩
  go_wp2_with fail
  refine (awake_any _ hBW).mono ?_
  rintro e w2 ⟨rfl, hb2⟩
  replace hBW := hBW.newB hb2
  replace hA := hA.newB hb2
  replace hA2 := hA2.newB hb2
  replace hfar := hfar.trans (hb2.mono (by omega))
  replace hsz := Nat.le_trans hsz hb2.size
  go_wp2_with fail
  refine (HFEWa.out _ (entIn_at HEa hB hfar)).mono ?_
  rintro r wf ⟨rfl, rfl⟩
  cases hfa : fewE a with
  | false =>
    go_wp2_with fail
    refine (awake_any _ hBW).mono ?_
    rintro e wz ⟨rfl, hbz⟩
    replace hBW := hBW.newB hbz
    replace hA := hA.newB hbz
    replace hA2 := hA2.newB hbz
    replace hfar := hfar.trans (hbz.mono (by omega))
    replace hsz := Nat.le_trans hsz hbz.size
    go_wp2_with fail
    go_ret
    exact ⟨rfl, (by (try rw [hB]); exact bl_)⟩
  | true =>
    have h25a : na ≤ 25 := by rw [← HNa.out]; exact few_len hfa
    clear hfa
    go_wp2_with fail
    refine (HFEWb.out _ (entIn_at HEb hB hfar)).mono ?_
    rintro r wf ⟨rfl, rfl⟩
    cases hfb : fewE b with
    | false =>
      go_wp2_with fail
      refine (awake_any _ hBW).mono ?_
      rintro e wz ⟨rfl, hbz⟩
      replace hBW := hBW.newB hbz
      replace hA := hA.newB hbz
      replace hA2 := hA2.newB hbz
      replace hfar := hfar.trans (hbz.mono (by omega))
      replace hsz := Nat.le_trans hsz hbz.size
      go_wp2_with fail
      go_ret
      exact ⟨rfl, (by (try rw [hB]); exact bl_)⟩
    | true =>
      have h25b : nb ≤ 25 := by rw [← HNb.out]; exact few_len hfb
      clear hfb
      go_wp2_with fail
      refine (HFEWl.out _ (entIn_at HEl hB hfar)).mono ?_
      rintro r wf ⟨rfl, rfl⟩
      cases hfl : fewE l with
      | false =>
        go_wp2_with fail
        refine (awake_any _ hBW).mono ?_
        rintro e wz ⟨rfl, hbz⟩
        replace hBW := hBW.newB hbz
        replace hA := hA.newB hbz
        replace hA2 := hA2.newB hbz
        replace hfar := hfar.trans (hbz.mono (by omega))
        replace hsz := Nat.le_trans hsz hbz.size
        go_wp2_with fail
        go_ret
        exact ⟨rfl, (by (try rw [hB]); exact bl_)⟩
      | true =>
        have h25l : nl ≤ 25 := by rw [← HNl.out]; exact few_len hfl
        clear hfl
        go_wp2_with (first | (refine ld 25 rfl (by rfl) w_RState rfl bk_ lz_ ?_))
        refine (HRL.out _).mono ?_
        rintro e w3 ⟨rfl, hb_w3⟩
        replace hBW := hBW.newB hb_w3
        replace hA := hA.newB hb_w3
        replace hA2 := hA2.newB hb_w3
        replace hfar := hfar.trans (hb_w3.mono (by omega))
        replace hsz := Nat.le_trans hsz hb_w3.size
        cases hrL : rightS L with
        | false =>
          go_wp2_with fail
          refine (awake_any _ hBW).mono ?_
          rintro e wz ⟨rfl, hbz⟩
          replace hBW := hBW.newB hbz
          replace hA := hA.newB hbz
          replace hA2 := hA2.newB hbz
          replace hfar := hfar.trans (hbz.mono (by omega))
          replace hsz := Nat.le_trans hsz hbz.size
          go_wp2_with fail
          go_ret
          exact ⟨rfl, (by (try rw [hB]); exact bl_)⟩
        | true =>
          have HRIL := Lib.hid hrL
          clear hrL
          go_wp2_with (first | (refine ld 25 rfl (by rfl) w_RState rfl bk_ lz_ ?_))
          refine (HRM.out _).mono ?_
          rintro e w4 ⟨rfl, hb_w4⟩
          replace hBW := hBW.newB hb_w4
          replace hA := hA.newB hb_w4
          replace hA2 := hA2.newB hb_w4
          replace hfar := hfar.trans (hb_w4.mono (by omega))
          replace hsz := Nat.le_trans hsz hb_w4.size
          cases hrM : rightS M with
          | false =>
            go_wp2_with fail
            refine (awake_any _ hBW).mono ?_
            rintro e wz ⟨rfl, hbz⟩
            replace hBW := hBW.newB hbz
            replace hA := hA.newB hbz
            replace hA2 := hA2.newB hbz
            replace hfar := hfar.trans (hbz.mono (by omega))
            replace hsz := Nat.le_trans hsz hbz.size
            go_wp2_with fail
            go_ret
            exact ⟨rfl, (by (try rw [hB]); exact bl_)⟩
          | true =>
            have HRIM := Lib.hid hrM
            clear hrM
            obtain ⟨i0, hi, hz0, hz1, hz2⟩ := info_parts info_Entry
            go_wp2_with fail
            refine (HOFa.out (by omega) _ (entIn_at HEa hB hfar)).mono ?_
            obtain ⟨qa, hqa⟩ : ∃ q, q = w4.heap.size := ⟨_, rfl⟩
            have hqBa : B + 2 ≤ qa := by omega
            rintro r wa1 ⟨va1, rfl, hva1, hba1⟩
            rw [← hqa] at hva1
            replace hBW := hBW.newB hba1
            replace hA := hA.newB hba1
            replace hA2 := hA2.newB hba1
            replace hfar := hfar.trans (hba1.mono (by omega))
            replace hsz := Nat.le_trans hsz hba1.size
            rw [HNa.out] at hva1
            go_wp2_with fail
            refine (EGap_any 1 _).mono ?_
            rintro e wa2 ⟨rfl, hba2⟩
            replace hBW := hBW.newB hba2
            replace hA := hA.newB hba2
            replace hA2 := hA2.newB hba2
            replace hfar := hfar.trans (hba2.mono (by omega))
            replace hsz := Nat.le_trans hsz hba2.size
            have hva2 := hva1.newB hba2
            have hqsa : qa ≤ wa2.heap.size := by have h1 := hba1.size; have h2 := hba2.size; omega
            have hNa : Blk (wa2.alloc (.cells (entV (gapE 1)) 43)) wa2.heap.size (entV (gapE 1)) 43 := Blk.newAt rfl
            have hRa := hva2.alloc (.cells (entV (gapE 1)) 43)
            have hsla := SL.blk hNa (n := 1) (size := 3) rfl (by unfold maxLen; omega)
            have hvba : ∀ j, va1.ownBlock = some j → qa ≤ j := fun j hj => (World.ownsRow.lt hva2.1 j hj).1
            have HVBa := Lib.hid hvba
            clear hvba
            go_wp2_with (first | (refine bs1 29 rfl (by rfl) rfl Tryd.underlying29 el_Entry (by omega) (by omega) (by rfl) ?_) | (refine ap 29 (s := .tmp 48) rfl (by rfl) rfl qa 43 i0 (.agg #[.int .i64 0, .int .u32 0, .string ⟨#[]⟩]) 3 32 Tryd.underlying29 hi hz0 hz1 hz2 rfl (by omega) rfl hRa.1 rfl hsla (fun u hu => flatE_one [gapE 1] u (by simpa using hu)) (by unfold maxLen; omega) (by omega) (by rw [World.size_alloc]; omega) ?_; intro va3 wa3 hown hgr _))
            have hfa3 : Below B w wa3 := (hfar.alloc (by omega) _).grown hgr (by rw [World.size_alloc]; omega) (fun j hj => by have := HVBa.out j hj; omega)
            have hBW3 := (hBW.alloc (.cells (entV (gapE 1)) 43)).kept hgr (fun h => by have := HVBa.out _ h.symm; omega)
            have hA3 := (hA.alloc (.cells (entV (gapE 1)) 43)).kept hgr (fun h => by have := HVBa.out _ h.symm; omega)
            have hA23 := (hA2.alloc (.cells (entV (gapE 1)) 43)).kept hgr (fun h => by have := HVBa.out _ h.symm; omega)
            have hsa3 := hgr.size
            rw [World.size_alloc] at hsa3
            clear hfar hsz hBW hA hA2  hgr
            have hfar := hfa3
            have hBW := hBW3
            have hA := hA3
            have hA2 := hA23
            have hsz : B + 2 ≤ wa3.heap.size := by omega
            clear hfa3 hBW3 hA3 hA23 
            refine (HOFl.out (by omega) _ (entIn_at HEl hB hfar)).mono ?_
            rintro r wa4 ⟨va4, rfl, hva4, hba4⟩
            replace hBW := hBW.newB hba4
            replace hA := hA.newB hba4
            replace hA2 := hA2.newB hba4
            replace hfar := hfar.trans (hba4.mono (by omega))
            replace hsz := Nat.le_trans hsz hba4.size
            have howna4 := own_newB hown hba4
            have hqta : qa ≤ wa4.heap.size := by have h1 := hba4.size; omega
            obtain ⟨pa4, ca4, rfl, hsa4⟩ := hva4.sl
            rw [HNl.out] at hsa4 ⊢
            have hvba : ∀ j, va3.ownBlock = some j → qa ≤ j := fun j hj => (World.ownsRow.lt hown j hj).1
            have HVCa := Lib.hid hvba
            clear hvba hown hva4
            go_wp2_with (first | (refine ap 29 (s := .tmp 51) rfl (by rfl) rfl qa 43 i0 (.agg #[.int .i64 0, .int .u32 0, .string ⟨#[]⟩]) 3 32 Tryd.underlying29 hi hz0 hz1 hz2 rfl (by omega) rfl howna4 rfl hsa4 (flatE_one l) (by unfold maxLen; omega) (by omega) (by omega) ?_; intro va5 wa5 howna5 hgr _))
            have hfa5 : Below B w wa5 := hfar.grown hgr (by omega) (fun j hj => by have := HVCa.out j hj; omega)
            have hBW5 := hBW.kept hgr (fun h => by have := HVCa.out _ h.symm; omega)
            have hA5 := hA.kept hgr (fun h => by have := HVCa.out _ h.symm; omega)
            have hA25 := hA2.kept hgr (fun h => by have := HVCa.out _ h.symm; omega)
            have hsg := hgr.size
            clear hfar hsz hBW hA hA2  hgr
            have hfar := hfa5
            have hBW := hBW5
            have hA := hA5
            have hA2 := hA25
            have hsz : B + 2 ≤ wa5.heap.size := by omega
            clear hfa5 hBW5 hA5 hA25 
            obtain ⟨pXa, cXa, loXa, hiXa, rfl, hXa, hloXa, hhiXa⟩ := own_ex howna5
            replace hXa : SL wa5 loXa hiXa 3 pXa (na + 1 + nl) cXa (flE (a ++ [gapE 1] ++ l)) := by unfold flE; rw [List.flatMap_append, List.flatMap_append, List.flatMap_singleton]; exact hXa
            clear howna5 hsa4 HVCa HVBa howna4 hva2 hva1 hRa hsla hNa
            go_wp2_with fail
            refine (HOFb.out (by omega) _ (entIn_at HEb hB hfar)).mono ?_
            obtain ⟨qb, hqb⟩ : ∃ q, q = wa5.heap.size := ⟨_, rfl⟩
            have hqBb : B + 2 ≤ qb := by omega
            rintro r wb1 ⟨vb1, rfl, hvb1, hbb1⟩
            rw [← hqb] at hvb1
            replace hBW := hBW.newB hbb1
            replace hA := hA.newB hbb1
            replace hA2 := hA2.newB hbb1
            replace hXa := hXa.newB hbb1
            replace hfar := hfar.trans (hbb1.mono (by omega))
            replace hsz := Nat.le_trans hsz hbb1.size
            rw [HNb.out] at hvb1
            go_wp2_with fail
            refine (EGap_any 2 _).mono ?_
            rintro e wb2 ⟨rfl, hbb2⟩
            replace hBW := hBW.newB hbb2
            replace hA := hA.newB hbb2
            replace hA2 := hA2.newB hbb2
            replace hXa := hXa.newB hbb2
            replace hfar := hfar.trans (hbb2.mono (by omega))
            replace hsz := Nat.le_trans hsz hbb2.size
            have hvb2 := hvb1.newB hbb2
            have hqsb : qb ≤ wb2.heap.size := by have h1 := hbb1.size; have h2 := hbb2.size; omega
            have hNb : Blk (wb2.alloc (.cells (entV (gapE 2)) 43)) wb2.heap.size (entV (gapE 2)) 43 := Blk.newAt rfl
            have hRb := hvb2.alloc (.cells (entV (gapE 2)) 43)
            have hslb := SL.blk hNb (n := 1) (size := 3) rfl (by unfold maxLen; omega)
            have hvbb : ∀ j, vb1.ownBlock = some j → qb ≤ j := fun j hj => (World.ownsRow.lt hvb2.1 j hj).1
            have HVBb := Lib.hid hvbb
            clear hvbb
            go_wp2_with (first | (refine bs1 29 rfl (by rfl) rfl Tryd.underlying29 el_Entry (by omega) (by omega) (by rfl) ?_) | (refine ap 29 (s := .tmp 56) rfl (by rfl) rfl qb 43 i0 (.agg #[.int .i64 0, .int .u32 0, .string ⟨#[]⟩]) 3 32 Tryd.underlying29 hi hz0 hz1 hz2 rfl (by omega) rfl hRb.1 rfl hslb (fun u hu => flatE_one [gapE 2] u (by simpa using hu)) (by unfold maxLen; omega) (by omega) (by rw [World.size_alloc]; omega) ?_; intro vb3 wb3 hown hgr _))
            have hfb3 : Below B w wb3 := (hfar.alloc (by omega) _).grown hgr (by rw [World.size_alloc]; omega) (fun j hj => by have := HVBb.out j hj; omega)
            have hBW3 := (hBW.alloc (.cells (entV (gapE 2)) 43)).kept hgr (fun h => by have := HVBb.out _ h.symm; omega)
            have hA3 := (hA.alloc (.cells (entV (gapE 2)) 43)).kept hgr (fun h => by have := HVBb.out _ h.symm; omega)
            have hA23 := (hA2.alloc (.cells (entV (gapE 2)) 43)).kept hgr (fun h => by have := HVBb.out _ h.symm; omega)
            have hXa3 := (hXa.alloc (.cells (entV (gapE 2)) 43)).grown hgr (fun j hj => by have := HVBb.out j hj; omega)
            have hsb3 := hgr.size
            rw [World.size_alloc] at hsb3
            clear hfar hsz hBW hA hA2 hXa hgr
            have hfar := hfb3
            have hBW := hBW3
            have hA := hA3
            have hA2 := hA23
            have hXa := hXa3
            have hsz : B + 2 ≤ wb3.heap.size := by omega
            clear hfb3 hBW3 hA3 hA23 hXa3
            refine (HOFl.out (by omega) _ (entIn_at HEl hB hfar)).mono ?_
            rintro r wb4 ⟨vb4, rfl, hvb4, hbb4⟩
            replace hBW := hBW.newB hbb4
            replace hA := hA.newB hbb4
            replace hA2 := hA2.newB hbb4
            replace hXa := hXa.newB hbb4
            replace hfar := hfar.trans (hbb4.mono (by omega))
            replace hsz := Nat.le_trans hsz hbb4.size
            have hownb4 := own_newB hown hbb4
            have hqtb : qb ≤ wb4.heap.size := by have h1 := hbb4.size; omega
            obtain ⟨pb4, cb4, rfl, hsb4⟩ := hvb4.sl
            rw [HNl.out] at hsb4 ⊢
            have hvbb : ∀ j, vb3.ownBlock = some j → qb ≤ j := fun j hj => (World.ownsRow.lt hown j hj).1
            have HVCb := Lib.hid hvbb
            clear hvbb hown hvb4
            go_upto_region 5 with (first | (refine ap 29 (s := .tmp 59) rfl (by rfl) rfl qb 43 i0 (.agg #[.int .i64 0, .int .u32 0, .string ⟨#[]⟩]) 3 32 Tryd.underlying29 hi hz0 hz1 hz2 rfl (by omega) rfl hownb4 rfl hsb4 (flatE_one l) (by unfold maxLen; omega) (by omega) (by omega) ?_; intro vb5 wb5 hownb5 hgr _))
            have hfb5 : Below B w wb5 := hfar.grown hgr (by omega) (fun j hj => by have := HVCb.out j hj; omega)
            have hBW5 := hBW.kept hgr (fun h => by have := HVCb.out _ h.symm; omega)
            have hA5 := hA.kept hgr (fun h => by have := HVCb.out _ h.symm; omega)
            have hA25 := hA2.kept hgr (fun h => by have := HVCb.out _ h.symm; omega)
            have hXa5 := hXa.grown hgr (fun j hj => by have := HVCb.out j hj; omega)
            have hsg := hgr.size
            clear hfar hsz hBW hA hA2 hXa hgr
            have hfar := hfb5
            have hBW := hBW5
            have hA := hA5
            have hA2 := hA25
            have hXa := hXa5
            have hsz : B + 2 ≤ wb5.heap.size := by omega
            clear hfb5 hBW5 hA5 hA25 hXa5
            obtain ⟨pXb, cXb, loXb, hiXb, rfl, hXb, hloXb, hhiXb⟩ := own_ex hownb5
            replace hXb : SL wb5 loXb hiXb 3 pXb (nb + 1 + nl) cXb (flE (b ++ [gapE 2] ++ l)) := by unfold flE; rw [List.flatMap_append, List.flatMap_append, List.flatMap_singleton]; exact hXb
            clear hownb5 hsb4 HVCb HVBb hownb4 hvb2 hvb1 hRb hslb hNb
            have kXa := hXa.2.2.2.1
            have kXb := hXb.2.2.2.1
            obtain ⟨N5, hN5⟩ : ∃ N, wb5.heap.size = N := ⟨_, rfl⟩
            rw [hN5] at kXa kXb hsz
            have hN5B : B + 2 ≤ N5 := hsz
            replace hsz : N5 ≤ wb5.heap.size := by omega
            have ga := gaps_fold LL.out HRIL.out a l 1
            have gra := gaps_rest LL.out HRIL.out a l 1
            have hFa := fun w lo hi (hW : BandsW w) (hs : SL w lo hi 3 pXa (na + 1 + nl) cXa (flE (a ++ [gapE 1] ++ l))) => toBN (Fold_all LL (l := a ++ [gapE 1] ++ l) (by rw [List.length_append, List.length_append, HNa.out, HNl.out]; rfl) (by omega) hW hs)
            rw [ga.2.1, ga.2.2] at hFa
            have hAa16 := foldO_len L (a ++ [gapE 1] ++ l)
            obtain ⟨Aa, hAae⟩ : ∃ A, foldO L (a ++ [gapE 1] ++ l) = A := ⟨_, rfl⟩
            obtain ⟨ia, hiae⟩ : ∃ i, soundsE a + 1 = i := ⟨_, rfl⟩
            have hia1 : 1 ≤ ia := by omega
            simp only [hAae, hiae] at gra hFa hAa16 ga
            have hia2 : ia ≤ na + 1 := by have h1 := List.length_filter_le heardE a; rw [HNa.out] at h1; have h2 : soundsE a ≤ na := h1; omega
            have hla := ga.2.2
            clear ga hiae hAae
            have gb := gaps_fold LM.out HRIM.out b l 2
            have grb := gaps_rest LM.out HRIM.out b l 2
            have hFb := fun w lo hi (hW : BandsW w) (hs : SL w lo hi 3 pXb (nb + 1 + nl) cXb (flE (b ++ [gapE 2] ++ l))) => toBN (Fold_all LM (l := b ++ [gapE 2] ++ l) (by rw [List.length_append, List.length_append, HNb.out, HNl.out]; rfl) (by omega) hW hs)
            rw [gb.2.1, gb.2.2] at hFb
            have hAb16 := foldO_len M (b ++ [gapE 2] ++ l)
            obtain ⟨Ab, hAbe⟩ : ∃ A, foldO M (b ++ [gapE 2] ++ l) = A := ⟨_, rfl⟩
            obtain ⟨ib, hibe⟩ : ∃ i, soundsE b + 1 = i := ⟨_, rfl⟩
            have hib1 : 1 ≤ ib := by omega
            simp only [hAbe, hibe] at grb hFb hAb16 gb
            have hib2 : ib ≤ nb + 1 := by have h1 := List.length_filter_le heardE b; rw [HNb.out] at h1; have h2 : soundsE b ≤ nb := h1; omega
            have hlb := gb.2.2
            clear gb hibe hAbe
            have hSd := fun (n : Nat) (hn : l.length = n) (h2 : n ≤ 1000) p lo hi cap w (hs : SL w lo hi 3 p n cap (flE l)) => Sounds_any hn h2 hs
            have hsle : soundsE l ≤ nl := by have := List.length_filter_le heardE l; rw [HNl.out] at this; exact this
            have hC16 := foldO_len (zs 38) l
            have hCl := foldO_count (L := zs 38) (by simp [zs]) rightS_zero l
            have LS := Len.mk (foldS_len (L := zs 38) (by simp [zs]) l)
            obtain ⟨C, hCe⟩ : ∃ C, foldO (zs 38) l = C := ⟨_, rfl⟩
            obtain ⟨S, hSe⟩ : ∃ S, foldS (zs 38) l = S := ⟨_, rfl⟩
            obtain ⟨sl, hsle2⟩ : ∃ m, soundsE l = m := ⟨_, rfl⟩
            simp only [hCe, hSe, hsle2] at hFa hFb gra grb hC16 hCl LS hSd hsle hla hlb
            have hSm := fun lo1 hi1 lo2 hi2 p1 p2 c1 c2 w h1 h2 => Same_any C hC16 (by omega) lo1 hi1 lo2 hi2 p1 p2 c1 c2 w h1 h2
            simp only [BS, hCl] at hSm
            have HFA_ := Lib.hid hFa
            have HFB_ := Lib.hid hFb
            have GRA_ := Lib.hid gra
            have GRB_ := Lib.hid grb
            have HSM_ := Lib.hid hSm
            have HSD_ := Lib.hid hSd
            have HAA16_ := Lib.hid hAa16
            have HAB16_ := Lib.hid hAb16
            have HLA_ := Lib.hid hla
            have HLB_ := Lib.hid hlb
            clear hFa hFb gra grb hSm hSd hAa16 hAb16 hla hlb hC16 hCl hCe hSe hsle2
            go_wp2_with (first | (refine ld 25 rfl (by rfl) w_RState rfl bk_ lz_ ?_))
            refine (Of_any L LL.out _).mono ?_
            rintro e wfa1 ⟨rfl, hbfa1⟩
            replace hBW := hBW.newB hbfa1
            replace hA := hA.newB hbfa1
            replace hA2 := hA2.newB hbfa1
            replace hXa := hXa.newB hbfa1
            replace hXb := hXb.newB hbfa1
            replace hfar := hfar.trans (hbfa1.mono (by omega))
            replace hsz := Nat.le_trans hsz hbfa1.size
            go_wp2_with fail
            refine (HFA_.out _ _ _ hBW hXa).mono ?_
            rintro r wfa2 ⟨vfa, rfl, hvfa, hbfa2⟩
            replace hBW := hBW.newB hbfa2
            replace hA := hA.newB hbfa2
            replace hA2 := hA2.newB hbfa2
            replace hXa := hXa.newB hbfa2
            replace hXb := hXb.newB hbfa2
            replace hfar := hfar.trans (hbfa2.mono (by omega))
            replace hsz := Nat.le_trans hsz hbfa2.size
            obtain ⟨pAa, cAa, loAa, hiAa, rfl, hAa, -, hhAa⟩ := own_ex hvfa
            clear hvfa
            obtain ⟨Na, hNa⟩ : ∃ N, wfa2.heap.size = N := ⟨_, rfl⟩
            rw [hNa] at hhAa
            have hNBa : N5 ≤ Na := by omega
            go_upto_region 6 with (first | (refine st 43 rfl (by rfl) w_Entry rfl rfl bk_ zz_ zz_ one_ ?_) | (refine ld 43 rfl (by rfl) w_Entry rfl bk_ zz_ ?_) | (refine bd 34 rfl (by rfl) rfl state_zs ?_) | (refine bd 32 rfl (by rfl) rfl block_zs ?_) | (refine ld 34 rfl (by rfl) w_State rfl bk_ lz_ ?_) | (refine ld 32 rfl (by rfl) w_Block rfl bk_ lz_ ?_) | (refine ldp 32 rfl (by rfl) w_Block rfl bk_ ln_ (by omega) ?_) | (refine ld 23 rfl (by rfl) w_Four rfl bk_ lz_ ?_) | (refine ldp 23 rfl (by rfl) w_Four rfl bk_ ln_ (by omega) ?_) | (refine st 34 rfl (by rfl) w_State rfl rfl bk_ lz_ lz_ one_ ?_) | (refine st 32 rfl (by rfl) w_Block rfl rfl bk_ lz_ lz_ one_ ?_) | (refine st 23 rfl (by rfl) w_Four rfl rfl bk_ lz_ lz_ one_ ?_))
            refine wp_gen (fun W => Blk W (0) (bandC) 142 ∧ Blk W (B) (arrV L) 25 ∧ Blk W (B + 1) (arrV M) 25 ∧ SL W (loXa) (hiXa) (3) (pXa) (na + 1 + nl) (cXa) (flE (a ++ [gapE 1] ++ l)) ∧ SL W (loXb) (hiXb) (3) (pXb) (nb + 1 + nl) (cXb) (flE (b ++ [gapE 2] ++ l)) ∧ SL W (loAa) (hiAa) (16) (pAa) (ia + sl) (cAa) (Aa.flatMap intsV) ∧ Blk W (Na) (arrV S) 34 ∧ Below (B) w W ∧ Na + 1 ≤ W.heap.size) ⟨bk_, bk_, bk_, sl_, sl_, sl_, bk_, bl_, sz_⟩ ?_
            clear hBW hA hA2 hXa hXb hAa hfar hsz
            rintro wga ⟨hBW, hA, hA2, hXa, hXb, hAa, hSa, hfar, hsz⟩
            go_wp2_with (first | (refine ld 25 rfl (by rfl) w_RState rfl bk_ lz_ ?_))
            refine (Of_any M LM.out _).mono ?_
            rintro e wfb1 ⟨rfl, hbfb1⟩
            replace hBW := hBW.newB hbfb1
            replace hA := hA.newB hbfb1
            replace hA2 := hA2.newB hbfb1
            replace hXa := hXa.newB hbfb1
            replace hXb := hXb.newB hbfb1
            replace hAa := hAa.newB hbfb1
            replace hSa := hSa.newB hbfb1
            replace hfar := hfar.trans (hbfb1.mono (by omega))
            replace hsz := Nat.le_trans hsz hbfb1.size
            go_wp2_with fail
            refine (HFB_.out _ _ _ hBW hXb).mono ?_
            rintro r wfb2 ⟨vfb, rfl, hvfb, hbfb2⟩
            replace hBW := hBW.newB hbfb2
            replace hA := hA.newB hbfb2
            replace hA2 := hA2.newB hbfb2
            replace hXa := hXa.newB hbfb2
            replace hXb := hXb.newB hbfb2
            replace hAa := hAa.newB hbfb2
            replace hSa := hSa.newB hbfb2
            replace hfar := hfar.trans (hbfb2.mono (by omega))
            replace hsz := Nat.le_trans hsz hbfb2.size
            obtain ⟨pAb, cAb, loAb, hiAb, rfl, hAb, -, hhAb⟩ := own_ex hvfb
            clear hvfb
            obtain ⟨Nb, hNb⟩ : ∃ N, wfb2.heap.size = N := ⟨_, rfl⟩
            rw [hNb] at hhAb
            have hNBb : Na + 1 ≤ Nb := by omega
            go_upto_region 7 with (first | (refine st 43 rfl (by rfl) w_Entry rfl rfl bk_ zz_ zz_ one_ ?_) | (refine ld 43 rfl (by rfl) w_Entry rfl bk_ zz_ ?_) | (refine bd 34 rfl (by rfl) rfl state_zs ?_) | (refine bd 32 rfl (by rfl) rfl block_zs ?_) | (refine ld 34 rfl (by rfl) w_State rfl bk_ lz_ ?_) | (refine ld 32 rfl (by rfl) w_Block rfl bk_ lz_ ?_) | (refine ldp 32 rfl (by rfl) w_Block rfl bk_ ln_ (by omega) ?_) | (refine ld 23 rfl (by rfl) w_Four rfl bk_ lz_ ?_) | (refine ldp 23 rfl (by rfl) w_Four rfl bk_ ln_ (by omega) ?_) | (refine st 34 rfl (by rfl) w_State rfl rfl bk_ lz_ lz_ one_ ?_) | (refine st 32 rfl (by rfl) w_Block rfl rfl bk_ lz_ lz_ one_ ?_) | (refine st 23 rfl (by rfl) w_Four rfl rfl bk_ lz_ lz_ one_ ?_))
            refine wp_gen (fun W => Blk W (0) (bandC) 142 ∧ Blk W (B) (arrV L) 25 ∧ Blk W (B + 1) (arrV M) 25 ∧ SL W (loXa) (hiXa) (3) (pXa) (na + 1 + nl) (cXa) (flE (a ++ [gapE 1] ++ l)) ∧ SL W (loXb) (hiXb) (3) (pXb) (nb + 1 + nl) (cXb) (flE (b ++ [gapE 2] ++ l)) ∧ SL W (loAa) (hiAa) (16) (pAa) (ia + sl) (cAa) (Aa.flatMap intsV) ∧ Blk W (Na) (arrV S) 34 ∧ SL W (loAb) (hiAb) (16) (pAb) (ib + sl) (cAb) (Ab.flatMap intsV) ∧ Blk W (Nb) (arrV S) 34 ∧ Below (B) w W ∧ Nb + 1 ≤ W.heap.size) ⟨bk_, bk_, bk_, sl_, sl_, sl_, bk_, sl_, bk_, bl_, sz_⟩ ?_
            clear hBW hA hA2 hXa hXb hAa hSa hAb hfar hsz
            rintro wgb ⟨hBW, hA, hA2, hXa, hXb, hAa, hSa, hAb, hSb, hfar, hsz⟩
            go_wp2_with fail
            refine (HOFl.out (by omega) _ (entIn_at HEl hB hfar)).mono ?_
            rintro r woa ⟨voa, rfl, hvoa, hboa⟩
            replace hBW := hBW.newB hboa
            replace hA := hA.newB hboa
            replace hA2 := hA2.newB hboa
            replace hXa := hXa.newB hboa
            replace hXb := hXb.newB hboa
            replace hAa := hAa.newB hboa
            replace hSa := hSa.newB hboa
            replace hAb := hAb.newB hboa
            replace hSb := hSb.newB hboa
            replace hfar := hfar.trans (hboa.mono (by omega))
            replace hsz := Nat.le_trans hsz hboa.size
            obtain ⟨poa, coa, rfl, hsoa⟩ := hvoa.sl
            rw [HNl.out] at hsoa ⊢
            clear hvoa
            go_wp2_with fail
            refine (HSD_.out nl HNl.out (by omega) _ _ _ _ _ hsoa).mono ?_
            rintro e wsa ⟨rfl, hbsa⟩
            replace hBW := hBW.newB hbsa
            replace hA := hA.newB hbsa
            replace hA2 := hA2.newB hbsa
            replace hXa := hXa.newB hbsa
            replace hXb := hXb.newB hbsa
            replace hAa := hAa.newB hbsa
            replace hSa := hSa.newB hbsa
            replace hAb := hAb.newB hbsa
            replace hSb := hSb.newB hbsa
            replace hfar := hfar.trans (hbsa.mono (by omega))
            replace hsz := Nat.le_trans hsz hbsa.size
            clear hsoa
            go_wp2_with fail
            refine (HOFl.out (by omega) _ (entIn_at HEl hB hfar)).mono ?_
            rintro r wob ⟨vob, rfl, hvob, hbob⟩
            replace hBW := hBW.newB hbob
            replace hA := hA.newB hbob
            replace hA2 := hA2.newB hbob
            replace hXa := hXa.newB hbob
            replace hXb := hXb.newB hbob
            replace hAa := hAa.newB hbob
            replace hSa := hSa.newB hbob
            replace hAb := hAb.newB hbob
            replace hSb := hSb.newB hbob
            replace hfar := hfar.trans (hbob.mono (by omega))
            replace hsz := Nat.le_trans hsz hbob.size
            obtain ⟨pob, cob, rfl, hsob⟩ := hvob.sl
            rw [HNl.out] at hsob ⊢
            clear hvob
            go_wp2_with fail
            refine (HSD_.out nl HNl.out (by omega) _ _ _ _ _ hsob).mono ?_
            rintro e wsb ⟨rfl, hbsb⟩
            replace hBW := hBW.newB hbsb
            replace hA := hA.newB hbsb
            replace hA2 := hA2.newB hbsb
            replace hXa := hXa.newB hbsb
            replace hXb := hXb.newB hbsb
            replace hAa := hAa.newB hbsb
            replace hSa := hSa.newB hbsb
            replace hAb := hAb.newB hbsb
            replace hSb := hSb.newB hbsb
            replace hfar := hfar.trans (hbsb.mono (by omega))
            replace hsz := Nat.le_trans hsz hbsb.size
            clear hsob
            go_upto_region 8 with (fail)
            obtain ⟨pDa, hpDa⟩ : ∃ p', (if cAa = ia then pAa else pAa.map (·.add (ia * 16))) = p' := ⟨_, rfl⟩
            have HPa := Lib.hid hpDa
            have hcAa := hAa.2.1
            have hcma := hAa.2.2.1
            unfold maxLen at hcma
            clear hpDa
            obtain ⟨pDb, hpDb⟩ : ∃ p', (if cAb = ib then pAb else pAb.map (·.add (ib * 16))) = p' := ⟨_, rfl⟩
            have HPb := Lib.hid hpDb
            have hcAb := hAb.2.1
            have hcmb := hAb.2.2.1
            unfold maxLen at hcmb
            clear hpDb
            refine wp_region_held_drew (S := fun W => Blk W (0) (bandC) 142 ∧ Blk W (B) (arrV L) 25 ∧ Blk W (B + 1) (arrV M) 25 ∧ SL W (loXa) (hiXa) (3) (pXa) (na + 1 + nl) (cXa) (flE (a ++ [gapE 1] ++ l)) ∧ SL W (loXb) (hiXb) (3) (pXb) (nb + 1 + nl) (cXb) (flE (b ++ [gapE 2] ++ l)) ∧ SL W (loAa) (hiAa) (16) (pAa) (ia + sl) (cAa) (Aa.flatMap intsV) ∧ Blk W (Na) (arrV S) 34 ∧ SL W (loAb) (hiAb) (16) (pAb) (ib + sl) (cAb) (Ab.flatMap intsV) ∧ Blk W (Nb) (arrV S) 34 ∧ Below (B) w W ∧ Nb + 1 ≤ W.heap.size) (by kernel_rfl) (⟨hBW.drew, hA.drew, hA2.drew, hXa.drew, hXb.drew, hAa.drew, hSa.drew, hAb.drew, hSb.drew, hfar.drew, hsz⟩) (fun hH => ?_)
            have hH2 := hH
            obtain ⟨hBW, hA, hA2, hXa, hXb, hAa, hSa, hAb, hSb, hfar, hsz⟩ := hH2
            refine wpAnyH_take (i := 0) (oi := { dst := some 89, op := Op.move (Operand.tmp 17), type := 3, pos := "law.go:140", after := _, guard := none }) (v := _) rfl (by kernel_rfl) (by kernel_rfl) (by kernel_rfl) (fun _ _ _ h => h) (.inl ⟨by rfl, fun w hS => by (go_simp; try rfl)⟩) hH ?_
            try simp only [Act.put, List.setIfInBounds_toArray, List.set_cons_zero, List.set_cons_succ]
            refine wpAnyH_take (i := 1) (oi := { dst := some 90, op := Op.binOp BinOp.geq 3 (Operand.tmp 89) (Operand.const (Value.int IntKind.i64 1)) 3, type := 4, pos := "law.go:140", after := _, guard := none }) (v := .bool true) rfl (by kernel_rfl) (by kernel_rfl) (by kernel_rfl) (fun _ _ _ h => h) (.inl ⟨by rfl, fun w hS => by (go_simp; omega)⟩) hH ?_
            try simp only [Act.put, List.setIfInBounds_toArray, List.set_cons_zero, List.set_cons_succ]
            refine wpAnyH_take (i := 2) (oi := { dst := some 91, op := Op.move (Operand.tmp 90), type := 4, pos := "law.go:140", after := _, guard := none }) (v := _) rfl (by kernel_rfl) (by kernel_rfl) (by kernel_rfl) (fun _ _ _ h => h) (.inl ⟨by rfl, fun w hS => by (go_simp; try rfl)⟩) hH ?_
            try simp only [Act.put, List.setIfInBounds_toArray, List.set_cons_zero, List.set_cons_succ]
            refine wpAnyH_take (i := 3) (oi := { dst := some 92, op := Op.move (Operand.tmp 18), type := 3, pos := "law.go:140", after := _, guard := some (2, true) }) (v := _) rfl (by kernel_rfl) (by kernel_rfl) (by kernel_rfl) (fun _ _ _ h => h) (.inl ⟨by rfl, fun w hS => by (go_simp; try rfl)⟩) hH ?_
            try simp only [Act.put, List.setIfInBounds_toArray, List.set_cons_zero, List.set_cons_succ]
            refine wpAnyH_take (i := 4) (oi := { dst := some 93, op := Op.binOp BinOp.geq 3 (Operand.tmp 92) (Operand.const (Value.int IntKind.i64 1)) 3, type := 4, pos := "law.go:140", after := _, guard := some (2, true) }) (v := .bool true) rfl (by kernel_rfl) (by kernel_rfl) (by kernel_rfl) (fun _ _ _ h => h) (.inl ⟨by rfl, fun w hS => by (go_simp; omega)⟩) hH ?_
            try simp only [Act.put, List.setIfInBounds_toArray, List.set_cons_zero, List.set_cons_succ]
            refine wpAnyH_take (i := 5) (oi := { dst := some 94, op := Op.pick (Operand.tmp 91) (Operand.tmp 93) (Operand.const (Value.bool false)), type := 4, pos := "law.go:140", after := _, guard := none }) (v := .bool true) rfl (by kernel_rfl) (by kernel_rfl) (by kernel_rfl) (fun _ _ _ h => h) (.inl ⟨by rfl, fun w hS => by go_simp⟩) hH ?_
            try simp only [Act.put, List.setIfInBounds_toArray, List.set_cons_zero, List.set_cons_succ]
            refine wpAnyH_take (i := 6) (oi := { dst := some 95, op := Op.move (Operand.tmp 94), type := 4, pos := "law.go:140", after := _, guard := none }) (v := _) rfl (by kernel_rfl) (by kernel_rfl) (by kernel_rfl) (fun _ _ _ h => h) (.inl ⟨by rfl, fun w hS => by (go_simp; try rfl)⟩) hH ?_
            try simp only [Act.put, List.setIfInBounds_toArray, List.set_cons_zero, List.set_cons_succ]
            refine wpAnyH_take (i := 7) (oi := { dst := some 96, op := Op.move (Operand.tmp 13), type := 31, pos := "law.go:140", after := _, guard := some (6, true) }) (v := _) rfl (by kernel_rfl) (by kernel_rfl) (by kernel_rfl) (fun _ _ _ h => h) (.inl ⟨by rfl, fun w hS => by (go_simp; try rfl)⟩) hH ?_
            try simp only [Act.put, List.setIfInBounds_toArray, List.set_cons_zero, List.set_cons_succ]
            refine wpAnyH_take (i := 8) (oi := { dst := some 97, op := Op.move (Operand.tmp 17), type := 3, pos := "law.go:140", after := _, guard := some (6, true) }) (v := _) rfl (by kernel_rfl) (by kernel_rfl) (by kernel_rfl) (fun _ _ _ h => h) (.inl ⟨by rfl, fun w hS => by (go_simp; try rfl)⟩) hH ?_
            try simp only [Act.put, List.setIfInBounds_toArray, List.set_cons_zero, List.set_cons_succ]
            refine wpAnyH_take (i := 9) (oi := { dst := some 98, op := Op.slice 31 (Operand.tmp 96) (some (Operand.tmp 97)) none none, type := 31, pos := "law.go:140", after := _, guard := some (6, true) }) (v := .slice pDa sl (cAa - ia)) rfl (by kernel_rfl) (by kernel_rfl) (by kernel_rfl) (fun _ _ _ h => h) (yieldsIf_sllm (by rfl) 31 rfl rfl rfl Tryd.underlying31 el_Block.1 (by omega) HPa.out (by omega)) hH ?_
            try simp only [Act.put, List.setIfInBounds_toArray, List.set_cons_zero, List.set_cons_succ]
            refine wpAnyH_take (i := 10) (oi := { dst := some 99, op := Op.move (Operand.tmp 15), type := 31, pos := "law.go:140", after := _, guard := some (6, true) }) (v := _) rfl (by kernel_rfl) (by kernel_rfl) (by kernel_rfl) (fun _ _ _ h => h) (.inl ⟨by rfl, fun w hS => by (go_simp; try rfl)⟩) hH ?_
            try simp only [Act.put, List.setIfInBounds_toArray, List.set_cons_zero, List.set_cons_succ]
            refine wpAnyH_take (i := 11) (oi := { dst := some 100, op := Op.move (Operand.tmp 18), type := 3, pos := "law.go:140", after := _, guard := some (6, true) }) (v := _) rfl (by kernel_rfl) (by kernel_rfl) (by kernel_rfl) (fun _ _ _ h => h) (.inl ⟨by rfl, fun w hS => by (go_simp; try rfl)⟩) hH ?_
            try simp only [Act.put, List.setIfInBounds_toArray, List.set_cons_zero, List.set_cons_succ]
            refine wpAnyH_take (i := 12) (oi := { dst := some 101, op := Op.slice 31 (Operand.tmp 99) (some (Operand.tmp 100)) none none, type := 31, pos := "law.go:140", after := _, guard := some (6, true) }) (v := .slice pDb sl (cAb - ib)) rfl (by kernel_rfl) (by kernel_rfl) (by kernel_rfl) (fun _ _ _ h => h) (yieldsIf_sllm (by rfl) 31 rfl rfl rfl Tryd.underlying31 el_Block.1 (by omega) HPb.out (by omega)) hH ?_
            try simp only [Act.put, List.setIfInBounds_toArray, List.set_cons_zero, List.set_cons_succ]
            refine wpAnyH_ready (rs := [13]) (by kernel_rfl) (by simp) ?_
            refine AllReadyH.cons (o := { dst := some 102, op := Op.call { callee := Callee.value (Operand.func 16), args := #[Operand.tmp 98, Operand.tmp 101], argTypes := #[31, 31] }, type := 3, pos := "law.go:140", after := _, guard := some (6, true) }) rfl (fun K hK => ?_) AllReadyH.nil
            rw [if_pos (by rfl)]
            go_simp
            refine (HSM_.out _ _ _ _ _ _ _ _ _ (bs_drop hAa HAA16_.out GRA_.out HPa.out) (bs_drop hAb HAB16_.out GRB_.out HPb.out)).mono ?_
            rintro r wq ⟨rfl, hb⟩
            have hbs := hb.size
            try simp only [World.size_alloc, World.size_setCell, World.size_drew, size_setRow] at hbs
            go_wp2_with fail
            refine hK.out _ _ ⟨bk_, bk_, bk_, sl_, sl_, sl_, bk_, sl_, bk_, bl_, Nat.le_trans (sz_) hb.size⟩ (fun hH2 => ?_)
            clear hH
            have hH := hH2
            obtain ⟨hBW, hA, hA2, hXa, hXb, hAa, hSa, hAb, hSb, hfar, hsz⟩ := hH2
            clear hK K
            try simp only [Act.put, List.setIfInBounds_toArray, List.set_cons_zero, List.set_cons_succ]
            refine wpAnyH_take (i := 14) (oi := { dst := some 103, op := Op.binOp BinOp.eql 3 (Operand.tmp 102) (Operand.const (Value.int IntKind.i64 1)) 3, type := 4, pos := "law.go:140", after := _, guard := some (6, true) }) (v := .bool true) rfl (by kernel_rfl) (by kernel_rfl) (by kernel_rfl) (fun _ _ _ h => h) (.inl ⟨by rfl, fun w hS => by go_simp⟩) hH ?_
            try simp only [Act.put, List.setIfInBounds_toArray, List.set_cons_zero, List.set_cons_succ]
            refine wpAnyH_take (i := 15) (oi := { dst := some 104, op := Op.pick (Operand.tmp 95) (Operand.tmp 103) (Operand.const (Value.bool false)), type := 4, pos := "law.go:140", after := _, guard := none }) (v := .bool true) rfl (by kernel_rfl) (by kernel_rfl) (by kernel_rfl) (fun _ _ _ h => h) (.inl ⟨by rfl, fun w hS => by go_simp⟩) hH ?_
            try simp only [Act.put, List.setIfInBounds_toArray, List.set_cons_zero, List.set_cons_succ]
            refine wpAnyH_take (i := 16) (oi := { dst := some 105, op := Op.move (Operand.tmp 104), type := 4, pos := "law.go:140", after := _, guard := none }) (v := _) rfl (by kernel_rfl) (by kernel_rfl) (by kernel_rfl) (fun _ _ _ h => h) (.inl ⟨by rfl, fun w hS => by (go_simp; try rfl)⟩) hH ?_
            try simp only [Act.put, List.setIfInBounds_toArray, List.set_cons_zero, List.set_cons_succ]
            refine wpAnyH_take (i := 17) (oi := { dst := some 106, op := Op.load 34 (Operand.tmp 14), type := 34, pos := "law.go:140", after := _, guard := some (16, true) }) (v := .agg (arrV S)) rfl (by kernel_rfl) (by kernel_rfl) (by kernel_rfl) (fun _ _ _ h => h) (yieldsIf_ld (by rfl) 34 rfl w_State rfl (fun _ hS => hS.2.2.2.2.2.2.1) zz_) hH ?_
            try simp only [Act.put, List.setIfInBounds_toArray, List.set_cons_zero, List.set_cons_succ]
            refine wpAnyH_take (i := 18) (oi := { dst := some 107, op := Op.load 34 (Operand.tmp 16), type := 34, pos := "law.go:140", after := _, guard := some (16, true) }) (v := .agg (arrV S)) rfl (by kernel_rfl) (by kernel_rfl) (by kernel_rfl) (fun _ _ _ h => h) (yieldsIf_ld (by rfl) 34 rfl w_State rfl (fun _ hS => hS.2.2.2.2.2.2.2.2.1) zz_) hH ?_
            try simp only [Act.put, List.setIfInBounds_toArray, List.set_cons_zero, List.set_cons_succ]
            refine wpAnyH_take (i := 19) (oi := { dst := some 108, op := Op.binOp BinOp.eql 34 (Operand.tmp 106) (Operand.tmp 107) 34, type := 4, pos := "law.go:140", after := _, guard := some (16, true) }) (v := .bool true) rfl (by kernel_rfl) (by kernel_rfl) (by kernel_rfl) (fun _ _ _ h => h) (yieldsIf_eql (b := true) (by rfl) 34 rfl rfl rfl eg_State (eq_state_self LS)) hH ?_
            try simp only [Act.put, List.setIfInBounds_toArray, List.set_cons_zero, List.set_cons_succ]
            refine wpAnyH_take (i := 20) (oi := { dst := some 109, op := Op.pick (Operand.tmp 105) (Operand.tmp 108) (Operand.const (Value.bool false)), type := 4, pos := "law.go:140", after := _, guard := none }) (v := .bool true) rfl (by kernel_rfl) (by kernel_rfl) (by kernel_rfl) (fun _ _ _ h => h) (.inl ⟨by rfl, fun w hS => by go_simp⟩) hH ?_
            try simp only [Act.put, List.setIfInBounds_toArray, List.set_cons_zero, List.set_cons_succ]
            refine wpAnyH_take (i := 21) (oi := { dst := some 10, op := Op.assign (Operand.tmp 109), type := 4, pos := "law.go:140", after := _, guard := none }) (v := _) rfl (by kernel_rfl) (by kernel_rfl) (by kernel_rfl) (fun _ _ _ h => h) (.inl ⟨by rfl, fun w hS => by (go_simp; try rfl)⟩) hH ?_
            try simp only [Act.put, List.setIfInBounds_toArray, List.set_cons_zero, List.set_cons_succ]
            refine wpAnyH_done (by kernel_rfl) ?_ _
            go_wp2_with fail
            go_ret
            exact ⟨rfl, (by (try rw [hB]); exact bl_)⟩
end Go.Proofs.YtbpdocdomjafbaaDoor
