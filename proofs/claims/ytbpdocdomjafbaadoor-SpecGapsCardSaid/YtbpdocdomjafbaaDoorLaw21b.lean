/- The walk of spoollaw21.SpecSounds: whatever comes in, it returns true. -/
import Derived.Test.YtbpdocdomjafbaaDoorLaw21a
import Derived.Test.YtbpdocdomjafbaaDoorLot8
set_option linter.unusedSimpArgs false
set_option linter.unusedVariables false
namespace Go.Proofs.YtbpdocdomjafbaaDoor
open Go.RowKit

theorem step_wrong {L : List Int} {e : Ent} (h : rightE e = false) : stepO L e = [] ∧ stepS L e = L := by
  unfold stepO stepS; rw [h]; exact ⟨rfl, rfl⟩
theorem fold_right (L : List Int) (l : List Ent) : foldO L (l.filter rightE) = foldO L l ∧ foldS L (l.filter rightE) = foldS L l := by
  induction l generalizing L with
  | nil => exact ⟨rfl, rfl⟩
  | cons e r ih =>
    rw [List.filter_cons]
    split
    · exact ⟨by rw [foldO, foldO, (ih _).1], by rw [foldS_cons, foldS_cons, (ih _).2]⟩
    · next h =>
      have h2 := step_wrong (L := L) (e := e) (by simpa using h)
      exact ⟨by rw [foldO, h2.1, h2.2, List.nil_append, (ih _).1], by rw [foldS_cons, h2.2, (ih _).2]⟩
theorem sounds_right (l : List Ent) : soundsE (l.filter rightE) = soundsE l := by
  unfold soundsE
  rw [List.filter_filter]
  congr 1
  apply List.filter_congr
  intro e _
  unfold heardE
  cases rightE e <;> simp
/-- Each sound has 16 bits. -/
def In16 (b : List Int) : Prop := ∀ x ∈ b, -32768 ≤ x ∧ x ≤ 32767
theorem in16_zero (n : Nat) : In16 (List.replicate n 0) := fun x hx => by have := (List.mem_replicate.1 hx).2; omega
theorem in16_sound (l : List Int) : In16 (soundL l) := fun x hx => by
  obtain ⟨y, _, rfl⟩ := List.mem_map.1 hx
  exact cut_idem16 y
theorem stepO_in16 (L : List Int) (e : Ent) : ∀ b ∈ stepO L e, In16 b := by
  unfold stepO
  intro b hb
  split at hb
  · split at hb
    · simp only [List.mem_singleton] at hb
      subst hb
      unfold decO
      split
      · exact in16_sound _
      · exact in16_zero 16
    · split at hb
      · simp only [List.mem_singleton] at hb
        subst hb
        unfold loseO
        split
        · exact in16_sound _
        · exact in16_zero 16
      · cases hb
  · cases hb
theorem foldO_in16 (L : List Int) (l : List Ent) : ∀ b ∈ foldO L l, In16 b := by
  induction l generalizing L with
  | nil => intro b hb; cases hb
  | cons e r ih =>
    intro b hb
    rcases List.mem_append.1 hb with h | h
    · exact stepO_in16 L e b h
    · exact ih _ b h
set_option maxRecDepth 100000 in
set_option maxHeartbeats 8000000 in
theorem SpecSounds_any (L : List Int) (hL : L.length = 38) (l : List Ent) (p : Option Addr) (cap : Nat) (w : World) (hW : BandsW w) (hE : EntIn w p cap l) :
    Calls Tryd.prog 5 #[.agg (arrV L), .slice p l.length cap] w fun r w' => r = .returned (.bool true) ∧ Below w.heap.size w w' := by
  have hBW : Blk w 0 bandC 142 := hW
  have hB0 := hW.lt
  have LL := Len.mk hL
  have hc1 := hE.1
  have hc2 := hE.2.1
  have hfew := few_any l p cap
  have hRR := fun w => RRight_any L hL w
  obtain ⟨n, hn⟩ : ∃ n, l.length = n := ⟨_, rfl⟩
  have HN := Lib.hid hn
  have hOf := fun h w => Of21_any l h p cap w
  rw [hn] at hc1 hfew hOf ⊢
  have HFEW := Lib.hid hfew
  have HOF := Lib.hid hOf
  have HRR := Lib.hid hRR
  have HE := Lib.hid hE
  clear hE hn hW hL hfew hOf hRR
  obtain ⟨B, hB⟩ : ∃ B, w.heap.size = B := ⟨_, rfl⟩
  rw [hB] at hB0
  have hfar := Below.refl B w
  have hsz : B ≤ w.heap.size := by omega
  go_enter Tryd.func5, Tryd.ntmps5
  go_upto_region 1 with (fail)
  refine wp_gen (fun W => Blk W (0) (bandC) 142 ∧ Blk W (B) (arrV L) 25 ∧ Below (B) w W ∧ B + 1 ≤ W.heap.size) ⟨bk_, bk_, bl_, sz_⟩ ?_
  clear hBW hfar hsz
  rintro w1 ⟨hBW, hA, hfar, hsz⟩
  go_wp2_with fail
  refine (awake_any _ hBW).mono ?_
  rintro e w2 ⟨rfl, hb2⟩
  replace hBW := hBW.newB hb2
  replace hA := hA.newB hb2
  replace hfar := hfar.trans (hb2.mono (by omega))
  replace hsz := Nat.le_trans hsz hb2.size
  go_wp2_with fail
  refine (HFEW.out _ (HE.out.below hB.symm hfar)).mono ?_
  rintro r wf ⟨rfl, rfl⟩
  cases hf : fewE l with
  | false =>
    go_wp2_with fail
    refine (awake_any _ hBW).mono ?_
    rintro e w3 ⟨rfl, hb3⟩
    replace hBW := hBW.newB hb3
    replace hA := hA.newB hb3
    replace hfar := hfar.trans (hb3.mono (by omega))
    replace hsz := Nat.le_trans hsz hb3.size
    go_wp2_with fail
    go_ret
    exact ⟨rfl, (by (try rw [hB]); exact bl_)⟩
  | true =>
    have h25 : n ≤ 25 := by rw [← HN.out]; exact few_len hf
    clear hf
    go_wp2_with (first | (refine ld 25 rfl (by rfl) w_RState rfl bk_ lz_ ?_))
    refine (HRR.out _).mono ?_
    rintro e w3 ⟨rfl, hb3⟩
    replace hBW := hBW.newB hb3
    replace hA := hA.newB hb3
    replace hfar := hfar.trans (hb3.mono (by omega))
    replace hsz := Nat.le_trans hsz hb3.size
    cases hr : rightS L with
    | false =>
      go_wp2_with fail
      refine (awake_any _ hBW).mono ?_
      rintro e w4 ⟨rfl, hb4⟩
      replace hBW := hBW.newB hb4
      replace hA := hA.newB hb4
      replace hfar := hfar.trans (hb4.mono (by omega))
      replace hsz := Nat.le_trans hsz hb4.size
      go_wp2_with fail
      go_ret
      exact ⟨rfl, (by (try rw [hB]); exact bl_)⟩
    | true =>
      have HRI := Lib.hid hr
      clear hr
      go_wp2_with fail
      refine (HOF.out (by omega) _ (HE.out.below hB.symm hfar)).mono ?_
      rintro r w4 ⟨v4, rfl, hv4, hb4⟩
      replace hBW := hBW.newB hb4
      replace hA := hA.newB hb4
      replace hfar := hfar.trans (hb4.mono (by omega))
      replace hsz := Nat.le_trans hsz hb4.size
      obtain ⟨p2, c2, rfl, hQ⟩ := hv4.sl
      rw [HN.out] at hQ ⊢
      have hnc : n ≤ c2 := hQ.2.1
      have hcm := hQ.2.2.1
      unfold maxLen at hcm
      obtain ⟨q0, hq0⟩ : ∃ q, w3.heap.size = q := ⟨_, rfl⟩
      obtain ⟨q1, hq1⟩ : ∃ q, w4.heap.size = q := ⟨_, rfl⟩
      rw [hq0, hq1] at hQ
      have hq1B : B + 1 ≤ q1 := by omega
      clear hv4 hq0
      obtain ⟨i0, hi, hz0, hz1, hz2⟩ := info_parts info_Entry
      have HOF := Lib.hid trivial
      clear HOF
      have HQ1 := Lib.hid hq1
      clear hq1
      go_wp2_with fail
      go_loopw [6, 7] (fun v i wr => ∃ (k : Nat), k ≤ n ∧ i = .int .i64 k ∧ Blk wr 0 bandC 142 ∧ Blk wr B (arrV L) 25 ∧ SL wr q0 q1 3 p2 n c2 (flE l) ∧ OW wr q1 wr.heap.size 43 3 v ((l.take k).filter rightE).length (flE ((l.take k).filter rightE)) ∧ Below B w wr ∧ q1 ≤ wr.heap.size) (fun _ i _ => n - (intOf i).toNat)
      case atStart => exact ⟨0, by omega, rfl, hBW, hA, hQ, OW.nil _ _ _ _ _ (Nat.le_refl _), hfar, by have := HQ1.out; omega⟩
      case round =>
        clear hBW hA hQ hfar hsz
        obtain ⟨k, hk, rfl, hBW, hA, hQ, hR, hfar, hsz⟩ := hrel
        by_cases hlt : k < n
        · have hkl : k < l.length := by rw [HN.out]; exact hlt
          obtain ⟨e, he⟩ : ∃ e, l[k] = e := ⟨_, rfl⟩
          have hget : l[k]? = some e := by rw [List.getElem?_eq_getElem hkl, he]
          have hES : ES wr q0 q1 p2 c2 l := by unfold ES; rw [HN.out]; exact hQ
          obtain ⟨b, o, rfl, hb1, hb2, hr⟩ := hES.get hget
          have hS1 : (l.take (k + 1)).filter rightE = (l.take k).filter rightE ++ (if rightE e then [e] else []) := by
            rw [List.take_add_one, hget, Option.toList_some, List.filter_append]
            congr 1
            rw [List.filter_cons, List.filter_nil]
          have hle := List.length_filter_le rightE (l.take k)
          rw [List.length_take, HN.out] at hle
          obtain ⟨F, hF⟩ : ∃ F, (l.take k).filter rightE = F := ⟨_, rfl⟩
          rw [hF] at hS1 hR hle
          obtain ⟨nF, hnF⟩ : ∃ m, F.length = m := ⟨_, rfl⟩
          rw [hnF] at hR hle
          have HS1 := Lib.hid hS1
          have HnF := Lib.hid hnF
          clear hF hnF hS1 hkl he hget hES
          go_wp2_with (first | (refine ldr 43 rfl (by rfl) w_Entry rfl (by assumption) (by rfl) ?_))
          refine (ERight_any e _).mono ?_
          rintro r w5 ⟨rfl, hb5⟩
          have hR5 := hR.newB hb5
          have hr5 := range_below hr hb5 (by omega)
          replace hBW := hBW.newB hb5
          replace hA := hA.newB hb5
          replace hQ := hQ.newB hb5
          replace hfar := hfar.trans (hb5.mono (by omega))
          replace hsz := Nat.le_trans hsz hb5.size
          have hs5 := hb5.size
          clear hr hR
          cases hr2 : rightE e with
          | false =>
            have h1 : (l.take (k + 1)).filter rightE = F := by rw [HS1.out, hr2]; simp
            have H1 := Lib.hid h1
            clear h1
            go_wp2_with fail
            go_roundw
            case rel => exact ⟨k + 1, hlt, by go_num, hBW, hA, hQ, by rw [H1.out, HnF.out]; exact hR5.up (Nat.le_refl _) hs5 (Nat.le_refl _), hfar, by omega⟩
            case measure => simp [intOf]; omega
          | true =>
            have h1 : (l.take (k + 1)).filter rightE = F ++ [e] := by rw [HS1.out, hr2]; simp
            have H1 := Lib.hid h1
            clear h1
            have hN : Blk (w5.alloc (.cells (entV e) 43)) w5.heap.size (entV e) 43 := Blk.newAt rfl
            have hRa := hR5.alloc (.cells (entV e) 43)
            have hsl := SL.blk hN (n := 1) (size := 3) rfl (by unfold maxLen; omega)
            have hvb : ∀ j, u6.ownBlock = some j → q1 ≤ j := fun j hj => (World.ownsRow.lt hR5.1 j hj).1
            have HVB := Lib.hid hvb
            clear hvb
            go_wp2_with (first | (refine ldr 43 rfl (by rfl) w_Entry rfl (by assumption) (by rfl) ?_) | (refine bs1 29 rfl (by rfl) rfl Tryd.underlying29 el_Entry (by omega) (by omega) (by rfl) ?_) | (refine ap 29 rfl (by rfl) rfl q1 43 i0 (.agg #[.int .i64 0, .int .u32 0, .string ⟨#[]⟩]) 3 32 Tryd.underlying29 hi hz0 hz1 hz2 rfl (by omega) rfl hRa.1 rfl hsl (fun u hu => flatE_one [e] u (by simpa using hu)) (by unfold maxLen; omega) (by omega) (by rw [World.size_alloc]; omega) ?_; intro v' w6 hown hgr _))
            have hf6 : Below B w w6 := (hfar.alloc (by omega) _).grown hgr (by rw [World.size_alloc]; omega) (fun j hj => by have := HVB.out j hj; omega)
            have hBW6 := (hBW.alloc (.cells (entV e) 43)).kept hgr (fun h => by have := HVB.out _ h.symm; omega)
            have hA6 := (hA.alloc (.cells (entV e) 43)).kept hgr (fun h => by have := HVB.out _ h.symm; omega)
            have hQ6 := (hQ.alloc (.cells (entV e) 43)).grown hgr (fun j hj => by have := HVB.out j hj; omega)
            have hs6 := hgr.size
            rw [World.size_alloc] at hs6
            go_roundw
            case rel => exact ⟨k + 1, hlt, by go_num, hBW6, hA6, hQ6, by rw [H1.out, List.length_append, HnF.out, flE, List.flatMap_append, List.flatMap_singleton]; exact OW.mk0 hown, hf6, by omega⟩
            case measure => simp [intOf]; omega
        · obtain rfl : k = n := by omega
          have ht : l.take k = l := by rw [← HN.out]; exact List.take_length
          rw [ht] at hR
          have hcount := foldO_count LL.out HRI.out l
          have hA1 := foldO_len L l
          have hA16 := foldO_in16 L l
          have hLa := foldO_le L l
          have hMR := foldS_right LL.out HRI.out l
          rw [HN.out] at hLa
          have LM1 := Len.mk (foldS_len LL.out l)
          have hF1 := fun w lo hi (hW : BandsW w) (hs : SL w lo hi 3 p2 k c2 (flE l)) => toBN (Fold_all LL HN.out (by omega) hW hs)
          have hlr := List.length_filter_le rightE l
          rw [HN.out] at hlr
          have hfr := fold_right L l
          obtain ⟨p6, c6, rfl, hQr⟩ := hR.sl
          have hSd1 := fun w lo hi (hs : SL w lo hi 3 p2 k c2 (flE l)) => Sounds_any HN.out (by omega) hs
          obtain ⟨nr, hnr⟩ : ∃ m, (l.filter rightE).length = m := ⟨_, rfl⟩
          have hF2 := fun w lo hi (hW : BandsW w) (hs : SL w lo hi 3 p6 nr c6 (flE (l.filter rightE))) => toBN (Fold_all LL hnr (by omega) hW hs)
          have hSd2 := fun w lo hi (hs : SL w lo hi 3 p6 nr c6 (flE (l.filter rightE))) => Sounds_any hnr (by omega) hs
          rw [hfr.1, hfr.2] at hF2
          rw [sounds_right] at hSd2
          rw [← hcount] at hSd1 hSd2
          rw [hnr] at hQr hlr ⊢
          have hSm := fun lo1 hi1 lo2 hi2 p1 p2 c1 c2 w h1 h2 => Same_any (foldO L l) hA1 (by omega) lo1 hi1 lo2 hi2 p1 p2 c1 c2 w h1 h2
          have hRt := fun w => Right_any (foldS L l) LM1.out w
          rw [hMR] at hRt
          simp only [BS] at hSm
          obtain ⟨A, hAe⟩ : ∃ A, foldO L l = A := ⟨_, rfl⟩
          obtain ⟨M, hMe⟩ : ∃ M, foldS L l = M := ⟨_, rfl⟩
          simp only [hAe, hMe] at hA1 hA16 hLa LM1 hF1 hF2 hSm hSd1 hSd2 hRt
          obtain ⟨na, hna⟩ : ∃ n, A.length = n := ⟨_, rfl⟩
          simp only [hna] at hF1 hF2 hSm hLa hSd1 hSd2
          obtain ⟨lr, hlre⟩ : ∃ x, flE (l.filter rightE) = x := ⟨_, rfl⟩
          have hQr2 : SL wr q1 wr.heap.size 3 p6 nr c6 lr := by rw [← hlre]; exact hQr
          rw [hlre] at hF2 hSd2
          obtain ⟨N, hN⟩ : ∃ N, wr.heap.size = N := ⟨_, rfl⟩
          rw [hN] at hQr2 hsz
          have hq1N : q1 ≤ N := hsz
          replace hsz : N ≤ wr.heap.size := by omega
          have HF1 := Lib.hid hF1
          have HF2 := Lib.hid hF2
          have HSM := Lib.hid hSm
          have HSD1 := Lib.hid hSd1
          have HSD2 := Lib.hid hSd2
          have HRT := Lib.hid hRt
          have HA1 := Lib.hid hA1
          have HA16 := Lib.hid hA16
          have HNA := Lib.hid hna
          clear hF1 hF2 hSm hSd1 hSd2 hRt hA1 hA16 hna hcount hMR hfr hnr hAe hMe hlre hR hQr ht
          go_wp2_with (first | (refine ld 25 rfl (by rfl) w_RState rfl bk_ lz_ ?_))
          refine (Of_any L LL.out _).mono ?_
          rintro e w7 ⟨rfl, hb7⟩
          replace hBW := hBW.newB hb7
          replace hA := hA.newB hb7
          replace hQ := hQ.newB hb7
          replace hQr2 := hQr2.newB hb7
          replace hfar := hfar.trans (hb7.mono (by omega))
          replace hsz := Nat.le_trans hsz hb7.size
          go_wp2_with fail
          refine (HF1.out _ _ _ hBW hQ).mono ?_
          rintro r w8 ⟨v8, rfl, hv8, hb8⟩
          replace hBW := hBW.newB hb8
          replace hA := hA.newB hb8
          replace hQ := hQ.newB hb8
          replace hQr2 := hQr2.newB hb8
          replace hfar := hfar.trans (hb8.mono (by omega))
          replace hsz := Nat.le_trans hsz hb8.size
          obtain ⟨pa, ca, loa, hia, rfl, hsa, hloa, hha⟩ := own_ex hv8
          obtain ⟨N8, hN8⟩ : ∃ N, w8.heap.size = N := ⟨_, rfl⟩
          rw [hN8] at hha
          have hNN8 : N ≤ N8 := by omega
          clear hv8 hloa
          go_upto_region 11 with (first | (refine st 43 rfl (by rfl) w_Entry rfl rfl bk_ zz_ zz_ one_ ?_) | (refine ld 43 rfl (by rfl) w_Entry rfl bk_ zz_ ?_) | (refine bd 34 rfl (by rfl) rfl state_zs ?_) | (refine bd 32 rfl (by rfl) rfl block_zs ?_) | (refine ld 34 rfl (by rfl) w_State rfl bk_ lz_ ?_) | (refine ld 32 rfl (by rfl) w_Block rfl bk_ lz_ ?_) | (refine ldp 32 rfl (by rfl) w_Block rfl bk_ ln_ (by omega) ?_) | (refine ld 23 rfl (by rfl) w_Four rfl bk_ lz_ ?_) | (refine ldp 23 rfl (by rfl) w_Four rfl bk_ ln_ (by omega) ?_) | (refine st 34 rfl (by rfl) w_State rfl rfl bk_ lz_ lz_ one_ ?_) | (refine st 32 rfl (by rfl) w_Block rfl rfl bk_ lz_ lz_ one_ ?_) | (refine st 23 rfl (by rfl) w_Four rfl rfl bk_ lz_ lz_ one_ ?_))
          refine wp_gen (fun W => Blk W (0) (bandC) 142 ∧ Blk W (B) (arrV L) 25 ∧ SL W (q0) (q1) (3) (p2) (k) (c2) (flE l) ∧ SL W (q1) (N) (3) (p6) (nr) (c6) (lr) ∧ SL W (loa) (hia) (16) (pa) (na) (ca) (A.flatMap intsV) ∧ Blk W (N8) (arrV M) 34 ∧ Below (B) w W ∧ N8 + 1 ≤ W.heap.size) ⟨bk_, bk_, sl_, sl_, sl_, bk_, bl_, sz_⟩ ?_
          clear hBW hA hQ hQr2 hsa hfar hsz
          rintro w9 ⟨hBW, hA, hQ, hQr2, hsa, hM1, hfar, hsz⟩
          go_wp2_with (first | (refine ld 25 rfl (by rfl) w_RState rfl bk_ lz_ ?_))
          refine (Of_any L LL.out _).mono ?_
          rintro e w10 ⟨rfl, hb10⟩
          replace hBW := hBW.newB hb10
          replace hA := hA.newB hb10
          replace hQ := hQ.newB hb10
          replace hQr2 := hQr2.newB hb10
          replace hsa := hsa.newB hb10
          replace hM1 := hM1.newB hb10
          replace hfar := hfar.trans (hb10.mono (by omega))
          replace hsz := Nat.le_trans hsz hb10.size
          go_wp2_with fail
          refine (HF2.out _ _ _ hBW hQr2).mono ?_
          rintro r w11 ⟨v11, rfl, hv11, hb11⟩
          replace hBW := hBW.newB hb11
          replace hA := hA.newB hb11
          replace hQ := hQ.newB hb11
          replace hQr2 := hQr2.newB hb11
          replace hsa := hsa.newB hb11
          replace hM1 := hM1.newB hb11
          replace hfar := hfar.trans (hb11.mono (by omega))
          replace hsz := Nat.le_trans hsz hb11.size
          obtain ⟨pb, cb, lob, hib, rfl, hsb, hlob, hhb⟩ := own_ex hv11
          obtain ⟨N11, hN11⟩ : ∃ N, w11.heap.size = N := ⟨_, rfl⟩
          rw [hN11] at hhb
          have hNN11 : N8 + 1 ≤ N11 := by omega
          clear hv11 hlob
          go_upto_region 12 with (first | (refine st 43 rfl (by rfl) w_Entry rfl rfl bk_ zz_ zz_ one_ ?_) | (refine ld 43 rfl (by rfl) w_Entry rfl bk_ zz_ ?_) | (refine bd 34 rfl (by rfl) rfl state_zs ?_) | (refine bd 32 rfl (by rfl) rfl block_zs ?_) | (refine ld 34 rfl (by rfl) w_State rfl bk_ lz_ ?_) | (refine ld 32 rfl (by rfl) w_Block rfl bk_ lz_ ?_) | (refine ldp 32 rfl (by rfl) w_Block rfl bk_ ln_ (by omega) ?_) | (refine ld 23 rfl (by rfl) w_Four rfl bk_ lz_ ?_) | (refine ldp 23 rfl (by rfl) w_Four rfl bk_ ln_ (by omega) ?_) | (refine st 34 rfl (by rfl) w_State rfl rfl bk_ lz_ lz_ one_ ?_) | (refine st 32 rfl (by rfl) w_Block rfl rfl bk_ lz_ lz_ one_ ?_) | (refine st 23 rfl (by rfl) w_Four rfl rfl bk_ lz_ lz_ one_ ?_))
          refine wp_gen (fun W => Blk W (0) (bandC) 142 ∧ Blk W (B) (arrV L) 25 ∧ SL W (q0) (q1) (3) (p2) (k) (c2) (flE l) ∧ SL W (q1) (N) (3) (p6) (nr) (c6) (lr) ∧ SL W (loa) (hia) (16) (pa) (na) (ca) (A.flatMap intsV) ∧ Blk W (N8) (arrV M) 34 ∧ SL W (lob) (hib) (16) (pb) (na) (cb) (A.flatMap intsV) ∧ Blk W (N11) (arrV M) 34 ∧ Below (B) w W ∧ N11 + 1 ≤ W.heap.size) ⟨bk_, bk_, sl_, sl_, sl_, bk_, sl_, bk_, bl_, sz_⟩ ?_
          clear hBW hA hQ hQr2 hsa hM1 hsb hfar hsz
          rintro w12 ⟨hBW, hA, hQ, hQr2, hsa, hM1, hsb, hM2, hfar, hsz⟩
          go_wp2_with fail
          go_loop [12] (fun i => ∃ k : Nat, k ≤ na ∧ i = .int .i64 k) (fun i => na - (intOf i).toNat)
          case atStart => exact ⟨0, by omega, rfl⟩
          case round =>
            obtain ⟨i, hi, rfl⟩ := hrel
            by_cases hlt : i < na
            · have hil : i < A.length := by rw [HNA.out]; exact hlt
              obtain ⟨b, hb⟩ : ∃ b, A[i]? = some b := ⟨_, List.getElem?_eq_getElem hil⟩
              have hBS : BS w12 loa hia pa ca A := by unfold BS; rw [HNA.out]; exact hsa
              have hnca : na ≤ ca := hsa.2.1
              have hcam := hsa.2.2.1
              unfold maxLen at hcam
              obtain ⟨ga, oa, rfl, -, -, hrg⟩ := hBS.get HA1.out hb
              have hbl := HA1.out b (List.mem_of_getElem? hb)
              have hb16 := HA16.out b (List.mem_of_getElem? hb)
              have HBL := Lib.hid hbl
              have HB16 := Lib.hid hb16
              have HRG := Lib.hid hrg
              clear hb hil hBS hbl hb16 hrg
              go_wp2_with fail
              go_loop [13] (fun j => ∃ m : Nat, m ≤ 16 ∧ j = .int .i64 m) (fun j => 16 - (intOf j).toNat)
              case atStart => exact ⟨0, by omega, rfl⟩
              case round =>
                obtain ⟨m, hm, rfl⟩ := hrel
                by_cases hlt2 : m < 16
                · have c0 := HRG.out m _ (ints_get (k := .i64) (by rw [HBL.out]; exact hlt2))
                  have hx := HB16.out (b.getD m 0) (by rw [List.getD_eq_getElem?_getD, List.getElem?_eq_getElem (by rw [HBL.out]; exact hlt2)]; exact List.getElem_mem _)
                  obtain ⟨x, hxe⟩ : ∃ x, b.getD m 0 = x := ⟨_, rfl⟩
                  rw [hxe] at c0 hx
                  obtain ⟨hx0, hx1⟩ := hx
                  clear hxe
                  go_wp2_with fail
                  go_round
                  case rel => exact ⟨m + 1, hlt2, by go_num⟩
                  case measure => simp [intOf]; omega
                · obtain rfl : m = 16 := by omega
                  go_wp2_with fail
                  go_round
                  case rel => exact ⟨i + 1, hlt, by go_num⟩
                  case measure => simp [intOf]; omega
            · obtain rfl : i = na := by omega
              go_wp2_with fail
              refine (HSM.out _ _ _ _ _ _ _ _ _ hsa hsb).mono ?_
              rintro e w13 ⟨rfl, hb13⟩
              replace hBW := hBW.newB hb13
              replace hA := hA.newB hb13
              replace hQ := hQ.newB hb13
              replace hQr2 := hQr2.newB hb13
              replace hsa := hsa.newB hb13
              replace hM1 := hM1.newB hb13
              replace hsb := hsb.newB hb13
              replace hM2 := hM2.newB hb13
              replace hfar := hfar.trans (hb13.mono (by omega))
              replace hsz := Nat.le_trans hsz hb13.size
              go_wp2_with (first | (refine eqw 34 rfl (by rfl) rfl rfl eg_State (eq_state_self LM1) ?_) | (first | (refine st 43 rfl (by rfl) w_Entry rfl rfl bk_ zz_ zz_ one_ ?_) | (refine ld 43 rfl (by rfl) w_Entry rfl bk_ zz_ ?_) | (refine bd 34 rfl (by rfl) rfl state_zs ?_) | (refine bd 32 rfl (by rfl) rfl block_zs ?_) | (refine ld 34 rfl (by rfl) w_State rfl bk_ lz_ ?_) | (refine ld 32 rfl (by rfl) w_Block rfl bk_ lz_ ?_) | (refine ldp 32 rfl (by rfl) w_Block rfl bk_ ln_ (by omega) ?_) | (refine ld 23 rfl (by rfl) w_Four rfl bk_ lz_ ?_) | (refine ldp 23 rfl (by rfl) w_Four rfl bk_ ln_ (by omega) ?_) | (refine st 34 rfl (by rfl) w_State rfl rfl bk_ lz_ lz_ one_ ?_) | (refine st 32 rfl (by rfl) w_Block rfl rfl bk_ lz_ lz_ one_ ?_) | (refine st 23 rfl (by rfl) w_Four rfl rfl bk_ lz_ lz_ one_ ?_)))
              refine (HSD1.out _ _ _ hQ).mono ?_
              rintro e w14 ⟨rfl, hb14⟩
              replace hBW := hBW.newB hb14
              replace hA := hA.newB hb14
              replace hQ := hQ.newB hb14
              replace hQr2 := hQr2.newB hb14
              replace hsa := hsa.newB hb14
              replace hM1 := hM1.newB hb14
              replace hsb := hsb.newB hb14
              replace hM2 := hM2.newB hb14
              replace hfar := hfar.trans (hb14.mono (by omega))
              replace hsz := Nat.le_trans hsz hb14.size
              go_wp2_with fail
              refine (HSD2.out _ _ _ hQr2).mono ?_
              rintro e w15 ⟨rfl, hb15⟩
              replace hBW := hBW.newB hb15
              replace hA := hA.newB hb15
              replace hQ := hQ.newB hb15
              replace hQr2 := hQr2.newB hb15
              replace hsa := hsa.newB hb15
              replace hM1 := hM1.newB hb15
              replace hsb := hsb.newB hb15
              replace hM2 := hM2.newB hb15
              replace hfar := hfar.trans (hb15.mono (by omega))
              replace hsz := Nat.le_trans hsz hb15.size
              go_wp2_with (first | (refine st 43 rfl (by rfl) w_Entry rfl rfl bk_ zz_ zz_ one_ ?_) | (refine ld 43 rfl (by rfl) w_Entry rfl bk_ zz_ ?_) | (refine bd 34 rfl (by rfl) rfl state_zs ?_) | (refine bd 32 rfl (by rfl) rfl block_zs ?_) | (refine ld 34 rfl (by rfl) w_State rfl bk_ lz_ ?_) | (refine ld 32 rfl (by rfl) w_Block rfl bk_ lz_ ?_) | (refine ldp 32 rfl (by rfl) w_Block rfl bk_ ln_ (by omega) ?_) | (refine ld 23 rfl (by rfl) w_Four rfl bk_ lz_ ?_) | (refine ldp 23 rfl (by rfl) w_Four rfl bk_ ln_ (by omega) ?_) | (refine st 34 rfl (by rfl) w_State rfl rfl bk_ lz_ lz_ one_ ?_) | (refine st 32 rfl (by rfl) w_Block rfl rfl bk_ lz_ lz_ one_ ?_) | (refine st 23 rfl (by rfl) w_Four rfl rfl bk_ lz_ lz_ one_ ?_))
              refine (HRT.out _).mono ?_
              rintro e w16 ⟨rfl, hb16⟩
              replace hBW := hBW.newB hb16
              replace hA := hA.newB hb16
              replace hQ := hQ.newB hb16
              replace hQr2 := hQr2.newB hb16
              replace hsa := hsa.newB hb16
              replace hM1 := hM1.newB hb16
              replace hsb := hsb.newB hb16
              replace hM2 := hM2.newB hb16
              replace hfar := hfar.trans (hb16.mono (by omega))
              replace hsz := Nat.le_trans hsz hb16.size
              go_wp2_with fail
              go_ret
              exact ⟨rfl, (by (try rw [hB]); exact bl_)⟩
end Go.Proofs.YtbpdocdomjafbaaDoor
