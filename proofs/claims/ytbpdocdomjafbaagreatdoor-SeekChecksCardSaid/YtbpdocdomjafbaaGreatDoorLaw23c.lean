/- The walk of spoollaw23.SeekChecks: whatever comes in, it returns true. -/
import Derived.Test.YtbpdocdomjafbaaGreatDoorSeek5
import Derived.Test.YtbpdocdomjafbaaGreatDoorApp
import Derived.Test.YtbpdocdomjafbaaGreatDoorNum23
import Derived.Test.YtbpdocdomjafbaaGreatDoorLawBase
set_option linter.unusedSimpArgs false
set_option linter.unusedVariables false
namespace Go.Proofs.YtbpdocdomjafbaaGreatDoor
open Go.RowKit

/-- What has been laid so far, checks put in. -/
structure InvC (m ns : List Ent) (x : Nat) : Prop where
  tr : AllTrue (zs 38) ns
  st : foldS (zs 38) ns = foldS (zs 38) (m.take x)
  out : foldO (zs 38) ns = foldO (zs 38) (m.take x)
  trl : trail ns ≤ trail (m.take x)
theorem InvC.zero (m : List Ent) : InvC m [] 0 := ⟨rfl, rfl, rfl, Nat.le_refl _⟩
theorem alltrue_app1 {a : List Ent} {e : Ent} (h : AllTrue (zs 38) a) (he : trueE (foldS (zs 38) a) e = true) : AllTrue (zs 38) (a ++ [e]) := by
  unfold AllTrue
  rw [truths_app _ _ _ h, truthsE, if_pos he, List.length_append]
  simp [truthsE]
theorem InvC.chk {m ns : List Ent} {x : Nat} (h : InvC m ns x) : InvC m (ns ++ [chkE 0 (foldS (zs 38) (m.take x))]) x := by
  have hl := foldS_len zs_len38 (m.take x)
  have hr := foldS_right zs_len38 zs_right38 (m.take x)
  have hc := chk_true hl hr 0
  have hk : (chkE 0 (foldS (zs 38) (m.take x))).kind = 3 := rfl
  refine ⟨alltrue_app1 h.tr ?_, ?_, ?_, ?_⟩
  · rw [h.st, hc.2 _ hr]; simp
  · rw [foldS_app, foldS_cons, (chk_step hk).2, foldS_nil, h.st]
  · rw [foldO_app, foldO, (chk_step hk).1, h.out]; simp [foldO]
  · rw [trail_app1, hc.1]; simp
theorem InvC.next {m ns : List Ent} {x : Nat} {e : Ent} (hm : AllTrue (zs 38) m) (he : m[x]? = some e) (h : InvC m ns x) : InvC m (ns ++ [e]) (x + 1) := by
  have hx : x < m.length := (List.getElem?_eq_some_iff.1 he).1
  have ht : m.take (x + 1) = m.take x ++ [e] := by rw [List.take_add_one, he, Option.toList_some]
  refine ⟨alltrue_app1 h.tr ?_, ?_, ?_, ?_⟩
  · rw [h.st]; exact true_at he (by unfold AllTrue at hm; omega)
  · rw [ht, foldS_app, foldS_app, h.st]
  · rw [ht, foldO_app, foldO_app, h.st, h.out]
  · rw [ht, trail_app1, trail_app1]
    have := h.trl
    split <;> omega
theorem InvC.stay {m ns : List Ent} {x : Nat} (h : InvC m ns x) (hx : m.length ≤ x) : InvC m ns (x + 1) := by
  have e : m.take (x + 1) = m.take x := by rw [List.take_of_length_le hx, List.take_of_length_le (by omega)]
  exact ⟨h.tr, by rw [e]; exact h.st, by rw [e]; exact h.out, by rw [e]; exact h.trl⟩
def PlaceOk (m ns : List Ent) (k x pl : Nat) : Prop := k < x → pl ≤ ns.length ∧ InvC m (ns.take pl) k
theorem PlaceOk.app {m ns : List Ent} {k x pl : Nat} (h : PlaceOk m ns k x pl) (c : List Ent) : PlaceOk m (ns ++ c) k x pl := fun hk => by
  obtain ⟨h1, h2⟩ := h hk
  exact ⟨by rw [List.length_append]; omega, by rw [List.take_append_of_le_length h1]; exact h2⟩
theorem PlaceOk.here {m ns : List Ent} {k : Nat} (h : InvC m ns k) : PlaceOk m ns k (k + 1) ns.length := fun _ => ⟨Nat.le_refl _, by rw [List.take_length]; exact h⟩
theorem PlaceOk.on {m ns : List Ent} {k x pl : Nat} (h : PlaceOk m ns k x pl) (hx : x ≠ k) : PlaceOk m ns k (x + 1) pl := fun hk => h (by omega)
/-- What is heard from there on, and how many are gone through. -/
theorem seek_same {m ns : List Ent} {k x pl : Nat} (hm : AllTrue (zs 38) m) (hk : k ≤ m.length) (h : InvC m ns x) (hx : m.length ≤ x) (hp : pl ≤ ns.length) (hi : InvC m (ns.take pl) k) :
    fromO ns pl = fromO m k ∧ stepsE ns pl ≤ stepsE m k ∧ stepsE ns pl = trail (ns.take pl) ∧ stepsE m k = trail (m.take k) := by
  have h1 := h.out
  rw [List.take_of_length_le hx] at h1
  have e1 := foldO_count zs_len38 zs_right38 (ns.take pl)
  have e2 := foldO_count zs_len38 zs_right38 (m.take k)
  rw [hi.out] at e1
  have t1 := trail_le (ns.take pl)
  have t2 := trail_le (m.take k)
  rw [List.length_take] at t1 t2
  have s1 : stepsE ns pl = trail (ns.take pl) := by
    unfold stepsE; rw [mayE_nat hp, if_pos rfl]; unfold begK; rw [Int.toNat_natCast]; omega
  have s2 : stepsE m k = trail (m.take k) := by
    unfold stepsE; rw [mayE_nat hk, if_pos rfl]; unfold begK; rw [Int.toNat_natCast]; omega
  refine ⟨?_, ?_, s1, s2⟩
  · rw [from_rest h.tr hp, from_rest hm hk, h1]
    congr 1
    omega
  · rw [s1, s2]; have := hi.trl; omega
theorem list_of_wp {ops : Array Oper} {rest : List Oper} {op : Oper} {a : Act} {w : World} {Q : Exit → Act → World → Prop} (hwd : Region.wanted op (yielded ops a.tmps) = true)
    (h : ∀ K : Act → World → Prop, (∀ a w, wpList Tryz.prog ops Q rest a w → K a w) → op.wp Tryz.prog a w K Q) : wpList Tryz.prog ops Q (op :: rest) a w :=
  wpList_step fun K hK => by rw [if_pos hwd]; exact h K hK
set_option maxRecDepth 100000 in
set_option maxHeartbeats 8000000 in
theorem SeekChecks_any (l : List Ent) (p : Option Addr) (cap : Nat) (va : Value) (za : List Int) (i : Int) (hi0 : 0 ≤ i) (hi255 : i ≤ 255) (w : World) (hW : BandsW w) (hE : EntIn w p cap l) (hZ : NumsIn w .u8 va za) :
    Calls Tryz.prog 3 #[.slice p l.length cap, va, .int .u8 i] w fun r w' => r = .returned (.bool true) ∧ Below w.heap.size w w' := by
  obtain ⟨ao, acap, rfl, ha1, ha2, ha3⟩ := hZ
  obtain ⟨na, hna⟩ : ∃ n, za.length = n := ⟨_, rfl⟩
  rw [hna] at ha1 ⊢
  have hZ2 : ∀ W, Below w.heap.size w W → ∀ j, j < na → ∃ (a : Addr) (x : Int), ao = some a ∧ W.cell? (a.add j) = some (.int .u8 x) ∧ 0 ≤ x ∧ x ≤ 255 := fun W hb j hj => by
    have hjl : j < za.length := by omega
    obtain ⟨a, h1, h2, h3, h4⟩ := ha3 j za[j] (List.getElem?_eq_getElem hjl)
    have h5 := wf_u8 h4
    exact ⟨a, za[j], h1, (hb.cell (by rw [addr_block]; exact h2)).trans h3, h5.1, by have := h5.2; omega⟩
  have HZ := Lib.hid hZ2
  have hBW : Blk w 0 bandC 128 := hW
  have hB0 := hW.lt
  have hc1 := hE.1
  have hc2 := hE.2.1
  have hfew := few23_any l p cap
  obtain ⟨n, hn⟩ : ∃ n, l.length = n := ⟨_, rfl⟩
  have HN := Lib.hid hn
  have hOf := fun h w => Of21_any l h p cap w
  rw [hn] at hc1 hfew hOf ⊢
  have HFEW := Lib.hid hfew
  have HOF := Lib.hid hOf
  have HE := Lib.hid hE
  clear hE hn hW hfew hOf ha3 hna hZ2
  obtain ⟨B, hB⟩ : ∃ B, w.heap.size = B := ⟨_, rfl⟩
  rw [hB] at hB0
  have hfar := Below.refl B w
  have hsz : B ≤ w.heap.size := by omega
  go_enter Tryz.func3, Tryz.ntmps3
  go_wp2_with fail
  refine (awake23_any _ hBW).mono ?_
  rintro e w2 ⟨rfl, hb2⟩
  replace hBW := hBW.newB hb2
  replace hfar := hfar.trans (hb2.mono (by omega))
  replace hsz := Nat.le_trans hsz hb2.size
  go_wp2_with fail
  refine (HFEW.out _ (HE.out.below hB.symm hfar)).mono ?_
  rintro r wf ⟨rfl, rfl⟩
  cases hf : fewE l with
  | false =>
    go_wp2_with fail
    refine (awake23_any _ hBW).mono ?_
    rintro e w3 ⟨rfl, hb3⟩
    replace hBW := hBW.newB hb3
    replace hfar := hfar.trans (hb3.mono (by omega))
    replace hsz := Nat.le_trans hsz hb3.size
    go_wp2_with fail
    go_ret
    exact ⟨rfl, (by (try rw [hB]); exact bl_)⟩
  | true =>
    by_cases hn20 : 20 < na
    · have hn20' : (20 : Int) < na := by omega
      go_wp2_with fail
      refine (awake23_any _ hBW).mono ?_
      rintro e w3 ⟨rfl, hb3⟩
      replace hBW := hBW.newB hb3
      replace hfar := hfar.trans (hb3.mono (by omega))
      replace hsz := Nat.le_trans hsz hb3.size
      go_wp2_with fail
      go_ret
      exact ⟨rfl, (by (try rw [hB]); exact bl_)⟩
    have hn20' : ¬ (20 : Int) < na := by omega
    have h25 : n ≤ 25 := by rw [← HN.out]; exact few_len hf
    clear hf
    go_wp2_with fail
    refine (HOF.out (by omega) _ (HE.out.below hB.symm hfar)).mono ?_
    obtain ⟨q0, hq0⟩ : ∃ q, w2.heap.size = q := ⟨_, rfl⟩
    have hq0B : B ≤ q0 := by omega
    rintro r w3 ⟨v3, rfl, hv3, hb3⟩
    replace hBW := hBW.newB hb3
    replace hfar := hfar.trans (hb3.mono (by omega))
    replace hsz := Nat.le_trans hsz hb3.size
    obtain ⟨p2, c2, rfl, hQ⟩ := hv3.sl
    rw [HN.out] at hQ ⊢
    have hnc : n ≤ c2 := hQ.2.1
    have hcm := hQ.2.2.1
    unfold maxLen at hcm
    obtain ⟨q1, hq1⟩ : ∃ q, w3.heap.size = q := ⟨_, rfl⟩
    rw [hq0, hq1] at hQ
    have hq1B : B ≤ q1 := by omega
    replace hsz : q1 ≤ w3.heap.size := by omega
    clear hv3 hq0 hq1
    have hTn : truthsE (zs 38) l ≤ n := by rw [← HN.out]; exact truths_le _ _
    have hAT := truths_take (zs 38) l
    have hml : (l.take (truthsE (zs 38) l)).length = truthsE (zs 38) l := by rw [List.length_take, HN.out]; omega
    have hTr := fun w (hW : BandsW w) (hs : SL w q0 q1 3 p2 n c2 (flE l)) => Truths_any HN.out (by omega) hW hs
    have hQm := es_take hQ HN.out hTn
    obtain ⟨T, hT⟩ : ∃ T, truthsE (zs 38) l = T := ⟨_, rfl⟩
    rw [hT] at hTn hAT hml hQm
    simp only [hT] at hTr
    obtain ⟨m, hm⟩ : ∃ m, l.take T = m := ⟨_, rfl⟩
    rw [hm] at hAT hml hQm
    obtain ⟨k, hk, hkT⟩ := mod_nat i T
    have hTc : (T : Int) ≤ c2 := by omega
    have HTR := Lib.hid hTr
    have HAT := Lib.hid hAT
    have HML := Lib.hid hml
    have HK := Lib.hid hk
    clear hT hAT hml hm hk hTr
    go_wp2_with fail
    refine (HTR.out _ hBW hQ).mono ?_
    rintro e w4 ⟨rfl, hb4⟩
    replace hBW := hBW.newB hb4
    replace hQ := hQ.newB hb4
    replace hQm := hQm.newB hb4
    replace hfar := hfar.trans (hb4.mono (by omega))
    replace hsz := Nat.le_trans hsz hb4.size
    obtain ⟨g, hs_g⟩ : ∃ g, w4.heap.size = g := ⟨_, rfl⟩
    have hk_g : q1 ≤ g := by omega
    go_upto_region 6 with (fail)
    have hk := HK.out
    simp only [hk]
    clear hk
    clear hQ
    go_upto_region 8 with (fail)
    refine wp_gen (fun W => Blk W (0) (bandC) 128 ∧ SL W (q0) (q1) (3) (p2) (T) (c2) (flE m) ∧ Blk W (g) (arrV (zs 38)) 33 ∧ Below (B) w W ∧ g + 1 ≤ W.heap.size) ⟨bk_, sl_, bk_, bl_, sz_⟩ ?_
    clear hBW hQm hfar hsz
    rintro w5 ⟨hBW, hQm, hS, hfar, hsz⟩
    go_wp2_with fail
    obtain ⟨i0, hi, hz0, hz1, hz2⟩ := info_parts info_Entry
    go_loopw [9, 11, 12] (fun vn pv xv wr => ∃ (x pl : Nat) (ns : List Ent), x ≤ T + 1 ∧ xv = .int .i64 x ∧ pv = .int .i64 pl ∧ Hid (InvC m ns x) ∧ Hid (PlaceOk m ns k x pl) ∧ ns.length ≤ 21 * x ∧ pl ≤ 600 ∧ Blk wr 0 bandC 128 ∧ SL wr q0 q1 3 p2 T c2 (flE m) ∧ Blk wr g (arrV (foldS (zs 38) (m.take x))) 33 ∧ OW wr (g + 1) wr.heap.size 36 3 vn ns.length (flE ns) ∧ Below B w wr ∧ g + 1 ≤ wr.heap.size) (fun _ _ xv _ => T + 1 - (intOf xv).toNat)
    case atStart => exact ⟨0, 0, [], by omega, rfl, rfl, Lib.hid (InvC.zero m), Lib.hid (fun h => by omega), by simp, by omega, hBW, hQm, hS, OW.nil _ _ _ _ _ (Nat.le_refl _), hfar, hsz⟩
    case round =>
      clear hBW hQm hS hfar hsz
      obtain ⟨x, pl, ns, hx, rfl, rfl, HI, HP, hnl, hpl, hBW, hQm, hS, hR, hfar, hsz⟩ := hrel
      by_cases hxT : x ≤ T
      · have hxTi : (x : Int) ≤ T := by omega
        go_wp2_with fail
        go_loopw [9, 13] (fun vn yv wr2 => ∃ (y : Nat) (ns : List Ent), y ≤ na ∧ yv = .int .i64 y ∧ Hid (InvC m ns x) ∧ Hid (PlaceOk m ns k x pl) ∧ ns.length ≤ 21 * x + y ∧ Blk wr2 0 bandC 128 ∧ SL wr2 q0 q1 3 p2 T c2 (flE m) ∧ Blk wr2 g (arrV (foldS (zs 38) (m.take x))) 33 ∧ OW wr2 (g + 1) wr2.heap.size 36 3 vn ns.length (flE ns) ∧ Below B w wr2 ∧ g + 1 ≤ wr2.heap.size) (fun _ yv _ => na - (intOf yv).toNat)
        case atStart => exact ⟨0, ns, by omega, rfl, HI, HP, by omega, hBW, hQm, hS, hR, hfar, hsz⟩
        case round =>
          clear HI HP hnl hBW hQm hS hR hfar hsz ns
          obtain ⟨y, ns, hy, rfl, HI, HP, hnl, hBW, hQm, hS, hR, hfar, hsz⟩ := hrel
          have hl38 := foldS_len zs_len38 (m.take x)
          have hr38 := foldS_right zs_len38 zs_right38 (m.take x)
          by_cases hlt : y < na
          · obtain ⟨a, z, rfl, hcell, hz0', hz1'⟩ := HZ.out _ (by rw [hB]; exact hfar) y hlt
            by_cases hzx : z % ((T : Int) + 1) = x
            · have hCk := fun w => Check_any 0 (foldS (zs 38) (m.take x)) hl38 w
              have hcv : chkV 0 (foldS (zs 38) (m.take x)) = chkE 0 (foldS (zs 38) (m.take x)) := if_pos hr38
              have hce : bytesE (foldS (zs 38) (m.take x)) = 0 := if_pos hr38
              have hI2 := HI.out.chk
              simp only [hcv, hce] at hCk
              obtain ⟨C, hC⟩ : ∃ C, chkE 0 (foldS (zs 38) (m.take x)) = C := ⟨_, rfl⟩
              simp only [hC] at hCk hI2
              have LM := Len.mk hl38
              obtain ⟨M, hM⟩ : ∃ M, foldS (zs 38) (m.take x) = M := ⟨_, rfl⟩
              rw [hM] at hS LM
              simp only [hM] at hCk
              obtain ⟨nn, hnn⟩ : ∃ n, ns.length = n := ⟨_, rfl⟩
              rw [hnn] at hR hnl
              have HNNS := Lib.hid hnn
              have HCK := Lib.hid hCk
              have HI2 := Lib.hid hI2
              have HM := Lib.hid hM
              clear hCk hcv hce hI2 hC hM hl38 hr38 hnn
              go_wp2_with (first | (refine st 36 rfl (by rfl) w_Entry rfl rfl bk_ zz_ zz_ one_ ?_) | (refine ld 36 rfl (by rfl) w_Entry rfl bk_ zz_ ?_) | (refine bd 33 rfl (by rfl) rfl state_zs ?_) | (refine bd 30 rfl (by rfl) rfl block_zs ?_) | (refine ld 33 rfl (by rfl) w_State rfl bk_ lz_ ?_) | (refine ld 30 rfl (by rfl) w_Block rfl bk_ lz_ ?_) | (refine ldp 30 rfl (by rfl) w_Block rfl bk_ ln_ (by omega) ?_) | (refine ld 31 rfl (by rfl) w_Four rfl bk_ lz_ ?_) | (refine ldp 31 rfl (by rfl) w_Four rfl bk_ ln_ (by omega) ?_) | (refine st 33 rfl (by rfl) w_State rfl rfl bk_ lz_ lz_ one_ ?_) | (refine st 30 rfl (by rfl) w_Block rfl rfl bk_ lz_ lz_ one_ ?_) | (refine st 31 rfl (by rfl) w_Four rfl rfl bk_ lz_ lz_ one_ ?_))
              refine (HCK.out _).mono ?_
              rintro e w6 ⟨rfl, hb6⟩
              replace hBW := hBW.newB hb6
              replace hQm := hQm.newB hb6
              replace hS := hS.newB hb6
              replace hfar := hfar.trans (hb6.mono (by omega))
              replace hsz := Nat.le_trans hsz hb6.size
              have hR6 := hR.newB hb6
              have hs6 := hb6.size
              clear hR
              go_wp2_with (first | (refine list_of_wp (by rfl) (fun K hK => wp_bs1b 26 rfl rfl Tryz.underlying26 el_Entry (by omega) (by omega) rfl (fun bc wb hbe hc hbB hbl => hK _ _ ?_))) | (refine list_of_wp (by rfl) (fun K hK => wp_apb 26 rfl rfl 36 i0 (.agg #[.int .i64 0, .int .u32 0, .string ⟨#[]⟩]) 3 32 Tryz.underlying26 hi hz0 hz1 hz2 rfl (by omega) rfl (ow_ (h := (by first | exact (((hR6.alloc _).setRow (by omega) _).newB hbB)))) (g + 1) (Nat.le_refl _) (by simp only [World.size_alloc, size_setRow] at hbl hbe; omega) rfl (SL.blk hc (n := 1) (size := 3) rfl (by unfold maxLen; omega)) (fun u hu => flatE_one [C] u (by simpa using hu)) (by unfold maxLen; omega) (by omega) (fun v7 w7 hr7 hgr hbA => hK _ _ ?_))) | (first | (refine st 36 rfl (by rfl) w_Entry rfl rfl bk_ zz_ zz_ one_ ?_) | (refine ld 36 rfl (by rfl) w_Entry rfl bk_ zz_ ?_) | (refine bd 33 rfl (by rfl) rfl state_zs ?_) | (refine bd 30 rfl (by rfl) rfl block_zs ?_) | (refine ld 33 rfl (by rfl) w_State rfl bk_ lz_ ?_) | (refine ld 30 rfl (by rfl) w_Block rfl bk_ lz_ ?_) | (refine ldp 30 rfl (by rfl) w_Block rfl bk_ ln_ (by omega) ?_) | (refine ld 31 rfl (by rfl) w_Four rfl bk_ lz_ ?_) | (refine ldp 31 rfl (by rfl) w_Four rfl bk_ ln_ (by omega) ?_) | (refine st 33 rfl (by rfl) w_State rfl rfl bk_ lz_ lz_ one_ ?_) | (refine st 30 rfl (by rfl) w_Block rfl rfl bk_ lz_ lz_ one_ ?_) | (refine st 31 rfl (by rfl) w_Four rfl rfl bk_ lz_ lz_ one_ ?_)))
              have hBW7 := (show Blk wb 0 bandC 128 from bk_).below hbA (by omega)
              have hS7 := (show Blk wb g (arrV M) 33 from bk_).below hbA (by omega)
              have hQ7 := (show SL wb q0 q1 3 p2 T c2 (flE m) from sl_).below (hbA.mono (by omega))
              have hf7 : Below B w w7 := (show Below B w wb from bl_).trans (hbA.mono (by omega))
              have hs7 : g + 1 ≤ w7.heap.size := by have h1 := hbA.size; have h2 := hbB.size; simp only [World.size_alloc, size_setRow] at h2; omega
              go_roundw
              case rel => exact ⟨y + 1, ns ++ [C], hlt, by go_num, HI2, Lib.hid (HP.out.app _), by rw [List.length_append, HNNS.out]; simp; omega, hBW7, hQ7, by rw [HM.out]; exact hS7, by rw [List.length_append, HNNS.out, flE, List.flatMap_append, List.flatMap_singleton]; exact hr7, hf7, hs7⟩
              case measure => simp [intOf]; omega
            · go_wp2_with fail
              go_roundw
              case rel => exact ⟨y + 1, ns, hlt, by go_num, HI, HP, by omega, hBW, hQm, hS, hR, hfar, hsz⟩
              case measure => simp [intOf]; omega
          · obtain rfl : y = na := by omega
            obtain ⟨pn, cn, rfl, hsn⟩ := hR.sl
            clear hsn
            by_cases hxk : x = k
            · subst hxk
              have HP2 := Lib.hid (PlaceOk.here HI.out)
              have hpl2 : ns.length ≤ 600 := by omega
              go_upto_region 20 with (fail)
              by_cases hxlt : x < T
              · have hkl : x < m.length := by rw [HML.out]; exact hxlt
                obtain ⟨e, he⟩ : ∃ e, m[x]? = some e := ⟨_, List.getElem?_eq_getElem hkl⟩
                have hES : ES wr q0 q1 p2 c2 m := by unfold ES; rw [HML.out]; exact hQm
                obtain ⟨b, o, rfl, hb1, hb2', hr⟩ := hES.get he
                have HI3 := Lib.hid (HI.out.next HAT.out he)
                have hS1 : foldS (zs 38) (m.take (x + 1)) = stepS (foldS (zs 38) (m.take x)) e := by rw [List.take_add_one, he, Option.toList_some, foldS_app]; rfl
                have LM := Len.mk hl38
                obtain ⟨M, hM⟩ : ∃ M, foldS (zs 38) (m.take x) = M := ⟨_, rfl⟩
                rw [hM] at hS LM hS1
                have hSt := fun w hW => Step_any M LM.out e w hW
                have LS := Len.mk (stepS_len LM.out e)
                obtain ⟨M2, hM2⟩ : ∃ M2, stepS M e = M2 := ⟨_, rfl⟩
                rw [hM2] at hS1 hSt LS
                have HST := Lib.hid hSt
                have HS1 := Lib.hid hS1
                have hxTi2 : (x : Int) < T := by omega
                clear hM hS1 hSt hM2 hkl he hES hl38 hr38
                go_upto_region 22 with (first | (refine ldr 36 rfl (by rfl) w_Entry rfl (by assumption) (by rfl) ?_) | (refine list_of_wp (by rfl) (fun K hK => wp_bs1b 26 rfl rfl Tryz.underlying26 el_Entry (by omega) (by omega) rfl (fun bc wb hbe hc hbB hbl => hK _ _ ?_))) | (refine list_of_wp (by rfl) (fun K hK => wp_apb 26 rfl rfl 36 i0 (.agg #[.int .i64 0, .int .u32 0, .string ⟨#[]⟩]) 3 32 Tryz.underlying26 hi hz0 hz1 hz2 rfl (by omega) rfl (hR.newB hbB) (g + 1) (Nat.le_refl _) (by omega) rfl (SL.blk hc (n := 1) (size := 3) rfl (by unfold maxLen; omega)) (fun u hu => flatE_one [e] u (by simpa using hu)) (by unfold maxLen; omega) (by omega) (fun v7 w7 hr7 hgr hbA => hK _ _ ?_))))
                have hBW7 := (hBW.newB hbB).below hbA (by omega)
                have hS7 := (hS.newB hbB).below hbA (by omega)
                have hQ7 := (hQm.newB hbB).below (hbA.mono (by omega))
                have hrx := range_below (range_below hr hbB (by omega)) hbA (by omega)
                have hf7 : Below B w w7 := (hfar.trans (hbB.mono (by omega))).trans (hbA.mono (by omega))
                have hs7 : g + 1 ≤ w7.heap.size := by have h1 := hbA.size; have h2 := hbB.size; omega
                clear hBW hS hQm hr hfar hsz hR hc hbB hbA hgr hbl hbe
                refine wp_region_held_drew (S := fun W => True) (by kernel_rfl) ⟨⟩ (fun hH => ?_)
                refine wpAnyH_take (i := 1) (oi := { dst := some 95, op := Op.move (Operand.tmp 7), type := 26, pos := "law.go:73", after := _, guard := none }) (v := _) rfl (by kernel_rfl) (by kernel_rfl) (by kernel_rfl) (fun _ _ _ h => h) (.inl ⟨by rfl, fun w hS => by (go_simp; try rfl)⟩) hH ?_
                try simp only [Act.put, List.setIfInBounds_toArray, List.set_cons_zero, List.set_cons_succ]
                refine wpAnyH_take (i := 2) (oi := { dst := some 96, op := Op.move (Operand.tmp 12), type := 3, pos := "law.go:73", after := _, guard := none }) (v := _) rfl (by kernel_rfl) (by kernel_rfl) (by kernel_rfl) (fun _ _ _ h => h) (.inl ⟨by rfl, fun w hS => by (go_simp; try rfl)⟩) hH ?_
                try simp only [Act.put, List.setIfInBounds_toArray, List.set_cons_zero, List.set_cons_succ]
                refine wpAnyH_take (i := 3) (oi := { dst := some 97, op := Op.indexAddr 26 (Operand.tmp 95) (Operand.tmp 96), type := 0, pos := "law.go:73", after := _, guard := none }) (v := _) rfl (by kernel_rfl) (by kernel_rfl) (by kernel_rfl) (fun _ _ _ h => h) (.inl ⟨by rfl, fun w hS => by (go_simp; try rfl)⟩) hH ?_
                try simp only [Act.put, List.setIfInBounds_toArray, List.set_cons_zero, List.set_cons_succ]
                refine wpAnyH_ready (rs := [0, 4]) (by kernel_rfl) (by simp) ?_
                refine AllReadyH.cons (o := { dst := some 94, op := Op.load 33 (Operand.tmp 10), type := 33, pos := "law.go:73", after := _, guard := none }) rfl (fun K hK => ?_) ?_
                · rw [if_pos (by rfl)]
                  refine wp_ld 33 rfl w_State rfl hS7.drew LM.sz ?_
                  refine hK.out _ _ trivial (fun hH => ?_)
                  clear hK K
                  try simp only [Act.put, List.setIfInBounds_toArray, List.set_cons_zero, List.set_cons_succ]
                  refine wpAnyH_ready (rs := [4]) (by kernel_rfl) (by simp) ?_
                  refine AllReadyH.cons (o := { dst := some 98, op := Op.load 36 (Operand.tmp 97), type := 36, pos := "law.go:73", after := _, guard := none }) rfl (fun K hK => ?_) AllReadyH.nil
                  rw [if_pos (by rfl)]
                  refine wp_ldr 36 rfl w_Entry rfl hrx rfl ?_
                  refine hK.out _ _ trivial (fun hH => ?_)
                  clear hK K
                  try simp only [Act.put, List.setIfInBounds_toArray, List.set_cons_zero, List.set_cons_succ]
                  refine wpAnyH_ready (rs := [5]) (by kernel_rfl) (by simp) ?_
                  refine AllReadyH.cons (o := { dst := some 99, op := Op.call { callee := Callee.value (Operand.func 9), args := #[Operand.tmp 94, Operand.tmp 98], argTypes := #[33, 36] }, type := 41, pos := "law.go:73", after := _, guard := none }) rfl (fun K hK => ?_) AllReadyH.nil
                  rw [if_pos (by rfl)]
                  go_simp
                  refine (HST.out _ hBW7.drew).mono ?_
                  rintro r wq ⟨v4, rfl, hv4, hb⟩
                  have hbs := hb.size
                  try simp only [World.size_alloc, World.size_setCell, World.size_drew, size_setRow] at hbs
                  go_wp2_with fail
                  refine hK.out _ _ trivial (fun hH => ?_)
                  clear hK K
                  try simp only [Act.put, List.setIfInBounds_toArray, List.set_cons_zero, List.set_cons_succ]
                  refine wpAnyH_take (i := 6) (oi := { dst := some 93, op := Op.move (Operand.tmp 99), type := 41, pos := "law.go:73", after := _, guard := none }) (v := _) rfl (by kernel_rfl) (by kernel_rfl) (by kernel_rfl) (fun _ _ _ h => h) (.inl ⟨by rfl, fun w hS => by (go_simp; try rfl)⟩) hH ?_
                  try simp only [Act.put, List.setIfInBounds_toArray, List.set_cons_zero, List.set_cons_succ]
                  refine wpAnyH_take (i := 7) (oi := { dst := some 100, op := Op.extract (Operand.tmp 93) 0, type := 40, pos := "law.go:73", after := _, guard := none }) (v := _) rfl (by kernel_rfl) (by kernel_rfl) (by kernel_rfl) (fun _ _ _ h => h) (.inl ⟨by rfl, fun w hS => by (go_simp; try rfl)⟩) hH ?_
                  try simp only [Act.put, List.setIfInBounds_toArray, List.set_cons_zero, List.set_cons_succ]
                  refine wpAnyH_take (i := 8) (oi := { dst := some 101, op := Op.extract (Operand.tmp 93) 1, type := 33, pos := "law.go:73", after := _, guard := none }) (v := _) rfl (by kernel_rfl) (by kernel_rfl) (by kernel_rfl) (fun _ _ _ h => h) (.inl ⟨by rfl, fun w hS => by (go_simp; try rfl)⟩) hH ?_
                  try simp only [Act.put, List.setIfInBounds_toArray, List.set_cons_zero, List.set_cons_succ]
                  refine wpAnyH_ready (rs := [9]) (by kernel_rfl) (by simp) ?_
                  refine AllReadyH.cons (o := { dst := none, op := Op.store 33 (Operand.tmp 10) (Operand.tmp 101), type := 0, pos := "law.go:73", after := _, guard := none }) rfl (fun K hK => ?_) AllReadyH.nil
                  rw [if_pos (by rfl)]
                  refine wp_st 33 rfl w_State rfl rfl bk_ zz_ zz_ one_ ?_
                  refine hK.out _ _ trivial (fun hH => ?_)
                  clear hK K
                  try simp only [Act.put]
                  refine wpAnyH_done (by kernel_rfl) ?_ _
                  go_wp2_with fail
                  go_roundw
                  case rel => exact ⟨x + 1, ns.length, ns ++ [e], by omega, by go_num, rfl, HI3, Lib.hid (HP2.out.app _), by rw [List.length_append]; simp; omega, hpl2, by exact bk_, by exact sl_, by rw [HS1.out]; exact bk_, by rw [List.length_append, flE, List.flatMap_append, List.flatMap_singleton]; exact ((hr7.drew.newB hb).setRow (by omega) _).up (Nat.le_refl _) (by have h1 := hb.size; simp only [size_setRow, World.size_drew] at h1 ⊢; omega) (Nat.le_refl _), (by exact bl_), by exact sz_⟩
                  case measure => simp [intOf] <;> omega
                refine AllReadyH.cons (o := { dst := some 98, op := Op.load 36 (Operand.tmp 97), type := 36, pos := "law.go:73", after := _, guard := none }) rfl (fun K hK => ?_) AllReadyH.nil
                rw [if_pos (by rfl)]
                refine wp_ldr 36 rfl w_Entry rfl hrx rfl ?_
                refine hK.out _ _ trivial (fun hH => ?_)
                clear hK K
                try simp only [Act.put, List.setIfInBounds_toArray, List.set_cons_zero, List.set_cons_succ]
                refine wpAnyH_ready (rs := [0]) (by kernel_rfl) (by simp) ?_
                refine AllReadyH.cons (o := { dst := some 94, op := Op.load 33 (Operand.tmp 10), type := 33, pos := "law.go:73", after := _, guard := none }) rfl (fun K hK => ?_) AllReadyH.nil
                rw [if_pos (by rfl)]
                refine wp_ld 33 rfl w_State rfl hS7.drew LM.sz ?_
                refine hK.out _ _ trivial (fun hH => ?_)
                clear hK K
                try simp only [Act.put, List.setIfInBounds_toArray, List.set_cons_zero, List.set_cons_succ]
                refine wpAnyH_ready (rs := [5]) (by kernel_rfl) (by simp) ?_
                refine AllReadyH.cons (o := { dst := some 99, op := Op.call { callee := Callee.value (Operand.func 9), args := #[Operand.tmp 94, Operand.tmp 98], argTypes := #[33, 36] }, type := 41, pos := "law.go:73", after := _, guard := none }) rfl (fun K hK => ?_) AllReadyH.nil
                rw [if_pos (by rfl)]
                go_simp
                refine (HST.out _ hBW7.drew).mono ?_
                rintro r wq ⟨v4, rfl, hv4, hb⟩
                have hbs := hb.size
                try simp only [World.size_alloc, World.size_setCell, World.size_drew, size_setRow] at hbs
                go_wp2_with fail
                refine hK.out _ _ trivial (fun hH => ?_)
                clear hK K
                try simp only [Act.put, List.setIfInBounds_toArray, List.set_cons_zero, List.set_cons_succ]
                refine wpAnyH_take (i := 6) (oi := { dst := some 93, op := Op.move (Operand.tmp 99), type := 41, pos := "law.go:73", after := _, guard := none }) (v := _) rfl (by kernel_rfl) (by kernel_rfl) (by kernel_rfl) (fun _ _ _ h => h) (.inl ⟨by rfl, fun w hS => by (go_simp; try rfl)⟩) hH ?_
                try simp only [Act.put, List.setIfInBounds_toArray, List.set_cons_zero, List.set_cons_succ]
                refine wpAnyH_take (i := 7) (oi := { dst := some 100, op := Op.extract (Operand.tmp 93) 0, type := 40, pos := "law.go:73", after := _, guard := none }) (v := _) rfl (by kernel_rfl) (by kernel_rfl) (by kernel_rfl) (fun _ _ _ h => h) (.inl ⟨by rfl, fun w hS => by (go_simp; try rfl)⟩) hH ?_
                try simp only [Act.put, List.setIfInBounds_toArray, List.set_cons_zero, List.set_cons_succ]
                refine wpAnyH_take (i := 8) (oi := { dst := some 101, op := Op.extract (Operand.tmp 93) 1, type := 33, pos := "law.go:73", after := _, guard := none }) (v := _) rfl (by kernel_rfl) (by kernel_rfl) (by kernel_rfl) (fun _ _ _ h => h) (.inl ⟨by rfl, fun w hS => by (go_simp; try rfl)⟩) hH ?_
                try simp only [Act.put, List.setIfInBounds_toArray, List.set_cons_zero, List.set_cons_succ]
                refine wpAnyH_ready (rs := [9]) (by kernel_rfl) (by simp) ?_
                refine AllReadyH.cons (o := { dst := none, op := Op.store 33 (Operand.tmp 10) (Operand.tmp 101), type := 0, pos := "law.go:73", after := _, guard := none }) rfl (fun K hK => ?_) AllReadyH.nil
                rw [if_pos (by rfl)]
                refine wp_st 33 rfl w_State rfl rfl bk_ zz_ zz_ one_ ?_
                refine hK.out _ _ trivial (fun hH => ?_)
                clear hK K
                try simp only [Act.put]
                refine wpAnyH_done (by kernel_rfl) ?_ _
                go_wp2_with fail
                go_roundw
                case rel => exact ⟨x + 1, ns.length, ns ++ [e], by omega, by go_num, rfl, HI3, Lib.hid (HP2.out.app _), by rw [List.length_append]; simp; omega, hpl2, by exact bk_, by exact sl_, by rw [HS1.out]; exact bk_, by rw [List.length_append, flE, List.flatMap_append, List.flatMap_singleton]; exact ((hr7.drew.newB hb).setRow (by omega) _).up (Nat.le_refl _) (by have h1 := hb.size; simp only [size_setRow, World.size_drew] at h1 ⊢; omega) (Nat.le_refl _), (by exact bl_), by exact sz_⟩
                case measure => simp [intOf] <;> omega
              · obtain rfl : x = T := by omega
                go_wp2_with fail
                go_roundw
                case rel => exact ⟨x + 1, ns.length, ns, by omega, by go_num, rfl, Lib.hid (HI.out.stay (by rw [HML.out]; omega)), HP2, by omega, hpl2, hBW, hQm, by rw [List.take_of_length_le (by rw [HML.out]; omega)]; rw [List.take_of_length_le (by rw [HML.out]; omega)] at hS; exact hS, hR, hfar, hsz⟩
                case measure => simp [intOf] <;> omega
            · have HP2 := Lib.hid (HP.out.on hxk)
              have hpl2 := hpl
              have hxki : ¬ (x : Int) = k := by omega
              go_upto_region 20 with (fail)
              by_cases hxlt : x < T
              · have hkl : x < m.length := by rw [HML.out]; exact hxlt
                obtain ⟨e, he⟩ : ∃ e, m[x]? = some e := ⟨_, List.getElem?_eq_getElem hkl⟩
                have hES : ES wr q0 q1 p2 c2 m := by unfold ES; rw [HML.out]; exact hQm
                obtain ⟨b, o, rfl, hb1, hb2', hr⟩ := hES.get he
                have HI3 := Lib.hid (HI.out.next HAT.out he)
                have hS1 : foldS (zs 38) (m.take (x + 1)) = stepS (foldS (zs 38) (m.take x)) e := by rw [List.take_add_one, he, Option.toList_some, foldS_app]; rfl
                have LM := Len.mk hl38
                obtain ⟨M, hM⟩ : ∃ M, foldS (zs 38) (m.take x) = M := ⟨_, rfl⟩
                rw [hM] at hS LM hS1
                have hSt := fun w hW => Step_any M LM.out e w hW
                have LS := Len.mk (stepS_len LM.out e)
                obtain ⟨M2, hM2⟩ : ∃ M2, stepS M e = M2 := ⟨_, rfl⟩
                rw [hM2] at hS1 hSt LS
                have HST := Lib.hid hSt
                have HS1 := Lib.hid hS1
                have hxTi2 : (x : Int) < T := by omega
                clear hM hS1 hSt hM2 hkl he hES hl38 hr38
                go_upto_region 22 with (first | (refine ldr 36 rfl (by rfl) w_Entry rfl (by assumption) (by rfl) ?_) | (refine list_of_wp (by rfl) (fun K hK => wp_bs1b 26 rfl rfl Tryz.underlying26 el_Entry (by omega) (by omega) rfl (fun bc wb hbe hc hbB hbl => hK _ _ ?_))) | (refine list_of_wp (by rfl) (fun K hK => wp_apb 26 rfl rfl 36 i0 (.agg #[.int .i64 0, .int .u32 0, .string ⟨#[]⟩]) 3 32 Tryz.underlying26 hi hz0 hz1 hz2 rfl (by omega) rfl (hR.newB hbB) (g + 1) (Nat.le_refl _) (by omega) rfl (SL.blk hc (n := 1) (size := 3) rfl (by unfold maxLen; omega)) (fun u hu => flatE_one [e] u (by simpa using hu)) (by unfold maxLen; omega) (by omega) (fun v7 w7 hr7 hgr hbA => hK _ _ ?_))))
                have hBW7 := (hBW.newB hbB).below hbA (by omega)
                have hS7 := (hS.newB hbB).below hbA (by omega)
                have hQ7 := (hQm.newB hbB).below (hbA.mono (by omega))
                have hrx := range_below (range_below hr hbB (by omega)) hbA (by omega)
                have hf7 : Below B w w7 := (hfar.trans (hbB.mono (by omega))).trans (hbA.mono (by omega))
                have hs7 : g + 1 ≤ w7.heap.size := by have h1 := hbA.size; have h2 := hbB.size; omega
                clear hBW hS hQm hr hfar hsz hR hc hbB hbA hgr hbl hbe
                refine wp_region_held_drew (S := fun W => True) (by kernel_rfl) ⟨⟩ (fun hH => ?_)
                refine wpAnyH_take (i := 1) (oi := { dst := some 95, op := Op.move (Operand.tmp 7), type := 26, pos := "law.go:73", after := _, guard := none }) (v := _) rfl (by kernel_rfl) (by kernel_rfl) (by kernel_rfl) (fun _ _ _ h => h) (.inl ⟨by rfl, fun w hS => by (go_simp; try rfl)⟩) hH ?_
                try simp only [Act.put, List.setIfInBounds_toArray, List.set_cons_zero, List.set_cons_succ]
                refine wpAnyH_take (i := 2) (oi := { dst := some 96, op := Op.move (Operand.tmp 12), type := 3, pos := "law.go:73", after := _, guard := none }) (v := _) rfl (by kernel_rfl) (by kernel_rfl) (by kernel_rfl) (fun _ _ _ h => h) (.inl ⟨by rfl, fun w hS => by (go_simp; try rfl)⟩) hH ?_
                try simp only [Act.put, List.setIfInBounds_toArray, List.set_cons_zero, List.set_cons_succ]
                refine wpAnyH_take (i := 3) (oi := { dst := some 97, op := Op.indexAddr 26 (Operand.tmp 95) (Operand.tmp 96), type := 0, pos := "law.go:73", after := _, guard := none }) (v := _) rfl (by kernel_rfl) (by kernel_rfl) (by kernel_rfl) (fun _ _ _ h => h) (.inl ⟨by rfl, fun w hS => by (go_simp; try rfl)⟩) hH ?_
                try simp only [Act.put, List.setIfInBounds_toArray, List.set_cons_zero, List.set_cons_succ]
                refine wpAnyH_ready (rs := [0, 4]) (by kernel_rfl) (by simp) ?_
                refine AllReadyH.cons (o := { dst := some 94, op := Op.load 33 (Operand.tmp 10), type := 33, pos := "law.go:73", after := _, guard := none }) rfl (fun K hK => ?_) ?_
                · rw [if_pos (by rfl)]
                  refine wp_ld 33 rfl w_State rfl hS7.drew LM.sz ?_
                  refine hK.out _ _ trivial (fun hH => ?_)
                  clear hK K
                  try simp only [Act.put, List.setIfInBounds_toArray, List.set_cons_zero, List.set_cons_succ]
                  refine wpAnyH_ready (rs := [4]) (by kernel_rfl) (by simp) ?_
                  refine AllReadyH.cons (o := { dst := some 98, op := Op.load 36 (Operand.tmp 97), type := 36, pos := "law.go:73", after := _, guard := none }) rfl (fun K hK => ?_) AllReadyH.nil
                  rw [if_pos (by rfl)]
                  refine wp_ldr 36 rfl w_Entry rfl hrx rfl ?_
                  refine hK.out _ _ trivial (fun hH => ?_)
                  clear hK K
                  try simp only [Act.put, List.setIfInBounds_toArray, List.set_cons_zero, List.set_cons_succ]
                  refine wpAnyH_ready (rs := [5]) (by kernel_rfl) (by simp) ?_
                  refine AllReadyH.cons (o := { dst := some 99, op := Op.call { callee := Callee.value (Operand.func 9), args := #[Operand.tmp 94, Operand.tmp 98], argTypes := #[33, 36] }, type := 41, pos := "law.go:73", after := _, guard := none }) rfl (fun K hK => ?_) AllReadyH.nil
                  rw [if_pos (by rfl)]
                  go_simp
                  refine (HST.out _ hBW7.drew).mono ?_
                  rintro r wq ⟨v4, rfl, hv4, hb⟩
                  have hbs := hb.size
                  try simp only [World.size_alloc, World.size_setCell, World.size_drew, size_setRow] at hbs
                  go_wp2_with fail
                  refine hK.out _ _ trivial (fun hH => ?_)
                  clear hK K
                  try simp only [Act.put, List.setIfInBounds_toArray, List.set_cons_zero, List.set_cons_succ]
                  refine wpAnyH_take (i := 6) (oi := { dst := some 93, op := Op.move (Operand.tmp 99), type := 41, pos := "law.go:73", after := _, guard := none }) (v := _) rfl (by kernel_rfl) (by kernel_rfl) (by kernel_rfl) (fun _ _ _ h => h) (.inl ⟨by rfl, fun w hS => by (go_simp; try rfl)⟩) hH ?_
                  try simp only [Act.put, List.setIfInBounds_toArray, List.set_cons_zero, List.set_cons_succ]
                  refine wpAnyH_take (i := 7) (oi := { dst := some 100, op := Op.extract (Operand.tmp 93) 0, type := 40, pos := "law.go:73", after := _, guard := none }) (v := _) rfl (by kernel_rfl) (by kernel_rfl) (by kernel_rfl) (fun _ _ _ h => h) (.inl ⟨by rfl, fun w hS => by (go_simp; try rfl)⟩) hH ?_
                  try simp only [Act.put, List.setIfInBounds_toArray, List.set_cons_zero, List.set_cons_succ]
                  refine wpAnyH_take (i := 8) (oi := { dst := some 101, op := Op.extract (Operand.tmp 93) 1, type := 33, pos := "law.go:73", after := _, guard := none }) (v := _) rfl (by kernel_rfl) (by kernel_rfl) (by kernel_rfl) (fun _ _ _ h => h) (.inl ⟨by rfl, fun w hS => by (go_simp; try rfl)⟩) hH ?_
                  try simp only [Act.put, List.setIfInBounds_toArray, List.set_cons_zero, List.set_cons_succ]
                  refine wpAnyH_ready (rs := [9]) (by kernel_rfl) (by simp) ?_
                  refine AllReadyH.cons (o := { dst := none, op := Op.store 33 (Operand.tmp 10) (Operand.tmp 101), type := 0, pos := "law.go:73", after := _, guard := none }) rfl (fun K hK => ?_) AllReadyH.nil
                  rw [if_pos (by rfl)]
                  refine wp_st 33 rfl w_State rfl rfl bk_ zz_ zz_ one_ ?_
                  refine hK.out _ _ trivial (fun hH => ?_)
                  clear hK K
                  try simp only [Act.put]
                  refine wpAnyH_done (by kernel_rfl) ?_ _
                  go_wp2_with fail
                  go_roundw
                  case rel => exact ⟨x + 1, pl, ns ++ [e], by omega, by go_num, rfl, HI3, Lib.hid (HP2.out.app _), by rw [List.length_append]; simp; omega, hpl2, by exact bk_, by exact sl_, by rw [HS1.out]; exact bk_, by rw [List.length_append, flE, List.flatMap_append, List.flatMap_singleton]; exact ((hr7.drew.newB hb).setRow (by omega) _).up (Nat.le_refl _) (by have h1 := hb.size; simp only [size_setRow, World.size_drew] at h1 ⊢; omega) (Nat.le_refl _), (by exact bl_), by exact sz_⟩
                  case measure => simp [intOf] <;> omega
                refine AllReadyH.cons (o := { dst := some 98, op := Op.load 36 (Operand.tmp 97), type := 36, pos := "law.go:73", after := _, guard := none }) rfl (fun K hK => ?_) AllReadyH.nil
                rw [if_pos (by rfl)]
                refine wp_ldr 36 rfl w_Entry rfl hrx rfl ?_
                refine hK.out _ _ trivial (fun hH => ?_)
                clear hK K
                try simp only [Act.put, List.setIfInBounds_toArray, List.set_cons_zero, List.set_cons_succ]
                refine wpAnyH_ready (rs := [0]) (by kernel_rfl) (by simp) ?_
                refine AllReadyH.cons (o := { dst := some 94, op := Op.load 33 (Operand.tmp 10), type := 33, pos := "law.go:73", after := _, guard := none }) rfl (fun K hK => ?_) AllReadyH.nil
                rw [if_pos (by rfl)]
                refine wp_ld 33 rfl w_State rfl hS7.drew LM.sz ?_
                refine hK.out _ _ trivial (fun hH => ?_)
                clear hK K
                try simp only [Act.put, List.setIfInBounds_toArray, List.set_cons_zero, List.set_cons_succ]
                refine wpAnyH_ready (rs := [5]) (by kernel_rfl) (by simp) ?_
                refine AllReadyH.cons (o := { dst := some 99, op := Op.call { callee := Callee.value (Operand.func 9), args := #[Operand.tmp 94, Operand.tmp 98], argTypes := #[33, 36] }, type := 41, pos := "law.go:73", after := _, guard := none }) rfl (fun K hK => ?_) AllReadyH.nil
                rw [if_pos (by rfl)]
                go_simp
                refine (HST.out _ hBW7.drew).mono ?_
                rintro r wq ⟨v4, rfl, hv4, hb⟩
                have hbs := hb.size
                try simp only [World.size_alloc, World.size_setCell, World.size_drew, size_setRow] at hbs
                go_wp2_with fail
                refine hK.out _ _ trivial (fun hH => ?_)
                clear hK K
                try simp only [Act.put, List.setIfInBounds_toArray, List.set_cons_zero, List.set_cons_succ]
                refine wpAnyH_take (i := 6) (oi := { dst := some 93, op := Op.move (Operand.tmp 99), type := 41, pos := "law.go:73", after := _, guard := none }) (v := _) rfl (by kernel_rfl) (by kernel_rfl) (by kernel_rfl) (fun _ _ _ h => h) (.inl ⟨by rfl, fun w hS => by (go_simp; try rfl)⟩) hH ?_
                try simp only [Act.put, List.setIfInBounds_toArray, List.set_cons_zero, List.set_cons_succ]
                refine wpAnyH_take (i := 7) (oi := { dst := some 100, op := Op.extract (Operand.tmp 93) 0, type := 40, pos := "law.go:73", after := _, guard := none }) (v := _) rfl (by kernel_rfl) (by kernel_rfl) (by kernel_rfl) (fun _ _ _ h => h) (.inl ⟨by rfl, fun w hS => by (go_simp; try rfl)⟩) hH ?_
                try simp only [Act.put, List.setIfInBounds_toArray, List.set_cons_zero, List.set_cons_succ]
                refine wpAnyH_take (i := 8) (oi := { dst := some 101, op := Op.extract (Operand.tmp 93) 1, type := 33, pos := "law.go:73", after := _, guard := none }) (v := _) rfl (by kernel_rfl) (by kernel_rfl) (by kernel_rfl) (fun _ _ _ h => h) (.inl ⟨by rfl, fun w hS => by (go_simp; try rfl)⟩) hH ?_
                try simp only [Act.put, List.setIfInBounds_toArray, List.set_cons_zero, List.set_cons_succ]
                refine wpAnyH_ready (rs := [9]) (by kernel_rfl) (by simp) ?_
                refine AllReadyH.cons (o := { dst := none, op := Op.store 33 (Operand.tmp 10) (Operand.tmp 101), type := 0, pos := "law.go:73", after := _, guard := none }) rfl (fun K hK => ?_) AllReadyH.nil
                rw [if_pos (by rfl)]
                refine wp_st 33 rfl w_State rfl rfl bk_ zz_ zz_ one_ ?_
                refine hK.out _ _ trivial (fun hH => ?_)
                clear hK K
                try simp only [Act.put]
                refine wpAnyH_done (by kernel_rfl) ?_ _
                go_wp2_with fail
                go_roundw
                case rel => exact ⟨x + 1, pl, ns ++ [e], by omega, by go_num, rfl, HI3, Lib.hid (HP2.out.app _), by rw [List.length_append]; simp; omega, hpl2, by exact bk_, by exact sl_, by rw [HS1.out]; exact bk_, by rw [List.length_append, flE, List.flatMap_append, List.flatMap_singleton]; exact ((hr7.drew.newB hb).setRow (by omega) _).up (Nat.le_refl _) (by have h1 := hb.size; simp only [size_setRow, World.size_drew] at h1 ⊢; omega) (Nat.le_refl _), (by exact bl_), by exact sz_⟩
                case measure => simp [intOf] <;> omega
              · obtain rfl : x = T := by omega
                go_wp2_with fail
                go_roundw
                case rel => exact ⟨x + 1, pl, ns, by omega, by go_num, rfl, Lib.hid (HI.out.stay (by rw [HML.out]; omega)), HP2, by omega, hpl2, hBW, hQm, by rw [List.take_of_length_le (by rw [HML.out]; omega)]; rw [List.take_of_length_le (by rw [HML.out]; omega)] at hS; exact hS, hR, hfar, hsz⟩
                case measure => simp [intOf] <;> omega
      · obtain rfl : x = T + 1 := by omega
        have hnT : ¬ ((T + 1 : Nat) : Int) ≤ T := by omega
        obtain ⟨hp1, hi1⟩ := HP.out (by omega)
        obtain ⟨h1, h2, -, -⟩ := seek_same HAT.out (by rw [HML.out]; exact hkT) HI.out (by rw [HML.out]; omega) hp1 hi1
        have htr := HI.out.tr
        unfold AllTrue at htr
        have hX16 := fromO_len m k
        have hXl := fromO_le m k
        have hXl2 := HML.out
        have hSm := fun lo1 hi1 lo2 hi2 p1 p2 c1 c2 w h1 h2 => Same_any (fromO m k) hX16 (by omega) lo1 hi1 lo2 hi2 p1 p2 c1 c2 w h1 h2
        obtain ⟨pn, cn, rfl, hsn⟩ := hR.sl
        obtain ⟨N, hN⟩ : ∃ N, wr.heap.size = N := ⟨_, rfl⟩
        rw [hN] at hsn
        have hgN : g + 1 ≤ N := by omega
        replace hsz : N ≤ wr.heap.size := by omega
        have hFm := fun w (hW : BandsW w) (hs : SL w q0 q1 3 p2 T c2 (flE m)) => From_in HML.out (by omega) hW hs hkT
        obtain ⟨nn, hnn⟩ : ∃ n, ns.length = n := ⟨_, rfl⟩
        have hFn := fun w (hW : BandsW w) (hs : SL w (g + 1) N 3 pn nn cn (flE ns)) => From_in hnn (by omega) hW hs (i := pl) (by omega)
        have hSm1 := fun w (hs : SL w q0 q1 3 p2 T c2 (flE m)) => Steps_any HML.out (by omega) hs (k : Nat)
        have hSn := fun w (hs : SL w (g + 1) N 3 pn nn cn (flE ns)) => Steps_any hnn (by omega) hs (pl : Nat)
        have hTn2 := fun w (hW : BandsW w) (hs : SL w (g + 1) N 3 pn nn cn (flE ns)) => Truths_any hnn (by omega) hW hs
        rw [hnn] at hsn hp1 htr
        rw [h1] at hFn
        simp only [htr] at hTn2
        obtain ⟨X, hX⟩ : ∃ X, fromO m k = X := ⟨_, rfl⟩
        simp only [hX, BS] at hFm hFn hSm
        obtain ⟨nX, hnX⟩ : ∃ n, X.length = n := ⟨_, rfl⟩
        simp only [hnX] at hFm hFn hSm
        obtain ⟨s1, hs1⟩ : ∃ s, stepsE ns pl = s := ⟨_, rfl⟩
        obtain ⟨s2, hs2⟩ : ∃ s, stepsE m k = s := ⟨_, rfl⟩
        rw [hs1, hs2] at h2
        simp only [hs1] at hSn
        simp only [hs2] at hSm1
        have HFm := Lib.hid hFm
        have HFn := Lib.hid hFn
        have HSM := Lib.hid hSm
        have HSm1 := Lib.hid hSm1
        have HSn := Lib.hid hSn
        have HTn2 := Lib.hid hTn2
        have HNNN := Lib.hid hnn
        clear hFm hFn hSm hSm1 hSn hTn2 hnn hN hX hnX hs1 hs2 hX16 hXl hXl2 htr h1 hi1 hR hS
        go_wp2_with fail
        rw [HNNN.out]
        refine (HFm.out _ hBW hQm).mono ?_
        rintro r w8 ⟨pa, ca, loa, hia, rfl, hsa, hloa, hb8⟩
        replace hBW := hBW.newB hb8
        replace hQm := hQm.newB hb8
        replace hsn := hsn.newB hb8
        replace hfar := hfar.trans (hb8.mono (by omega))
        replace hsz := Nat.le_trans hsz hb8.size
        go_wp2_with fail
        refine (HFn.out _ hBW hsn).mono ?_
        rintro r w9 ⟨pb, cb, lob, hib, rfl, hsb, hlob, hb9⟩
        replace hBW := hBW.newB hb9
        replace hQm := hQm.newB hb9
        replace hsn := hsn.newB hb9
        replace hsa := hsa.newB hb9
        replace hfar := hfar.trans (hb9.mono (by omega))
        replace hsz := Nat.le_trans hsz hb9.size
        go_wp2_with fail
        refine (HSM.out _ _ _ _ _ _ _ _ _ hsa hsb).mono ?_
        rintro e w10 ⟨rfl, hb10⟩
        replace hBW := hBW.newB hb10
        replace hQm := hQm.newB hb10
        replace hsn := hsn.newB hb10
        replace hsa := hsa.newB hb10
        replace hsb := hsb.newB hb10
        replace hfar := hfar.trans (hb10.mono (by omega))
        replace hsz := Nat.le_trans hsz hb10.size
        go_wp2_with fail
        refine (HSn.out _ hsn).mono ?_
        rintro e w11 ⟨rfl, hb11⟩
        replace hBW := hBW.newB hb11
        replace hQm := hQm.newB hb11
        replace hsn := hsn.newB hb11
        replace hsa := hsa.newB hb11
        replace hsb := hsb.newB hb11
        replace hfar := hfar.trans (hb11.mono (by omega))
        replace hsz := Nat.le_trans hsz hb11.size
        go_wp2_with fail
        refine (HSm1.out _ hQm).mono ?_
        rintro e w12 ⟨rfl, hb12⟩
        replace hBW := hBW.newB hb12
        replace hQm := hQm.newB hb12
        replace hsn := hsn.newB hb12
        replace hsa := hsa.newB hb12
        replace hsb := hsb.newB hb12
        replace hfar := hfar.trans (hb12.mono (by omega))
        replace hsz := Nat.le_trans hsz hb12.size
        go_wp2_with fail
        refine (HTn2.out _ hBW hsn).mono ?_
        rintro e w13 ⟨rfl, hb13⟩
        replace hBW := hBW.newB hb13
        replace hQm := hQm.newB hb13
        replace hsn := hsn.newB hb13
        replace hsa := hsa.newB hb13
        replace hsb := hsb.newB hb13
        replace hfar := hfar.trans (hb13.mono (by omega))
        replace hsz := Nat.le_trans hsz hb13.size
        go_wp2_with fail
        go_ret
        exact ⟨rfl, (by (try rw [hB]); exact bl_)⟩
end Go.Proofs.YtbpdocdomjafbaaGreatDoor
