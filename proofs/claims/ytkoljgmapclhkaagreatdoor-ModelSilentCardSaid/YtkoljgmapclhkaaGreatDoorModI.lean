/- The walk of (*model.Model).feed. -/
import Derived.Test.YtkoljgmapclhkaaGreatDoorModF
set_option linter.unusedSimpArgs false
set_option linter.unusedVariables false
namespace Go.Proofs.YtkoljgmapclhkaaGreatDoor
open Go.RowKit

theorem frame_16 {fr : List Int} {G : Nat} {V : Value} {p : Option Addr} {cap : Nat} {w : World} (hF : FrIn w G V p cap fr) (h16 : fr.length = 16) : Calls Tryz.prog 76 #[.slice p 16 cap] w fun r w' => r = .returned (.tuple #[.agg (arrV fr), .int .i64 0]) ∧ Below w.heap.size w w' := by
  have := frame_any hF (by omega)
  rw [h16] at this
  refine this.mono ?_
  rintro r w' ⟨b, e, rfl, ⟨_, rfl, rfl⟩ | ⟨hn, _⟩, hb⟩
  · exact ⟨rfl, hb⟩
  · exact absurd rfl hn
theorem frame_no {fr : List Int} {G : Nat} {V : Value} {p : Option Addr} {cap : Nat} {w : World} (hF : FrIn w G V p cap fr) (hl : fr.length ≤ 1000000) (h16 : fr.length ≠ 16) : Calls Tryz.prog 76 #[.slice p fr.length cap] w fun r w' => r = .returned (.tuple #[.agg (arrV (zs 16)), .int .i64 10]) ∧ Below w.heap.size w w' := by
  refine (frame_any hF hl).mono ?_
  rintro r w' ⟨b, e, rfl, ⟨hn, _⟩ | ⟨_, rfl, rfl⟩, hb⟩
  · exact absurd hn h16
  · exact ⟨rfl, hb⟩
set_option maxRecDepth 100000 in
set_option maxHeartbeats 16000000 in
theorem feed_any {w : World} {g : Nat} {M : Mst} {v : Value} (h : MB w g M v) {k n : Nat} (hO : M.Ok k n) (hk : k ≤ 900000) (hn : n ≤ 898) (hW : BandsW w) {fr : List Int} {p : Option Addr} {cap : Nat} (hF : FrIn w g v p cap fr) (hl : fr.length ≤ 1000000) (x y : Value) :
    Calls Tryz.prog 38 #[.pointer (some ⟨g, 0, none⟩), .agg #[x, .slice p fr.length cap, y]] w (RetR w g v (feedM M fr)) := by
  have hBW : Blk w 0 bandC 164 := hW
  have hgv := mb_bands h hW
  have hno := hO.now
  have hsi := hO.sin
  have hck := hO.ck
  have hSk : ∀ k, (k = g ∨ v.ownBlock = some k) → k = g ∨ v.ownBlock = some k := fun k hk => hk
  have hS : feedM M fr = feedM M fr := rfl
  conv at hS => rhs; unfold feedM
  obtain ⟨R, hR0⟩ : ∃ R, feedM M fr = R := ⟨_, rfl⟩
  rw [hR0] at hS ⊢
  have HS := Lib.hid hS
  have HSK := Lib.hid hSk
  have HF := Lib.hid hF
  have hl55 := h.l55
  have hw1 : IntKind.u32.wrap M.now = M.now := by rw [IntKind.wrap_u32]; omega
  clear hS hR0 hSk
  rcases bool_two M.run with hr | hr
  case inl =>
    obtain rfl : R = (M, 8) := by rw [HS.out, if_pos hr]
    clear hF hO hW
    have hg := h.lt
    have HVO := Lib.hid (fun k hk => (h.olt k hk).2)
    obtain ⟨B, hB⟩ : ∃ B, w.heap.size = B := ⟨_, rfl⟩
    have HVB := h.vb hB
    rw [hB] at hg HVO
    have hfar := Kept.refl (fun k => k = g ∨ v.ownBlock = some k) w
    have hsz : B ≤ w.heap.size := by omega
    go_enter Tryz.func38, Tryz.ntmps38
    go_upto_region 1 with (fail)
    refine wp_gen (fun W => MB W (g) (M) (v) ∧ Blk W (B) (#[x, .slice p fr.length cap, y]) 50 ∧ Blk W (B + 1) (#[.int .i64 0, .slice none 0 0]) 46 ∧ Kept (fun k => k = g ∨ v.ownBlock = some k) w W ∧ B + 2 ≤ W.heap.size) ⟨mb_, bk_, bk_, kq_, sz_⟩ ?_
    clear h hfar hsz
    rintro w1 ⟨h, hA, hR, hfar, hsz⟩
    obtain ⟨_, c99, _⟩ := h.cells
    rw [hr] at c99
    clear hr
    go_wp2_with (first | (refine bd 46 rfl (by rfl) rfl reply_0 ?_) | (refine bd 46 rfl (by rfl) rfl (reply_1 _) ?_) | (refine st 46 rfl (by rfl) w_Reply rfl rfl bk_ zz_ zz_ one_ ?_))
    exact bodyPost_ret (v := .agg #[.int .i64 8, .slice none 0 0]) (res_c Tryz.results38 rfl w_Reply (by exact bk_) rfl) rfl ⟨v, rfl, by exact mb_, ⟨by exact kq_, fun _ hk => .inl hk⟩⟩
  case inr =>
    by_cases h16 : fr.length = 16
    case neg =>
      obtain rfl : R = (M, 10) := by rw [HS.out, if_neg (by rw [hr]; decide), if_pos h16]
      have hfr := fun w (hF : FrIn w g v p cap fr) => frame_no hF hl h16
      obtain ⟨L, hL⟩ : ∃ L, fr.length = L := ⟨_, rfl⟩
      simp only [hL] at hfr
      rw [hL]
      have HFR := Lib.hid hfr
      clear hF hO hW hfr hL HS
      have hg := h.lt
      have HVO := Lib.hid (fun k hk => (h.olt k hk).2)
      obtain ⟨B, hB⟩ : ∃ B, w.heap.size = B := ⟨_, rfl⟩
      have HVB := h.vb hB
      rw [hB] at hg HVO
      have hfar := Kept.refl (fun k => k = g ∨ v.ownBlock = some k) w
      have hsz : B ≤ w.heap.size := by omega
      go_enter Tryz.func38, Tryz.ntmps38
      go_upto_region 1 with (fail)
      refine wp_gen (fun W => MB W (g) (M) (v) ∧ Blk W (B) (#[x, .slice p L cap, y]) 50 ∧ Blk W (B + 1) (#[.int .i64 0, .slice none 0 0]) 46 ∧ Kept (fun k => k = g ∨ v.ownBlock = some k) w W ∧ B + 2 ≤ W.heap.size) ⟨mb_, bk_, bk_, kq_, sz_⟩ ?_
      clear h hfar hsz
      rintro w1 ⟨h, hA, hR, hfar, hsz⟩
      obtain ⟨_, c99, _⟩ := h.cells
      rw [hr] at c99
      clear hr
      have d1 := hA.cell 1
      simp only [List.getElem?_toArray, List.getElem?_cons_zero, List.getElem?_cons_succ] at d1
      go_wp2_with fail
      refine (HFR.out _ (HF.out.keep hfar HSK.out)).mono ?_
      rintro e w2 ⟨rfl, hb2⟩
      replace h := h.newB hb2
      replace hA := hA.newB hb2
      replace hR := hR.newB hb2
      replace hfar := hfar.thenBelow hb2
      replace hsz := Nat.le_trans hsz hb2.size
      obtain ⟨C, hC⟩ : ∃ C, w2.heap.size = C := ⟨_, rfl⟩
      have hBC : B + 2 ≤ C := by omega
      clear d1 c99
      go_upto_region 4 with (first | (refine bd 29 rfl (by rfl) rfl state_zs ?_) | (refine bd 26 rfl (by rfl) rfl block_zs ?_) | (refine ld 29 rfl (by rfl) w_State rfl bk_ lz_ ?_) | (refine ld 26 rfl (by rfl) w_Block rfl bk_ lz_ ?_) | (refine ldp 26 rfl (by rfl) w_Block rfl bk_ ln_ (by omega) ?_) | (refine ld 27 rfl (by rfl) w_Four rfl bk_ lz_ ?_) | (refine ldp 27 rfl (by rfl) w_Four rfl bk_ ln_ (by omega) ?_) | (refine st 29 rfl (by rfl) w_State rfl rfl bk_ lz_ lz_ one_ ?_) | (refine st 26 rfl (by rfl) w_Block rfl rfl bk_ lz_ lz_ one_ ?_) | (refine st 27 rfl (by rfl) w_Four rfl rfl bk_ lz_ lz_ one_ ?_))
      refine wp_gen (fun W => MB W (g) (M) (v) ∧ Blk W (B) (#[x, .slice p L cap, y]) 50 ∧ Blk W (B + 1) (#[.int .i64 0, .slice none 0 0]) 46 ∧ Blk W (C) (arrV (zs 16)) 26 ∧ Kept (fun k => k = g ∨ v.ownBlock = some k) w W ∧ C + 1 ≤ W.heap.size) ⟨mb_, bk_, bk_, bk_, kq_, sz_⟩ ?_
      clear h hA hR hfar hsz
      rintro w3 ⟨h, hA, hR, hfb, hfar, hsz⟩
      go_wp2_with (first | (refine bd 46 rfl (by rfl) rfl reply_0 ?_) | (refine bd 46 rfl (by rfl) rfl (reply_1 _) ?_) | (refine st 46 rfl (by rfl) w_Reply rfl rfl bk_ zz_ zz_ one_ ?_))
      exact bodyPost_ret (v := .agg #[.int .i64 10, .slice none 0 0]) (res_c Tryz.results38 rfl w_Reply (by exact bk_) rfl) rfl ⟨v, rfl, by exact mb_, ⟨by exact kq_, fun _ hk => .inl hk⟩⟩
    case pos =>
      have HS1 : Hid (R = if fr.all sound16 = false then (M, 1) else if (addM M (packM M fr)).2 = 0 then fedM M (addM M (packM M fr)).1 fr else addM M (packM M fr)) := Lib.hid (by rw [HS.out, if_neg (by rw [hr]; decide), if_neg (by omega)])
      obtain ⟨PK, X, NL, ER, hen, LNL, hcase⟩ := enc_either hO h16
      have HEN := Lib.hid hen
      have HCASE := Lib.hid hcase
      have HO := Lib.hid hO
      have hfr := fun w (hF : FrIn w g v p cap fr) => frame_16 hF h16
      have LFR := Len.mk h16
      have HFR := Lib.hid hfr
      rw [h16]
      clear hF hO hW hfr hen hcase HS hl
      have H16 := Lib.hid h16
      clear h16
      have hg := h.lt
      have HVO := Lib.hid (fun k hk => (h.olt k hk).2)
      obtain ⟨B, hB⟩ : ∃ B, w.heap.size = B := ⟨_, rfl⟩
      have HVB := h.vb hB
      rw [hB] at hg HVO
      have hfar := Kept.refl (fun k => k = g ∨ v.ownBlock = some k) w
      have hsz : B ≤ w.heap.size := by omega
      go_enter Tryz.func38, Tryz.ntmps38
      go_upto_region 1 with (fail)
      refine wp_gen (fun W => Blk W (0) (bandC) 164 ∧ MB W (g) (M) (v) ∧ Blk W (B) (#[x, .slice p 16 cap, y]) 50 ∧ Blk W (B + 1) (#[.int .i64 0, .slice none 0 0]) 46 ∧ Kept (fun k => k = g ∨ v.ownBlock = some k) w W ∧ B + 2 ≤ W.heap.size) ⟨bk_, mb_, bk_, bk_, kq_, sz_⟩ ?_
      clear hBW h hfar hsz
      rintro w1 ⟨hBW, h, hA, hR, hfar, hsz⟩
      obtain ⟨_, c99, _⟩ := h.cells
      rw [hr] at c99
      clear hr
      have d1 := hA.cell 1
      simp only [List.getElem?_toArray, List.getElem?_cons_zero, List.getElem?_cons_succ] at d1
      go_wp2_with fail
      refine (HFR.out _ (HF.out.keep hfar HSK.out)).mono ?_
      rintro e w2 ⟨rfl, hb2⟩
      replace hBW := hBW.newB hb2
      replace h := h.newB hb2
      replace hA := hA.newB hb2
      replace hR := hR.newB hb2
      replace hfar := hfar.thenBelow hb2
      replace hsz := Nat.le_trans hsz hb2.size
      obtain ⟨C, hC⟩ : ∃ C, w2.heap.size = C := ⟨_, rfl⟩
      have hBC : B + 2 ≤ C := by omega
      clear d1 c99
      go_upto_region 4 with (first | (refine bd 29 rfl (by rfl) rfl state_zs ?_) | (refine bd 26 rfl (by rfl) rfl block_zs ?_) | (refine ld 29 rfl (by rfl) w_State rfl bk_ lz_ ?_) | (refine ld 26 rfl (by rfl) w_Block rfl bk_ lz_ ?_) | (refine ldp 26 rfl (by rfl) w_Block rfl bk_ ln_ (by omega) ?_) | (refine ld 27 rfl (by rfl) w_Four rfl bk_ lz_ ?_) | (refine ldp 27 rfl (by rfl) w_Four rfl bk_ ln_ (by omega) ?_) | (refine st 29 rfl (by rfl) w_State rfl rfl bk_ lz_ lz_ one_ ?_) | (refine st 26 rfl (by rfl) w_Block rfl rfl bk_ lz_ lz_ one_ ?_) | (refine st 27 rfl (by rfl) w_Four rfl rfl bk_ lz_ lz_ one_ ?_))
      refine wp_gen (fun W => Blk W (0) (bandC) 164 ∧ MB W (g) (M) (v) ∧ Blk W (B) (#[x, .slice p 16 cap, y]) 50 ∧ Blk W (B + 1) (#[.int .i64 0, .slice none 0 0]) 46 ∧ Blk W (C) (arrV fr) 26 ∧ Kept (fun k => k = g ∨ v.ownBlock = some k) w W ∧ C + 1 ≤ W.heap.size) ⟨bk_, mb_, bk_, bk_, bk_, kq_, sz_⟩ ?_
      clear hBW h hA hR hfar hsz
      rintro w3 ⟨hBW, h, hA, hR, hfb, hfar, hsz⟩
      go_upto_region 6 with (fail)
      go_cut [6, 7, 8] from 25 to 39 (fun s6 s7 s8 wx => ∃ q, s6 = .int .i64 ER ∧ s7 = .string PK ∧ s8 = .pointer (some ⟨q, 0, none⟩) ∧ Blk wx q (arrV NL) 31 ∧ Blk wx 0 bandC 164 ∧ MB wx g M v ∧ Blk wx B #[x, .slice p 16 cap, y] 50 ∧ Blk wx (B + 1) #[.int .i64 0, .slice none 0 0] 46 ∧ Kept (fun k => k = g ∨ v.ownBlock = some k) w wx ∧ C + 1 ≤ wx.heap.size ∧ C + 1 ≤ q)
      case first =>
        refine wp_region_held_drew (S := fun W => Blk W (0) (bandC) 164 ∧ MB W (g) (M) (v) ∧ Blk W (B) (#[x, .slice p 16 cap, y]) 50 ∧ Blk W (B + 1) (#[.int .i64 0, .slice none 0 0]) 46 ∧ Blk W (C) (arrV fr) 26 ∧ Kept (fun k => k = g ∨ v.ownBlock = some k) w W ∧ C + 1 ≤ W.heap.size) (by kernel_rfl) (⟨hBW.drew, h.drew, hA.drew, hR.drew, hfb.drew, hfar.drew, hsz⟩) (fun hH => ?_)
        have hH2 := hH
        obtain ⟨hBW, h, hA, hR, hfb, hfar, hsz⟩ := hH2
        refine tk 0 hH (y := yp) (k := ?_)
        refine tk 1 hH (y := yp) (k := ?_)
        refine tk 2 hH (y := yp) (k := ?_)
        refine tk 3 hH (v := .agg (arrV M.e.l)) (y := (yieldsIf_ldr (by rfl) 31 rfl w_EEnc rfl (fun _ hS => hS.2.1.atE) (by rw [arr_size]; exact hl55))) (k := ?_)
        refine tk 4 hH (v := .agg (arrV fr)) (y := (yieldsIf_ld (by rfl) 26 rfl w_Block rfl (fun _ hS => hS.2.2.2.2.1) zz_)) (k := ?_)
        refine tk 5 hH (y := yp) (k := ?_)
        refine tk 6 hH (y := yp) (k := ?_)
        refine tk 7 hH (y := yp) (k := ?_)
        refine tk 8 hH (y := yp) (k := ?_)
        refine tk 9 hH (y := (.inl ⟨by rfl, fun w hS => by (have c := hS.2.1.cells.1.1; go_simp; try rfl)⟩)) (k := ?_)
        refine wpAnyH_ready (rs := [10, 15]) (by kernel_rfl) (by simp) ?_
        refine rc (h := fun K hK => ?_) (r := ?_)
        · go_simp
          refine (HEN.out _ hBW).mono ?_
          rintro r wq ⟨rfl, hb⟩
          have hbs := hb.size
          try simp only [World.size_alloc, World.size_setCell, World.size_drew, size_setRow] at hbs
          go_wp2_with fail
          refine hK.out _ _ ⟨bk_, mb_, bk_, bk_, bk_, kq_, Nat.le_trans (sz_) hb.size⟩ (fun hH2 => ?_)
          clear hH
          have hH := hH2
          obtain ⟨hBW, h, hA, hR, hfb, hfar, hsz⟩ := hH2
          clear hK K
          try simp only [Act.put, sa, List.set_cons_zero, List.set_cons_succ]
          refine tk 11 hH (y := yp) (k := ?_)
          refine tk 12 hH (y := yp) (k := ?_)
          refine tk 13 hH (y := yp) (k := ?_)
          refine tk 14 hH (y := yp) (k := ?_)
          refine wpAnyH_ready (rs := [15]) (by kernel_rfl) (by simp) ?_
          refine rc (h := fun K hK => ?_) (r := AllReadyH.nil)
          go_simp
          refine hK.out _ _ ⟨bk_, mb_, bk_, bk_, bk_, kq_, sz_⟩ (fun hH2 => ?_)
          clear hH
          have hH := hH2
          obtain ⟨hBW, h, hA, hR, hfb, hfar, hsz⟩ := hH2
          clear hK K
          try simp only [Act.put, sa, List.set_cons_zero, List.set_cons_succ]
          refine tk 16 hH (y := yp) (k := ?_)
          refine wpAnyH_ready (rs := [17]) (by kernel_rfl) (by simp) ?_
          refine rc (h := fun K hK => ?_) (r := AllReadyH.nil)
          refine wp_st 31 rfl w_EEnc rfl rfl bk_ zz_ zz_ one_ ?_
          refine hK.out _ _ ⟨bk_, mb_, bk_, bk_, bk_, kq_, sz_⟩ (fun hH2 => ?_)
          clear hH
          have hH := hH2
          obtain ⟨hBW, h, hA, hR, hfb, hfar, hsz⟩ := hH2
          clear hK K
          try simp only [Act.put]
          refine tk 18 hH (y := yp) (k := ?_)
          refine wpAnyH_done (by kernel_rfl) ?_ _
          go_wp2_with fail
          go_meet
          case rel => exact ⟨_, rfl, rfl, rfl, by exact bk_, by exact bk_, by exact mb_, by exact bk_, by exact bk_, by exact kq_, sz_, sz_⟩
        refine rc (h := fun K hK => ?_) (r := AllReadyH.nil)
        go_simp
        refine hK.out _ _ ⟨bk_, mb_, bk_, bk_, bk_, kq_, sz_⟩ (fun hH2 => ?_)
        clear hH
        have hH := hH2
        obtain ⟨hBW, h, hA, hR, hfb, hfar, hsz⟩ := hH2
        clear hK K
        try simp only [Act.put, sa, List.set_cons_zero, List.set_cons_succ]
        refine wpAnyH_ready (rs := [10]) (by kernel_rfl) (by simp) ?_
        refine rc (h := fun K hK => ?_) (r := AllReadyH.nil)
        go_simp
        refine (HEN.out _ hBW).mono ?_
        rintro r wq ⟨rfl, hb⟩
        have hbs := hb.size
        try simp only [World.size_alloc, World.size_setCell, World.size_drew, size_setRow] at hbs
        go_wp2_with fail
        refine hK.out _ _ ⟨bk_, mb_, bk_, bk_, bk_, kq_, Nat.le_trans (sz_) hb.size⟩ (fun hH2 => ?_)
        clear hH
        have hH := hH2
        obtain ⟨hBW, h, hA, hR, hfb, hfar, hsz⟩ := hH2
        clear hK K
        try simp only [Act.put, sa, List.set_cons_zero, List.set_cons_succ]
        refine tk 11 hH (y := yp) (k := ?_)
        refine tk 12 hH (y := yp) (k := ?_)
        refine tk 13 hH (y := yp) (k := ?_)
        refine tk 14 hH (y := yp) (k := ?_)
        refine tk 16 hH (y := yp) (k := ?_)
        refine wpAnyH_ready (rs := [17]) (by kernel_rfl) (by simp) ?_
        refine rc (h := fun K hK => ?_) (r := AllReadyH.nil)
        refine wp_st 31 rfl w_EEnc rfl rfl bk_ zz_ zz_ one_ ?_
        refine hK.out _ _ ⟨bk_, mb_, bk_, bk_, bk_, kq_, sz_⟩ (fun hH2 => ?_)
        clear hH
        have hH := hH2
        obtain ⟨hBW, h, hA, hR, hfb, hfar, hsz⟩ := hH2
        clear hK K
        try simp only [Act.put]
        refine tk 18 hH (y := yp) (k := ?_)
        refine wpAnyH_done (by kernel_rfl) ?_ _
        go_wp2_with fail
        go_meet
        case rel => exact ⟨_, rfl, rfl, rfl, by exact bk_, by exact bk_, by exact mb_, by exact bk_, by exact bk_, by exact kq_, sz_, sz_⟩
      case rest =>
        clear hBW h hA hR hfb hfar hsz
        obtain ⟨q, rfl, rfl, rfl, hq, hBW, h, hA, hR, hfar, hsz, hCq⟩ := hcut
        rcases HCASE.out with ⟨rfl, hso, hPK, hX, hNL⟩ | ⟨rfl, hso⟩
        case inr =>
          obtain rfl : R = (M, 1) := by rw [HS1.out, if_pos hso]
          clear hso
          go_wp2_with (first | (refine bd 46 rfl (by rfl) rfl reply_0 ?_) | (refine bd 46 rfl (by rfl) rfl (reply_1 _) ?_) | (refine st 46 rfl (by rfl) w_Reply rfl rfl bk_ zz_ zz_ one_ ?_))
          exact bodyPost_ret (v := .agg #[.int .i64 1, .slice none 0 0]) (res_c Tryz.results38 rfl w_Reply (by exact bk_) rfl) rfl ⟨v, rfl, by exact mb_, ⟨by exact kq_, fun _ hk => .inl hk⟩⟩
        case inl =>
          have hO := HO.out
          have hpm : packM M fr = ⟨1, M.now, PK⟩ := by rw [hPK]; rfl
          have hadd := fun w (h : MB w g M v) (hW : BandsW w) => add_any h hO (by omega) hW (x := packM M fr) (show 0 ≤ M.now by omega) (show M.now ≤ 4294967295 by omega)
          have hsz4 := Mst.Ok.add_sz M (packM M fr)
          have hNok := hO.add (hO.pack_right fr).1 (hO.pack_right fr).2
          have hb16 : S16 fr := ⟨H16.out, fun x hx => (cut16_iff x).1 (List.all_eq_true.1 hso x hx)⟩
          have hnx := hO.feed_next hNok hb16
          have e1 := HS1.out
          rw [if_neg (by rw [hso]; decide)] at e1
          obtain ⟨⟨N, E⟩, hN⟩ : ∃ N, addM M (packM M fr) = N := ⟨_, rfl⟩
          simp only [hN] at e1 hadd hsz4 hNok hnx
          simp only [hpm] at hadd
          have HS3 := Lib.hid hsz4.2.2.1
          have HS4 := Lib.hid hsz4.2.2.2
          obtain ⟨hNs0, hNs1⟩ : 0 ≤ N.sin ∧ N.sin ≤ k := by
            have e : N.sin = M.sin := HS4.out
            rw [e]; exact hsi
          clear hsz4
          have HE1 := Lib.hid e1
          have HADD := Lib.hid hadd
          have HNX := Lib.hid hnx
          have HXX := Lib.hid hX
          have HNL := Lib.hid hNL
          clear e1 hadd hnx hX hNL hso hPK hpm hN hNok HS1 HCASE HO hO hb16
          have c101 := h.cells.2.2.2.1
          go_wp2_with fail
          refine (Packet_any M.now PK _).mono ?_
          have hqlt := hq.lt
          rintro e w4 ⟨rfl, hb4⟩
          replace hBW := hBW.newB hb4
          replace h := h.newB hb4
          replace hA := hA.newB hb4
          replace hR := hR.newB hb4
          replace hq := hq.newB hb4
          replace hfar := hfar.thenBelow hb4
          replace hsz := Nat.le_trans hsz hb4.size
          go_wp2_with fail
          refine (HADD.out _ h hBW).mono ?_
          rintro e w5 ⟨v5, rfl, h5, ht5⟩
          dsimp only at h5
          have hs5 := ht5.size
          have hR5 := ht5.blk hR (by omega) (fun e => by have := HVO.out _ e; omega)
          have hA5 := ht5.blk hA (by omega) (fun e => by have := HVO.out _ e; omega)
          have hq5 := ht5.blk hq (by omega) (fun e => by have := HVO.out _ e; omega)
          have hBW5 := ht5.blk hBW (by omega) hgv.2
          have hv5 : ∀ k, v5.ownBlock = some k → k ≠ 0 ∧ k ≠ B + 1 := fun k hk => by
            have := (h5.olt k hk).1
            rcases ht5.row k hk with hk | hk
            · have := HVO.out k hk; omega
            · omega
          have hT := Trn.trans ⟨hfar, fun _ hk => .inl hk⟩ ht5
          have HV5 := Lib.hid hv5
          have hszN : C + 1 ≤ w5.heap.size := by omega
          clear hBW h hA hR hq hfar hsz hv5 ht5 c101 HADD HEN HFR HF HSK
          have hsz := hszN
          clear hszN
          by_cases hE0 : E = 0
          case neg =>
            have e := HE1.out
            rw [if_neg hE0] at e
            subst e
            have hE1 : (E == 0) = false := by simpa using hE0
            go_wp2_with (first | (refine bd 46 rfl (by rfl) rfl reply_0 ?_) | (refine bd 46 rfl (by rfl) rfl (reply_1 _) ?_) | (refine st 46 rfl (by rfl) w_Reply rfl rfl bk_ zz_ zz_ one_ ?_))
            exact bodyPost_ret (v := .agg #[.int .i64 E, .slice none 0 0]) (res_c Tryz.results38 rfl w_Reply (by exact bk_) rfl) rfl ⟨v5, rfl, h5.setRow (b := B + 1) (by omega) (fun k hk => (HV5.out k hk).2) _, hT.far (b := B + 1) (by omega) _⟩
          case pos =>
            have e := HE1.out
            rw [if_pos hE0] at e
            unfold fedM at e
            have HE := Lib.hid e
            subst hE0
            clear e HE1
            obtain rfl := HNL.out
            obtain ⟨Y, hY⟩ : ∃ Y, w5.setCells g 44 (arrV X.l).toList = Y := ⟨_, rfl⟩
            have hX : MB Y g { N with e := X } v5 := by rw [← hY]; exact h5.setE LNL.out
            have hkS := Kept.setCells (S := fun k => k = g) (arrV X.l).toList 44 (Kept.refl _ w5) (.inl rfl)
            rw [hY] at hkS
            have hRY := hR5.keep hkS (by omega)
            have hAY := hA5.keep hkS (by omega)
            have hBWY := hBW5.keep hkS (by omega)
            have hTY : Trn g v v5 w Y := by rw [← hY]; exact hT.heres 44 _
            have hsY : C + 1 ≤ Y.heap.size := Nat.le_trans hsz hkS.size
            have d103 := hX.cells.2.2.2.2.2.1
            have g103 := hX.frz 103
            have HY := Lib.hid hY
            clear hY hkS
            go_upto_region 13 with (first | (refine ld 31 rfl (by rfl) w_EEnc rfl hq5 LNL.sz ?_) | (refine stm 31 rfl (by rfl) w_EEnc rfl rfl h5.blk (by rw [h5.size]; omega) LNL.sz one_ ?_; rw [HY.out]))
            have hT1 := hX.setSin (N.sin + 1)
            refine wp_gen (fun W => MB W g { N with e := X, sin := N.sin + 1 } v5 ∧ Blk W 0 bandC 164 ∧ Blk W B #[x, .slice p 16 cap, y] 50 ∧ Blk W (B + 1) #[.int .i64 0, .slice none 0 0] 46 ∧ Trn g v v5 w W ∧ C + 1 ≤ W.heap.size) ⟨hT1, hBWY.other (show 0 ≠ g by omega) _, hAY.other (show B ≠ g by omega) _, hRY.other (show B + 1 ≠ g by omega) _, hTY.here ⟨g, 103, none⟩ rfl _, by rw [World.size_setCell]; exact hsY⟩ ?_
            clear hX hT1 hBWY hAY hRY hTY hsY d103 g103 h5 hq5 hR5 hA5 hBW5 hT hsz
            rintro w7 ⟨h, hBW, hA, hR, hT, hsz⟩
            have hNx : ({ N with e := X, sin := N.sin + 1 } : Mst) = nextM M N fr := by unfold nextM; rw [HXX.out, show N.sin = M.sin from HS4.out]
            rw [hNx] at h
            have hnxt := HNX.out
            have hchk := fun w (h : MB w g (nextM M N fr) v5) (hW : BandsW w) => check_any h hnxt (by omega) (by omega) hW (av := #[x, .slice p 16 cap, y]) rfl
            have e := HE.out
            have hck2 : (nextM M N fr).ck = M.ck := HS3.out
            have hsi2 : (nextM M N fr).sin = M.sin + 1 := rfl
            obtain ⟨⟨_, _, c2, _⟩, _, _, _, _, c103, _⟩ := h.cells
            rw [hck2] at c2
            rw [hsi2] at c103
            obtain ⟨T, hT0⟩ : ∃ T, nextM M N fr = T := ⟨_, rfl⟩
            simp only [hT0] at h hchk e
            obtain ⟨⟨U, F⟩, hU⟩ : ∃ U, checkM T = U := ⟨_, rfl⟩
            simp only [hU] at hchk e
            have HCHK := Lib.hid hchk
            clear hNx hnxt hchk hck2 hsi2 hT0 hU HE HNX HXX HNL
            go_quiet (fail)
            by_cases hcm : M.ck ≤ M.sin + 1
            · rw [if_pos hcm] at e
              subst e
              go_wp2_with (refine ld 50 rfl (by rfl) w_Mact rfl (hA.drewN _) rfl ?_)
              refine (HCHK.out _ (h.drewN _) (hBW.drewN _)).mono ?_
              rintro e w9 ⟨v9, rfl, h9, ht9⟩
              have hR9 := ht9.blk (hR.drewN _) (by omega) (fun e => (HV5.out _ e).2 rfl)
              have hs9 : C + 1 ≤ w9.heap.size := Nat.le_trans hsz ht9.size
              go_wp2_with (first | (refine bd 46 rfl (by rfl) rfl reply_0 ?_) | (refine bd 46 rfl (by rfl) rfl (reply_1 _) ?_) | (refine st 46 rfl (by rfl) w_Reply rfl rfl bk_ zz_ zz_ one_ ?_))
              exact bodyPost_ret (v := .agg #[.int .i64 F, .slice none 0 0]) (res_c Tryz.results38 rfl w_Reply (by exact bk_) rfl) rfl ⟨v9, rfl, h9.setRow (b := B + 1) (by omega) (fun k hk => by
                rcases ht9.row k hk with hk | hk
                · exact (HV5.out k hk).2
                · have : C + 1 ≤ k := Nat.le_trans hsz hk
                  omega) _, (Trn.trans ⟨hT.kept.drewN _, hT.row⟩ ht9).far (b := B + 1) (by omega) _⟩
            · rw [if_neg hcm] at e
              subst e
              go_wp2_with (first | (refine bd 46 rfl (by rfl) rfl reply_0 ?_) | (refine bd 46 rfl (by rfl) rfl (reply_1 _) ?_) | (refine st 46 rfl (by rfl) w_Reply rfl rfl bk_ zz_ zz_ one_ ?_))
              exact bodyPost_ret (v := .agg #[.int .i64 0, .slice none 0 0]) (res_c Tryz.results38 rfl w_Reply (by exact bk_) rfl) rfl ⟨v5, rfl, (h.drewN _).setRow (b := B + 1) (by omega) (fun k hk => (HV5.out k hk).2) _, Trn.far ⟨hT.kept.drewN _, hT.row⟩ (b := B + 1) (by omega) _⟩
end Go.Proofs.YtkoljgmapclhkaaGreatDoor
