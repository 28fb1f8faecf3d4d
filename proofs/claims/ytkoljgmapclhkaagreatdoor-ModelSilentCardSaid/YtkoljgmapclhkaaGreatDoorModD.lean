/- The walks of the acts: check, start, play, seek. -/
import Derived.Test.YtkoljgmapclhkaaGreatDoorModC
import Derived.Test.YtkoljgmapclhkaaGreatDoorLot15
set_option linter.unusedSimpArgs false
set_option linter.unusedVariables false
namespace Go.Proofs.YtkoljgmapclhkaaGreatDoor
open Go.RowKit

set_option maxRecDepth 100000 in
set_option maxHeartbeats 8000000 in
theorem check_any {w : World} {g : Nat} {M : Mst} {v : Value} (h : MB w g M v) {k n : Nat} (hO : M.Ok k n) (hk : k ≤ 1000000) (hn : n ≤ 900) (hW : BandsW w) {av : Array Value} (hav : av.size = 3) :
    Calls Tryz.prog 41 #[.pointer (some ⟨g, 0, none⟩), .agg av] w (RetR w g v (checkM M)) := by
  have hBW : Blk w 0 bandC 164 := hW
  have hgv := mb_bands h hW
  have hS : checkM M = checkM M := rfl
  conv at hS => rhs; unfold checkM
  have hO' : Mst.Ok { M with sin := 0 } k n := { hO with sin := ⟨by show (0 : Int) ≤ 0; omega, by show (0 : Int) ≤ k; omega⟩ }
  have hno := hO.now
  have hch := fun w => Check_any M.now M.st hO.st_len w
  have hcv : chkV M.now M.st = chkE M.now M.st := by unfold chkV; rw [if_pos hO.st_right]
  have hce : bytesE M.st = 0 := by unfold bytesE; rw [if_pos hO.st_right]
  rw [hcv, hce] at hch
  have hL38 := h.l38
  have hadd := fun w (h : MB w g { M with sin := 0 } v) (hW : BandsW w) => add_any h hO' hn hW (x := chkE M.now M.st) (show 0 ≤ M.now by omega) (show M.now ≤ 4294967295 by omega)
  obtain ⟨R, hR0⟩ : ∃ R, checkM M = R := ⟨_, rfl⟩
  rw [hR0] at hS ⊢
  obtain ⟨C, hC⟩ : ∃ C, chkE M.now M.st = C := ⟨_, rfl⟩
  simp only [hC] at hS hch hadd
  obtain ⟨⟨N, E⟩, hN⟩ : ∃ N, addM { M with sin := 0 } C = N := ⟨_, rfl⟩
  simp only [hN] at hS hadd
  have HS := Lib.hid hS
  have HCH := Lib.hid hch
  have HADD := Lib.hid hadd
  have hw1 : IntKind.u32.wrap M.now = M.now := by rw [IntKind.wrap_u32]; omega
  clear hS hR0 hch hadd hC hN hcv hce hO hO' hW
  have hg := h.lt
  have HVO := Lib.hid (fun k hk => (h.olt k hk).2)
  obtain ⟨B, hB⟩ : ∃ B, w.heap.size = B := ⟨_, rfl⟩
  have HVB := h.vb hB
  rw [hB] at hg HVO
  have hfar := Kept.refl (fun k => k = g ∨ v.ownBlock = some k) w
  have hsz : B ≤ w.heap.size := by omega
  go_enter Tryz.func41, Tryz.ntmps41
  go_upto_region 1 with (fail)
  refine wp_gen (fun W => Blk W (0) (bandC) 164 ∧ MB W (g) (M) (v) ∧ Blk W (B) (av) 50 ∧ Blk W (B + 1) (#[.int .i64 0, .slice none 0 0]) 46 ∧ Kept (fun k => k = g ∨ v.ownBlock = some k) w W ∧ B + 2 ≤ W.heap.size) ⟨bk_, mb_, bk_, bk_, kp_, sz_⟩ ?_
  clear hBW h hfar hsz
  rintro w1 ⟨hBW, h, hA, hR, hfar, hsz⟩
  obtain ⟨_, c99, _, c101, _, c103, _⟩ := h.cells
  have f103 := h.frz 103
  rcases (bool_two M.run) with hr | hr
  case inl =>
    rw [hr] at c99
    obtain rfl : R = (M, 8) := by rw [HS.out, hr]; rfl
    go_wp2_with (first | (refine bd 46 rfl (by rfl) rfl reply_0 ?_) | (refine bd 46 rfl (by rfl) rfl (reply_1 _) ?_) | (refine st 46 rfl (by rfl) w_Reply rfl rfl bk_ zz_ zz_ one_ ?_))
    exact bodyPost_ret (v := .agg #[.int .i64 8, .slice none 0 0]) (res_c Tryz.results41 rfl w_Reply (by exact bk_) rfl) rfl ⟨v, rfl, by exact mb_, ⟨by exact kq_, fun _ hk => .inl hk⟩⟩
  case inr =>
    rw [hr] at c99
    obtain rfl : R = (N, E) := by rw [HS.out, hr]; rfl
    go_upto_region 4 with (fail)
    have h' := h.setSin 0
    clear c99 c101 c103 f103
    refine wp_gen (fun W => Blk W 0 bandC 164 ∧ MB W g { M with sin := 0 } v ∧ Blk W B av 50 ∧ Blk W (B + 1) #[.int .i64 0, .slice none 0 0] 46 ∧ Kept (fun k => k = g ∨ v.ownBlock = some k) w W ∧ B + 2 ≤ W.heap.size) ⟨hBW.other (by simp only []; omega) _, h', hA.other (by simp only []; omega) _, hR.other (by simp only []; omega) _, by exact kq_, sz_⟩ ?_
    clear hBW h h' hA hR hfar hsz
    rintro w2 ⟨hBW, h, hA, hR, hfar, hsz⟩
    go_cut [5, 6] from 16 to 28 (fun s5 s6 wx => ∃ q, s5 = .pointer (some ⟨q, 0, none⟩) ∧ s6 = .int .i64 0 ∧ Blk wx q (entV C) 92 ∧ Blk wx 0 bandC 164 ∧ MB wx g { M with sin := 0 } v ∧ Blk wx (B + 1) #[.int .i64 0, .slice none 0 0] 46 ∧ Kept (fun k => k = g ∨ v.ownBlock = some k) w wx ∧ B + 2 ≤ wx.heap.size ∧ B + 2 ≤ q)
    case first =>
      refine wp_region_held_drew (S := fun W => Blk W (0) (bandC) 164 ∧ MB W (g) ({ M with sin := 0 }) (v) ∧ Blk W (B) (av) 50 ∧ Blk W (B + 1) (#[.int .i64 0, .slice none 0 0]) 46 ∧ Kept (fun k => k = g ∨ v.ownBlock = some k) w W ∧ B + 2 ≤ W.heap.size) (by kernel_rfl) (⟨hBW.drew, h.drew, hA.drew, hR.drew, hfar.drew, hsz⟩) (fun hH => ?_)
      have hH2 := hH
      obtain ⟨hBW, h, hA, hR, hfar, hsz⟩ := hH2
      refine tk 0 hH (y := yp) (k := ?_)
      refine tk 1 hH (y := yp) (k := ?_)
      refine tk 2 hH (y := yp) (k := ?_)
      refine tk 3 hH (y := (.inl ⟨by rfl, fun w hS => by (have c := hS.2.1.cells.2.2.2.1; go_simp; try rfl)⟩)) (k := ?_)
      refine tk 4 hH (y := yp) (k := ?_)
      refine tk 5 hH (y := yp) (k := ?_)
      refine tk 6 hH (y := yp) (k := ?_)
      refine tk 7 hH (y := yp) (k := ?_)
      refine tk 8 hH (v := .agg (arrV M.st)) (y := (yieldsIf_ldr (by rfl) 29 rfl w_State rfl (fun _ hS => hS.2.1.atSt) (by rw [arr_size]; exact hL38))) (k := ?_)
      refine wpAnyH_ready (rs := [9, 13]) (by kernel_rfl) (by simp) ?_
      refine rc (h := fun K hK => ?_) (r := ?_)
      · go_simp
        refine (HCH.out _).mono ?_
        rintro r wq ⟨rfl, hb⟩
        have hbs := hb.size
        try simp only [World.size_alloc, World.size_setCell, World.size_drew, size_setRow] at hbs
        go_wp2_with fail
        refine hK.out _ _ ⟨bk_, mb_, bk_, bk_, kq_, Nat.le_trans (sz_) hb.size⟩ (fun hH2 => ?_)
        clear hH
        have hH := hH2
        obtain ⟨hBW, h, hA, hR, hfar, hsz⟩ := hH2
        clear hK K
        try simp only [Act.put, sa, List.set_cons_zero, List.set_cons_succ]
        refine tk 10 hH (y := yp) (k := ?_)
        refine tk 11 hH (y := yp) (k := ?_)
        refine tk 12 hH (y := yp) (k := ?_)
        refine wpAnyH_ready (rs := [13]) (by kernel_rfl) (by simp) ?_
        refine rc (h := fun K hK => ?_) (r := AllReadyH.nil)
        go_simp
        refine hK.out _ _ ⟨bk_, mb_, bk_, bk_, kq_, sz_⟩ (fun hH2 => ?_)
        clear hH
        have hH := hH2
        obtain ⟨hBW, h, hA, hR, hfar, hsz⟩ := hH2
        clear hK K
        try simp only [Act.put, sa, List.set_cons_zero, List.set_cons_succ]
        refine wpAnyH_ready (rs := [14]) (by kernel_rfl) (by simp) ?_
        refine rc (h := fun K hK => ?_) (r := AllReadyH.nil)
        refine wp_st 92 rfl w_Entry rfl rfl bk_ zz_ zz_ one_ ?_
        refine hK.out _ _ ⟨bk_, mb_, bk_, bk_, kq_, sz_⟩ (fun hH2 => ?_)
        clear hH
        have hH := hH2
        obtain ⟨hBW, h, hA, hR, hfar, hsz⟩ := hH2
        clear hK K
        try simp only [Act.put]
        refine tk 15 hH (y := yp) (k := ?_)
        refine wpAnyH_done (by kernel_rfl) ?_ _
        go_wp2_with fail
        go_meet
        case rel => exact ⟨_, rfl, rfl, by exact bk_, by exact bk_, by exact mb_, by exact bk_, by exact kq_, sz_, sz_⟩
      refine rc (h := fun K hK => ?_) (r := AllReadyH.nil)
      go_simp
      refine hK.out _ _ ⟨bk_, mb_, bk_, bk_, kq_, sz_⟩ (fun hH2 => ?_)
      clear hH
      have hH := hH2
      obtain ⟨hBW, h, hA, hR, hfar, hsz⟩ := hH2
      clear hK K
      try simp only [Act.put, sa, List.set_cons_zero, List.set_cons_succ]
      refine wpAnyH_ready (rs := [9]) (by kernel_rfl) (by simp) ?_
      refine rc (h := fun K hK => ?_) (r := AllReadyH.nil)
      go_simp
      refine (HCH.out _).mono ?_
      rintro r wq ⟨rfl, hb⟩
      have hbs := hb.size
      try simp only [World.size_alloc, World.size_setCell, World.size_drew, size_setRow] at hbs
      go_wp2_with fail
      refine hK.out _ _ ⟨bk_, mb_, bk_, bk_, kq_, Nat.le_trans (sz_) hb.size⟩ (fun hH2 => ?_)
      clear hH
      have hH := hH2
      obtain ⟨hBW, h, hA, hR, hfar, hsz⟩ := hH2
      clear hK K
      try simp only [Act.put, sa, List.set_cons_zero, List.set_cons_succ]
      refine tk 10 hH (y := yp) (k := ?_)
      refine tk 11 hH (y := yp) (k := ?_)
      refine tk 12 hH (y := yp) (k := ?_)
      refine wpAnyH_ready (rs := [14]) (by kernel_rfl) (by simp) ?_
      refine rc (h := fun K hK => ?_) (r := AllReadyH.nil)
      refine wp_st 92 rfl w_Entry rfl rfl bk_ zz_ zz_ one_ ?_
      refine hK.out _ _ ⟨bk_, mb_, bk_, bk_, kq_, sz_⟩ (fun hH2 => ?_)
      clear hH
      have hH := hH2
      obtain ⟨hBW, h, hA, hR, hfar, hsz⟩ := hH2
      clear hK K
      try simp only [Act.put]
      refine tk 15 hH (y := yp) (k := ?_)
      refine wpAnyH_done (by kernel_rfl) ?_ _
      go_wp2_with fail
      go_meet
      case rel => exact ⟨_, rfl, rfl, by exact bk_, by exact bk_, by exact mb_, by exact bk_, by exact kq_, sz_, sz_⟩
    case rest =>
      clear hBW h hA hR hfar hsz
      obtain ⟨q, rfl, rfl, hE, hBW, h, hR, hfar, hsz, hq⟩ := hcut
      go_wp2_with (first | (refine st 92 rfl (by rfl) w_Entry rfl rfl bk_ zz_ zz_ one_ ?_) | (refine ld 92 rfl (by rfl) w_Entry rfl bk_ zz_ ?_) | (refine bd 29 rfl (by rfl) rfl state_zs ?_) | (refine bd 26 rfl (by rfl) rfl block_zs ?_) | (refine ld 29 rfl (by rfl) w_State rfl bk_ lz_ ?_) | (refine ld 26 rfl (by rfl) w_Block rfl bk_ lz_ ?_) | (refine ldp 26 rfl (by rfl) w_Block rfl bk_ ln_ (by omega) ?_) | (refine ld 27 rfl (by rfl) w_Four rfl bk_ lz_ ?_) | (refine ldp 27 rfl (by rfl) w_Four rfl bk_ ln_ (by omega) ?_) | (refine st 29 rfl (by rfl) w_State rfl rfl bk_ lz_ lz_ one_ ?_) | (refine st 26 rfl (by rfl) w_Block rfl rfl bk_ lz_ lz_ one_ ?_) | (refine st 27 rfl (by rfl) w_Four rfl rfl bk_ lz_ lz_ one_ ?_))
      refine (HADD.out _ h hBW).mono ?_
      rintro e w5 ⟨v5, rfl, h5, ht5⟩
      have hR5 := ht5.blk hR (by omega) (fun e => by have := HVO.out _ e; omega)
      have hs5 := ht5.size
      go_wp2_with (first | (refine bd 46 rfl (by rfl) rfl reply_0 ?_) | (refine bd 46 rfl (by rfl) rfl (reply_1 _) ?_) | (refine st 46 rfl (by rfl) w_Reply rfl rfl bk_ zz_ zz_ one_ ?_))
      exact bodyPost_ret (v := .agg #[.int .i64 E, .slice none 0 0]) (res_c Tryz.results41 rfl w_Reply (by exact bk_) rfl) rfl ⟨v5, rfl, h5.setRow (b := B + 1) (by omega) (fun k hk => by
        rcases ht5.row k hk with hk | hk
        · have := HVO.out k hk; omega
        · omega) _, (Trn.trans ⟨hfar, fun _ hk => .inl hk⟩ ht5).far (b := B + 1) (by omega) _⟩
end Go.Proofs.YtkoljgmapclhkaaGreatDoor
