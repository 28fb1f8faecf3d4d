/- The walks of the acts that are heard: play, seek. -/
import Derived.Test.YtkoljgmapclhkaaGreatDoorModG
set_option linter.unusedSimpArgs false
set_option linter.unusedVariables false
namespace Go.Proofs.YtkoljgmapclhkaaGreatDoor
open Go.RowKit

set_option maxRecDepth 100000 in
theorem reply_s (e : Int) (p : Option Addr) (n c : Nat) : Tryz.prog.built 46 [(0, .int .i64 e), (1, .slice p n c)] = some #[.int .i64 e, .slice p n c] := by rfl
set_option maxRecDepth 100000 in
theorem reply_t (p : Option Addr) (n c : Nat) : Tryz.prog.built 46 [(1, .slice p n c)] = some #[.int .i64 0, .slice p n c] := by rfl
/-- What any act leaves. -/
def RetD (w : World) (g : Nat) (v : Value) (r : Mst × Int × List (List Int)) (e : Ending) (w' : World) : Prop :=
  ∃ (v' : Value) (q : Option Addr) (n cap lo hi : Nat), e = .returned (.agg #[.int .i64 r.2.1, .slice q n cap]) ∧ n = r.2.2.length ∧ SL w' lo hi 16 q n cap (r.2.2.flatMap intsV) ∧ w.heap.size ≤ lo ∧ MB w' g r.1 v' ∧ Trn g v v' w w'
theorem RetR.any {w : World} {g : Nat} {v : Value} {p : Mst × Int} {e : Ending} {w' : World} (h : RetR w g v p e w') : RetD w g v (p.1, p.2, []) e w' := by
  obtain ⟨v', he, hM, hT⟩ := h
  exact ⟨v', none, 0, 0, w'.heap.size, w'.heap.size, he, rfl, SL.nil _ _ _ _ (Nat.le_refl _), hT.size, hM, hT⟩
set_option maxRecDepth 100000 in
set_option maxHeartbeats 8000000 in
theorem play_any {w : World} {g : Nat} {M : Mst} {v : Value} (h : MB w g M v) (hn : M.ents.length ≤ 1000) (hW : BandsW w) {av : Array Value} (hav : av.size = 3) :
    Calls Tryz.prog 43 #[.pointer (some ⟨g, 0, none⟩), .agg av] w (RetD w g v (M, 0, foldO (zs 38) M.ents)) := by
  have hBW : Blk w 0 bandC 164 := hW
  have hgv := mb_bands h hW
  obtain ⟨p, cp, hv, hs⟩ := h.slice
  obtain ⟨L, hL⟩ : ∃ L, M.ents.length = L := ⟨_, rfl⟩
  rw [hL] at hv hs hn
  have hfo := fun w lo hi hW (hs : SL w lo hi 3 p L cp (flE M.ents)) => toBN (Fold_all (Len.zs 38) hL (by omega) hW hs)
  obtain ⟨O, hO⟩ : ∃ O, foldO (zs 38) M.ents = O := ⟨_, rfl⟩
  have LF := Len.mk (foldS_len (Len.zs 38).out M.ents)
  obtain ⟨F, hF⟩ : ∃ F, foldS (zs 38) M.ents = F := ⟨_, rfl⟩
  obtain ⟨X, hX⟩ : ∃ X, flE M.ents = X := ⟨_, rfl⟩
  rw [hO]
  rw [hF] at LF
  rw [hX] at hs
  simp only [hO, hF, hX] at hfo
  obtain ⟨xs, hxs⟩ : ∃ xs, O.flatMap intsV = xs := ⟨_, rfl⟩
  obtain ⟨no, hno⟩ : ∃ no, O.length = no := ⟨_, rfl⟩
  simp only [hxs, hno] at hfo
  have HXS := Lib.hid hxs
  have HNO := Lib.hid hno
  have HFO := Lib.hid hfo
  have HV := Lib.hid hv
  clear hL hO hF hX hv hfo hW hxs hno
  have hg := h.lt
  have HVO := Lib.hid (fun k hk => (h.olt k hk).2)
  obtain ⟨B, hB⟩ : ∃ B, w.heap.size = B := ⟨_, rfl⟩
  have HVB := h.vb hB
  rw [hB] at hg HVO
  have hfar := Kept.refl (fun k => k = g ∨ v.ownBlock = some k) w
  have hsz : B ≤ w.heap.size := by omega
  have hQ := hs
  rw [hB] at hQ
  clear hs
  go_enter Tryz.func43, Tryz.ntmps43
  go_upto_region 1 with (fail)
  refine wp_gen (fun W => Blk W (0) (bandC) 164 ∧ MB W (g) (M) (v) ∧ SL W (g + 1) (B) (3) (p) (L) (cp) (X) ∧ Blk W (B) (av) 50 ∧ Blk W (B + 1) (#[.int .i64 0, .slice none 0 0]) 46 ∧ Kept (fun k => k = g ∨ v.ownBlock = some k) w W ∧ B + 2 ≤ W.heap.size) ⟨bk_, mb_, sl_, bk_, bk_, kq_, sz_⟩ ?_
  clear hBW h hQ hfar hsz
  rintro w1 ⟨hBW, h, hQ, hA, hR, hfar, hsz⟩
  obtain ⟨⟨_, _, _, _, _, c5⟩, _⟩ := h.cells
  rw [HV.out] at c5
  go_wp2_with (refine bd 29 rfl (by rfl) rfl state_zs ?_)
  refine (HFO.out _ _ _ hBW hQ).mono ?_
  rintro e w2 ⟨v2, rfl, hv2, hb2⟩
  obtain ⟨pa, ca, lo, hi, rfl, hsa, hlo, hhi⟩ := own_ex hv2
  have hlo2 : B + 2 ≤ lo := by omega
  clear hlo hv2 c5
  replace hBW := hBW.newB hb2
  replace h := h.newB hb2
  replace hQ := hQ.newB hb2
  replace hA := hA.newB hb2
  replace hR := hR.newB hb2
  replace hfar := hfar.thenBelow hb2
  replace hsz := Nat.le_trans hsz hb2.size
  obtain ⟨C, hC⟩ : ∃ C, w2.heap.size = C := ⟨_, rfl⟩
  have hBC : B + 2 ≤ C := by omega
  rw [hC] at hhi
  go_wp2_with (first | (refine st 29 rfl (by rfl) w_State rfl rfl bk_ lz_ lz_ one_ ?_) | (refine bd 46 rfl (by rfl) rfl (reply_t _ _ _) ?_) | (refine st 46 rfl (by rfl) w_Reply rfl rfl bk_ zz_ zz_ one_ ?_))
  exact bodyPost_ret (v := .agg #[.int .i64 0, .slice pa no ca]) (res_c Tryz.results43 rfl w_Reply (by exact bk_) rfl) rfl ⟨v, pa, no, ca, lo, hi, rfl, HNO.out.symm, by rw [HXS.out]; exact sl_, by omega, by exact mb_, ⟨by exact kq_, fun _ hk => .inl hk⟩⟩
set_option maxRecDepth 100000 in
set_option maxHeartbeats 8000000 in
theorem seek_any {w : World} {g : Nat} {M : Mst} {v : Value} (h : MB w g M v) (hn : M.ents.length ≤ 1000) (hW : BandsW w) (x y : Value) (an : Int) :
    Calls Tryz.prog 44 #[.pointer (some ⟨g, 0, none⟩), .agg #[x, y, .int .i64 an]] w (RetD w g v (if mayE M.ents.length an then (M, 0, fromO M.ents an.toNat) else (M, 1, []))) := by
  have hBW : Blk w 0 bandC 164 := hW
  have hgv := mb_bands h hW
  obtain ⟨p, cp, hv, hs⟩ := h.slice
  obtain ⟨L, hL⟩ : ∃ L, M.ents.length = L := ⟨_, rfl⟩
  rw [hL] at hv hs hn
  rw [hL]
  cases hm : mayE L an with
  | false =>
    rw [if_neg (by decide)]
    have hfo := fun w => From_out p L cp an hm w
    have HFO := Lib.hid hfo
    have HV := Lib.hid hv
    clear hL hv hs hm hfo hW
    have hg := h.lt
    have HVO := Lib.hid (fun k hk => (h.olt k hk).2)
    obtain ⟨B, hB⟩ : ∃ B, w.heap.size = B := ⟨_, rfl⟩
    have HVB := h.vb hB
    rw [hB] at hg HVO
    have hfar := Kept.refl (fun k => k = g ∨ v.ownBlock = some k) w
    have hsz : B ≤ w.heap.size := by omega
    go_enter Tryz.func44, Tryz.ntmps44
    go_upto_region 1 with (fail)
    refine wp_gen (fun W => Blk W (0) (bandC) 164 ∧ MB W (g) (M) (v) ∧ Blk W (B) (#[x, y, .int .i64 an]) 50 ∧ Blk W (B + 1) (#[.int .i64 0, .slice none 0 0]) 46 ∧ Kept (fun k => k = g ∨ v.ownBlock = some k) w W ∧ B + 2 ≤ W.heap.size) ⟨bk_, mb_, bk_, bk_, kq_, sz_⟩ ?_
    clear hBW h hfar hsz
    rintro w1 ⟨hBW, h, hA, hR, hfar, hsz⟩
    go_cut [5, 6] from 7 to 16 (fun s5 s6 wx => s5 = .slice none 0 0 ∧ s6 = .int .i64 1 ∧ MB wx g M v ∧ Blk wx (B + 1) #[.int .i64 0, .slice none 0 0] 46 ∧ Kept (fun k => k = g ∨ v.ownBlock = some k) w wx ∧ B + 2 ≤ wx.heap.size)
    case first =>
      refine wp_region_held_drew (S := fun W => Blk W (0) (bandC) 164 ∧ MB W (g) (M) (v) ∧ Blk W (B) (#[x, y, .int .i64 an]) 50 ∧ Blk W (B + 1) (#[.int .i64 0, .slice none 0 0]) 46 ∧ Kept (fun k => k = g ∨ v.ownBlock = some k) w W ∧ B + 2 ≤ W.heap.size) (by kernel_rfl) (⟨hBW.drew, h.drew, hA.drew, hR.drew, hfar.drew, hsz⟩) (fun hH => ?_)
      have hH2 := hH
      obtain ⟨hBW, h, hA, hR, hfar, hsz⟩ := hH2
      refine tk 0 hH (y := yp) (k := ?_)
      refine tk 1 hH (y := yp) (k := ?_)
      refine tk 2 hH (y := yp) (k := ?_)
      refine tk 3 hH (y := (.inl ⟨by rfl, fun w hS => by (have c := HV.out ▸ hS.2.1.cells.1.2.2.2.2.2; go_simp; try rfl)⟩)) (k := ?_)
      refine tk 4 hH (y := yp) (k := ?_)
      refine tk 5 hH (y := (.inl ⟨by rfl, fun w hS => by (have c := hS.2.2.1.cell 2; go_simp; try rfl)⟩)) (k := ?_)
      refine wpAnyH_ready (rs := [6]) (by kernel_rfl) (by simp) ?_
      refine rc (h := fun K hK => ?_) (r := AllReadyH.nil)
      go_simp
      refine (HFO.out _).mono ?_
      rintro r wq ⟨rfl, hb⟩
      have hbs := hb.size
      try simp only [World.size_alloc, World.size_setCell, World.size_drew, size_setRow] at hbs
      go_wp2_with fail
      refine hK.out _ _ ⟨bk_, mb_, bk_, bk_, kq_, Nat.le_trans (sz_) hb.size⟩ (fun hH2 => ?_)
      clear hH
      have hH := hH2
      obtain ⟨hBW, h, hA, hR, hfar, hsz⟩ := hH2
      clear hK K
      try simp only [Act.put, sa, List.set_cons_zero, List.set_cons_succ]
      refine tk 7 hH (y := yp) (k := ?_)
      refine tk 8 hH (y := yp) (k := ?_)
      refine tk 9 hH (y := yp) (k := ?_)
      refine tk 10 hH (y := yp) (k := ?_)
      refine tk 11 hH (y := yp) (k := ?_)
      refine wpAnyH_done (by kernel_rfl) ?_ _
      go_wp2_with fail
      go_meet
      case rel => exact ⟨rfl, rfl, by exact mb_, by exact bk_, by exact kq_, sz_⟩
    case rest =>
      clear hBW h hA hR hfar hsz
      obtain ⟨rfl, rfl, h, hR, hfar, hsz⟩ := hcut
      go_wp2_with (first | (refine bd 46 rfl (by rfl) rfl (reply_s _ _ _ _) ?_) | (refine st 46 rfl (by rfl) w_Reply rfl rfl bk_ zz_ zz_ one_ ?_))
      exact bodyPost_ret (v := .agg #[.int .i64 1, .slice none 0 0]) (res_c Tryz.results44 rfl w_Reply (by exact bk_) rfl) rfl ⟨v, none, 0, 0, wc.heap.size, wc.heap.size, rfl, rfl, SL.nil _ _ _ _ (by rw [size_setRow]; exact Nat.le_refl _), by omega, by exact mb_, ⟨by exact kq_, fun _ hk => .inl hk⟩⟩
  | true =>
    rw [if_pos rfl]
    have hm2 := hm
    unfold mayE at hm2
    simp only [Bool.and_eq_true, decide_eq_true_eq] at hm2
    obtain ⟨i, rfl⟩ : ∃ i : Nat, an = i := ⟨an.toNat, by omega⟩
    rw [Int.toNat_natCast]
    have hfo := fun w lo hi hW (hs : SL w lo hi 3 p L cp (flE M.ents)) => From_in hL (by omega) hW hs (i := i) (by omega)
    obtain ⟨O, hO⟩ : ∃ O, fromO M.ents i = O := ⟨_, rfl⟩
    obtain ⟨X, hX⟩ : ∃ X, flE M.ents = X := ⟨_, rfl⟩
    rw [hO]
    rw [hX] at hs
    simp only [hO, hX] at hfo
    obtain ⟨xs, hxs⟩ : ∃ xs, O.flatMap intsV = xs := ⟨_, rfl⟩
    obtain ⟨no, hno⟩ : ∃ no, O.length = no := ⟨_, rfl⟩
    simp only [hxs, hno] at hfo
    have HXS := Lib.hid hxs
    have HNO := Lib.hid hno
    have HFO := Lib.hid hfo
    have HV := Lib.hid hv
    clear hL hO hX hv hfo hW hxs hno hm hm2
    have hg := h.lt
    have HVO := Lib.hid (fun k hk => (h.olt k hk).2)
    obtain ⟨B, hB⟩ : ∃ B, w.heap.size = B := ⟨_, rfl⟩
    have HVB := h.vb hB
    rw [hB] at hg HVO
    have hfar := Kept.refl (fun k => k = g ∨ v.ownBlock = some k) w
    have hsz : B ≤ w.heap.size := by omega
    have hQ := hs
    rw [hB] at hQ
    clear hs
    go_enter Tryz.func44, Tryz.ntmps44
    go_upto_region 1 with (fail)
    refine wp_gen (fun W => Blk W (0) (bandC) 164 ∧ MB W (g) (M) (v) ∧ SL W (g + 1) (B) (3) (p) (L) (cp) (X) ∧ Blk W (B) (#[x, y, .int .i64 i]) 50 ∧ Blk W (B + 1) (#[.int .i64 0, .slice none 0 0]) 46 ∧ Kept (fun k => k = g ∨ v.ownBlock = some k) w W ∧ B + 2 ≤ W.heap.size) ⟨bk_, mb_, sl_, bk_, bk_, kq_, sz_⟩ ?_
    clear hBW h hQ hfar hsz
    rintro w1 ⟨hBW, h, hQ, hA, hR, hfar, hsz⟩
    go_cut [5, 6] from 7 to 16 (fun s5 s6 wx => ∃ pa ca lo hi, s5 = .slice pa no ca ∧ s6 = .int .i64 0 ∧ SL wx lo hi 16 pa no ca xs ∧ B + 2 ≤ lo ∧ MB wx g M v ∧ Blk wx (B + 1) #[.int .i64 0, .slice none 0 0] 46 ∧ Kept (fun k => k = g ∨ v.ownBlock = some k) w wx ∧ B + 2 ≤ wx.heap.size)
    case first =>
      refine wp_region_held_drew (S := fun W => Blk W (0) (bandC) 164 ∧ MB W (g) (M) (v) ∧ SL W (g + 1) (B) (3) (p) (L) (cp) (X) ∧ Blk W (B) (#[x, y, .int .i64 i]) 50 ∧ Blk W (B + 1) (#[.int .i64 0, .slice none 0 0]) 46 ∧ Kept (fun k => k = g ∨ v.ownBlock = some k) w W ∧ B + 2 ≤ W.heap.size) (by kernel_rfl) (⟨hBW.drew, h.drew, hQ.drew, hA.drew, hR.drew, hfar.drew, hsz⟩) (fun hH => ?_)
      have hH2 := hH
      obtain ⟨hBW, h, hQ, hA, hR, hfar, hsz⟩ := hH2
      refine tk 0 hH (y := yp) (k := ?_)
      refine tk 1 hH (y := yp) (k := ?_)
      refine tk 2 hH (y := yp) (k := ?_)
      refine tk 3 hH (y := (.inl ⟨by rfl, fun w hS => by (have c := HV.out ▸ hS.2.1.cells.1.2.2.2.2.2; go_simp; try rfl)⟩)) (k := ?_)
      refine tk 4 hH (y := yp) (k := ?_)
      refine tk 5 hH (y := (.inl ⟨by rfl, fun w hS => by (have c := hS.2.2.2.1.cell 2; go_simp; try rfl)⟩)) (k := ?_)
      refine wpAnyH_ready (rs := [6]) (by kernel_rfl) (by simp) ?_
      refine rc (h := fun K hK => ?_) (r := AllReadyH.nil)
      go_simp
      refine (HFO.out _ _ _ hBW hQ).mono ?_
      rintro r wq ⟨pa, ca, lo, hi, rfl, hsa, hlo, hb⟩
      have hbs := hb.size
      try simp only [World.size_alloc, World.size_setCell, World.size_drew, size_setRow] at hbs
      go_wp2_with fail
      refine hK.out _ _ ⟨bk_, mb_, sl_, bk_, bk_, kq_, Nat.le_trans (sz_) hb.size⟩ (fun hH2 => ?_)
      clear hH
      have hH := hH2
      obtain ⟨hBW, h, hQ, hA, hR, hfar, hsz⟩ := hH2
      clear hK K
      try simp only [Act.put, sa, List.set_cons_zero, List.set_cons_succ]
      refine tk 7 hH (y := yp) (k := ?_)
      refine tk 8 hH (y := yp) (k := ?_)
      refine tk 9 hH (y := yp) (k := ?_)
      refine tk 10 hH (y := yp) (k := ?_)
      refine tk 11 hH (y := yp) (k := ?_)
      refine wpAnyH_done (by kernel_rfl) ?_ _
      go_wp2_with fail
      go_meet
      case rel => exact ⟨pa, ca, lo, hi, rfl, rfl, by exact sl_, by omega, by exact mb_, by exact bk_, by exact kq_, sz_⟩
    case rest =>
      clear hBW h hA hR hfar hsz hQ
      obtain ⟨pa, ca, lo, hi, rfl, rfl, hsa, hlo, h, hR, hfar, hsz⟩ := hcut
      go_wp2_with (first | (refine bd 46 rfl (by rfl) rfl (reply_s _ _ _ _) ?_) | (refine st 46 rfl (by rfl) w_Reply rfl rfl bk_ zz_ zz_ one_ ?_))
      exact bodyPost_ret (v := .agg #[.int .i64 0, .slice pa no ca]) (res_c Tryz.results44 rfl w_Reply (by exact bk_) rfl) rfl ⟨v, pa, no, ca, lo, hi, rfl, HNO.out.symm, by rw [HXS.out]; exact sl_, by omega, by exact mb_, ⟨by exact kq_, fun _ hk => .inl hk⟩⟩
end Go.Proofs.YtkoljgmapclhkaaGreatDoor
