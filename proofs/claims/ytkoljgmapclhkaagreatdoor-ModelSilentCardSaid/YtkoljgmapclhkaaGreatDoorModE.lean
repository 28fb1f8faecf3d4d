/- The walk of (*model.Model).Do: any act. -/
import Derived.Test.YtkoljgmapclhkaaGreatDoorModI
import Derived.Test.YtkoljgmapclhkaaGreatDoorModM
set_option linter.unusedSimpArgs false
set_option linter.unusedVariables false
namespace Go.Proofs.YtkoljgmapclhkaaGreatDoor
open Go.RowKit

theorem w_Doer : Whole 85 1 := ⟨_, Tryz.underlying85, rfl, by kernel_rfl⟩
set_option maxRecDepth 100000 in
theorem doer_b (f g : Nat) : Tryz.prog.built 85 [(0, .func (.func f) #[.pointer (some ⟨g, 0, none⟩)] #[])] = some #[.func (.func f) #[.pointer (some ⟨g, 0, none⟩)] #[]] := by rfl
/-- Any act, by its number. -/
theorem acts_any {g : Nat} {M : Mst} {v : Value} {k n : Nat} (hO : M.Ok k n) (hk : k ≤ 900000) (hn : n ≤ 898) {a : Mact} {p : Option Addr} {cap : Nat} (hl : a.frame.length ≤ 1000000) {i : Nat} (hi : i < 9) (ha : a.what = i) {w : World} (h : MB w g M v) (hW : BandsW w) (hF : FrIn w g v p cap a.frame) :
    Calls Tryz.prog (actF i) #[.pointer (some ⟨g, 0, none⟩), .agg (actV a p cap)] w (RetD w g v (doM M a)) := by
  have hn2 : M.ents.length ≤ 1000 := by have := hO.ents; omega
  match i, hi with
  | 0, _ =>
    have e : doM M a = ((startM M).1, (startM M).2, []) := by unfold doM; rw [if_pos (by rw [ha]; rfl)]
    rw [e]; exact (start_any h hO (by omega) (by omega) hW (av := actV a p cap) rfl).mono fun e w' h => h.any
  | 1, _ =>
    have e : doM M a = ((feedM M a.frame).1, (feedM M a.frame).2, []) := by unfold doM; rw [if_neg (by rw [ha]; decide), if_pos (by rw [ha]; rfl)]
    rw [e]; exact (feed_any h hO hk hn hW hF hl _ _).mono fun e w' h => h.any
  | 2, _ =>
    have e : doM M a = ((tickM M).1, (tickM M).2, []) := by unfold doM; rw [if_neg (by rw [ha]; decide), if_neg (by rw [ha]; decide), if_pos (by rw [ha]; rfl)]
    rw [e]; exact (tick_any h hO (by omega) (av := actV a p cap) rfl).mono fun e w' h => h.any
  | 3, _ =>
    have e : doM M a = ((syncM M).1, (syncM M).2, []) := by unfold doM; rw [if_neg (by rw [ha]; decide), if_neg (by rw [ha]; decide), if_neg (by rw [ha]; decide), if_pos (by rw [ha]; rfl)]
    rw [e]; exact (sync_any h hO.fuse (av := actV a p cap) rfl).mono fun e w' h => h.any
  | 4, _ =>
    have e : doM M a = ((checkM M).1, (checkM M).2, []) := by unfold doM; rw [if_neg (by rw [ha]; decide), if_neg (by rw [ha]; decide), if_neg (by rw [ha]; decide), if_neg (by rw [ha]; decide), if_pos (by rw [ha]; rfl)]
    rw [e]; exact (check_any h hO (by omega) (by omega) hW (av := actV a p cap) rfl).mono fun e w' h => h.any
  | 5, _ =>
    have e : doM M a = ((stopM M).1, (stopM M).2, []) := by unfold doM; rw [if_neg (by rw [ha]; decide), if_neg (by rw [ha]; decide), if_neg (by rw [ha]; decide), if_neg (by rw [ha]; decide), if_neg (by rw [ha]; decide), if_pos (by rw [ha]; rfl)]
    rw [e]; exact (stop_any h hO.fuse (av := actV a p cap) rfl).mono fun e w' h => h.any
  | 6, _ =>
    have e : doM M a = (M, 0, foldO (zs 38) M.ents) := by unfold doM; rw [if_neg (by rw [ha]; decide), if_neg (by rw [ha]; decide), if_neg (by rw [ha]; decide), if_neg (by rw [ha]; decide), if_neg (by rw [ha]; decide), if_neg (by rw [ha]; decide), if_pos (by rw [ha]; rfl)]
    rw [e]; exact play_any h hn2 hW (av := actV a p cap) rfl
  | 7, _ =>
    have e : doM M a = if mayE M.ents.length a.n then (M, 0, fromO M.ents a.n.toNat) else (M, 1, []) := by unfold doM; rw [if_neg (by rw [ha]; decide), if_neg (by rw [ha]; decide), if_neg (by rw [ha]; decide), if_neg (by rw [ha]; decide), if_neg (by rw [ha]; decide), if_neg (by rw [ha]; decide), if_neg (by rw [ha]; decide), if_pos (by rw [ha]; rfl)]
    rw [e]; exact seek_any h hn2 hW _ _ a.n
  | 8, _ =>
    have e : doM M a = ({ M with fuse := max a.n (-1) }, 0, []) := by unfold doM; rw [if_neg (by rw [ha]; decide), if_neg (by rw [ha]; decide), if_neg (by rw [ha]; decide), if_neg (by rw [ha]; decide), if_neg (by rw [ha]; decide), if_neg (by rw [ha]; decide), if_neg (by rw [ha]; decide), if_neg (by rw [ha]; decide), if_pos (by rw [ha]; rfl)]
    rw [e]; exact (set_any h _ _ a.n).mono fun e w' h => h.any
theorem act_none {M : Mst} {a : Mact} (h : ∀ i : Nat, i < 9 → a.what ≠ i) : doM M a = (M, 1, []) := by
  have hh : ∀ (i : Nat) (x : Int), i < 9 → x = i → ¬ a.what = x := fun i x hi hx e => h i hi (by rw [e, hx])
  unfold doM
  rw [if_neg (hh 0 0 (by omega) rfl), if_neg (hh 1 1 (by omega) rfl), if_neg (hh 2 2 (by omega) rfl), if_neg (hh 3 3 (by omega) rfl), if_neg (hh 4 4 (by omega) rfl), if_neg (hh 5 5 (by omega) rfl), if_neg (hh 6 6 (by omega) rfl), if_neg (hh 7 7 (by omega) rfl), if_neg (hh 8 8 (by omega) rfl)]
set_option maxRecDepth 100000 in
theorem act_call {i : Nat} (hi : i < 9) (x y : Value) (w : World) : (callFunc (actF i) #[x, y]).run Tryz.prog w = .ok (.enter (actF i) #[x, y]) w := by
  match i, hi with
  | 0, _ | 1, _ | 2, _ | 3, _ | 4, _ | 5, _ | 6, _ | 7, _ | 8, _ => rfl
set_option maxRecDepth 100000 in
set_option maxHeartbeats 16000000 in
theorem Do_any {w : World} {g : Nat} {M : Mst} {v : Value} (h : MB w g M v) {k n : Nat} (hO : M.Ok k n) (hk : k ≤ 900000) (hn : n ≤ 898) (hW : BandsW w) {a : Mact} {p : Option Addr} {cap : Nat} (hF : FrIn w g v p cap a.frame) (hl : a.frame.length ≤ 1000000) (hb : -9223372036854775808 ≤ a.what ∧ a.what ≤ 9223372036854775807) :
    Calls Tryz.prog 15 #[.pointer (some ⟨g, 0, none⟩), .agg (actV a p cap)] w (RetD w g v (doM M a)) := by
  have hBW : Blk w 0 bandC 164 := hW
  have hgv := mb_bands h hW
  have hcase : (∃ i : Nat, i < 9 ∧ a.what = i) ∨ ∀ i : Nat, i < 9 → a.what ≠ i := by
    by_cases h0 : 0 ≤ a.what ∧ a.what < 9
    · exact .inl ⟨a.what.toNat, by omega, by omega⟩
    · exact .inr (fun i hi e => h0 (by omega))
  have hmm := @run_makeMap Tryz.prog
  have HF := Lib.hid hF
  have hg := h.lt
  have HVO := Lib.hid (fun k hk => (h.olt k hk).2)
  obtain ⟨B, hB⟩ : ∃ B, w.heap.size = B := ⟨_, rfl⟩
  have HVB := h.vb hB
  rw [hB] at hg HVO
  have hfar := Below.refl B w
  have hsz : B ≤ w.heap.size := by omega
  obtain ⟨AV, hAV⟩ : ∃ AV, actV a p cap = AV := ⟨_, rfl⟩
  have hsAV : AV.size = 3 := by rw [← hAV]; rfl
  have hA0 : AV[0]? = some (.int .i64 a.what) := by rw [← hAV]; rfl
  rw [hAV]
  obtain ⟨⟨N, E, OO⟩, hN⟩ : ∃ N, doM M a = N := ⟨_, rfl⟩
  rw [hN]
  have HN := Lib.hid hN
  clear hN
  go_enter Tryz.func15, Tryz.ntmps15
  go_upto_region 1 with (fail)
  refine wp_gen (fun W => Blk W (0) (bandC) 164 ∧ MB W (g) (M) (v) ∧ Blk W (B) (AV) 50 ∧ Blk W (B + 1) (#[.int .i64 0, .slice none 0 0]) 46 ∧ Below (B) w W ∧ B + 2 ≤ W.heap.size) ⟨bk_, mb_, bk_, bk_, bl_, sz_⟩ ?_
  clear hBW h hfar hsz
  rintro w1 ⟨hBW, h, hA, hR, hfar, hsz⟩
  obtain ⟨C, hC⟩ : ∃ C, w1.heap.size = C := ⟨_, rfl⟩
  have hBC : B + 2 ≤ C := by omega
  have hown : (w1.alloc (.map #[] 0)).ownsMap Tryz.prog 3 (rdDoer g) w1.heap.size 0 (dmap 0) := World.ownsMap_made w1 Tryz.prog 3 (rdDoer g)
  rw [hC] at hown
  replace hBW := hBW.alloc (.map #[] 0)
  replace h := h.alloc (.map #[] 0)
  replace hA := hA.alloc (.map #[] 0)
  replace hR := hR.alloc (.map #[] 0)
  replace hfar := hfar.alloc (by omega) (.map #[] 0)
  replace hsz : C + 1 ≤ (w1.alloc (.map #[] 0)).heap.size := by rw [World.size_alloc]; omega
  go_upto_region 4 with (first | (refine bd 85 rfl (by rfl) rfl (doer_b _ _) ?_) | (refine ins rfl (by rfl) hown (by omega) rfl rfl rfl ?_; clear hown; intro wm hown hgr; have hkm := Kept.grown (S := fun k => k = C) (Kept.refl _ _) hgr (fun k hk => .inl (Option.some.inj hk).symm); have hBW := hBW.keep hkm (by omega); have h := h.keep hkm (by omega) (fun k hk e => by have := HVO.out k hk; omega); have hA := hA.keep hkm (by omega); have hR := hR.keep hkm (by omega); have hfar := hfar.grown hgr (by omega) (fun k hk => by cases hk; omega); have hsz := Nat.le_trans hsz hkm.size; clear hkm hgr))
  clear hmm
  have d0 := (hA.cell 0).trans hA0
  obtain ⟨D, hD⟩ : ∃ D, wm.heap.size = D := ⟨_, rfl⟩
  have hCD : C + 1 ≤ D := by omega
  replace hsz : D ≤ wm.heap.size := by omega
  rcases hcase with ⟨i, hi, hai⟩ | hne
  · have hcall := fun w1 (h : MB w1 g M v) (hW : BandsW w1) (hF : FrIn w1 g v p cap a.frame) => acts_any (p := p) (cap := cap) hO hk hn hl hi hai h hW hF
    have hcf := fun x y w => act_call hi x y w
    obtain ⟨f, hf⟩ : ∃ f, actF i = f := ⟨_, rfl⟩
    simp only [hf, hAV] at hcall hcf
    have hN := HN.out
    simp only [hN] at hcall
    have HCALL := Lib.hid hcall
    have HLK : Hid ((true = false ∧ doerV g f = .agg #[.nilFunc] ∧ ∀ i : Nat, i < 9 → a.what ≠ i) ∨ ∃ i : Nat, i < 9 ∧ a.what = i ∧ true = true ∧ doerV g f = doerV g (actF i)) := Lib.hid (.inr ⟨i, hi, hai, rfl, by rw [hf]⟩)
    clear hcall hf hN hi hai
    go_upto_region 5 with (first | (refine lkp rfl (by rfl) hown rfl hb rfl HLK.out ?_; unfold doerV) | (refine st 85 rfl (by rfl) w_Doer rfl rfl bk_ (by rfl) (by rfl) one_ ?_))
    clear d0 hown
    refine wp_gen (fun W => Blk W (0) (bandC) 164 ∧ MB W (g) (M) (v) ∧ Blk W (B) (AV) 50 ∧ Blk W (B + 1) (#[.int .i64 0, .slice none 0 0]) 46 ∧ Blk W (D) (#[.func (.func f) #[.pointer (some ⟨g, 0, none⟩)] #[]]) 85 ∧ Below (B) w W ∧ D + 1 ≤ W.heap.size) ⟨bk_, mb_, bk_, bk_, bk_, bl_, sz_⟩ ?_
    clear hBW h hA hR hfar hsz
    rintro w5 ⟨hBW, h, hA, hR, hQ, hfar, hsz⟩
    have q0 := hQ.cell 0
    simp only [List.getElem?_toArray, List.getElem?_cons_zero] at q0
    go_wp2_with (refine ld 50 rfl (by rfl) w_Mact rfl hA hsAV ?_)
    refine (HCALL.out _ h hBW (HF.out.below (by rw [hB]; exact hfar))).mono ?_
    rintro e w6 ⟨v6, pq, nn, cp, lo, hi6, rfl, hnn, hs6, hlo, h6, ht6⟩
    subst hnn
    dsimp only at hs6 h6
    have hR6 := ht6.blk hR (by omega) (fun e => by have := HVO.out _ e; omega)
    have hv6 : ∀ k, v6.ownBlock = some k → k ≠ B + 1 := fun k hk => by
      rcases ht6.row k hk with hk | hk
      · have := HVO.out k hk; omega
      · omega
    have hT := Trn.trans (Trn.ofB g v (by rw [hB]; exact hfar)) ht6
    have hs6' := ht6.size
    clear h hA hR hBW hfar hQ q0 ht6 HCALL hcf
    go_wp2_with (refine st 46 rfl (by rfl) w_Reply rfl rfl hR6 rfl rfl one_ ?_)
    exact bodyPost_ret (v := .agg #[.int .i64 E, .slice pq OO.length cp]) (res_c Tryz.results15 rfl w_Reply (by exact bk_) rfl) rfl ⟨v6, pq, OO.length, cp, lo, hi6, rfl, rfl, hs6.setRow (by omega) _, by omega, h6.setRow (b := B + 1) (by omega) hv6 _, hT.far (b := B + 1) (by omega) _⟩
  · have e := HN.out.symm.trans (act_none hne)
    cases e
    have HLK : Hid ((false = false ∧ (Value.agg #[.nilFunc]) = .agg #[.nilFunc] ∧ ∀ i : Nat, i < 9 → a.what ≠ i) ∨ ∃ i : Nat, i < 9 ∧ a.what = i ∧ false = true ∧ (Value.agg #[.nilFunc]) = doerV g (actF i)) := Lib.hid (.inl ⟨rfl, rfl, hne⟩)
    clear hne
    go_upto_region 5 with (first | (refine lkp rfl (by rfl) hown rfl hb rfl HLK.out ?_) | (refine st 85 rfl (by rfl) w_Doer rfl rfl bk_ (by rfl) (by rfl) one_ ?_))
    clear d0 hown
    refine wp_gen (fun W => Blk W (0) (bandC) 164 ∧ MB W (g) (M) (v) ∧ Blk W (B) (AV) 50 ∧ Blk W (B + 1) (#[.int .i64 0, .slice none 0 0]) 46 ∧ Blk W (D) (#[.nilFunc]) 85 ∧ Below (B) w W ∧ D + 1 ≤ W.heap.size) ⟨bk_, mb_, bk_, bk_, bk_, bl_, sz_⟩ ?_
    clear hBW h hA hR hfar hsz
    rintro w5 ⟨hBW, h, hA, hR, hQ, hfar, hsz⟩
    go_wp2_with (first | (refine bd 46 rfl (by rfl) rfl (reply_1 _) ?_) | (refine st 46 rfl (by rfl) w_Reply rfl rfl bk_ zz_ zz_ one_ ?_))
    exact bodyPost_ret (v := .agg #[.int .i64 1, .slice none 0 0]) (res_c Tryz.results15 rfl w_Reply (by exact bk_) rfl) rfl ⟨v, none, 0, 0, w5.heap.size, w5.heap.size, rfl, rfl, SL.nil _ _ _ _ (by rw [size_setRow]; exact Nat.le_refl _), by omega, by exact mb_, (Trn.ofB g v (by rw [hB]; exact hfar)).far (b := B + 1) (by omega) _⟩
end Go.Proofs.YtkoljgmapclhkaaGreatDoor
