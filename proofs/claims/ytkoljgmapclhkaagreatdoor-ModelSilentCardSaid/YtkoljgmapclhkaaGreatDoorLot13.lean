/- The walks of spec.Fold and its hearing. The walks of spoollaw20.Of, spoollaw21.Of, few, Same. The walks of entry.Gap and spoollaw21.awake. The walks of spec.Sounds, spec.True and spec.Truths. What the laws of entries share: slices cut, Fold of parts. The walks of spec.True and spec.Truths. The walks of spec.True and spec.Truths. -/
import Derived.Test.YtkoljgmapclhkaaGreatDoorLot12
import Derived.Test.YtkoljgmapclhkaaGreatDoorLot11
import Derived.Deep.RegionHeldLaw
import Derived.Laws.StructEq
import Derived.Test.YtkoljgmapclhkaaGreatDoorLot6
set_option linter.unusedSimpArgs false
set_option linter.unusedVariables false
namespace Go.Proofs.YtkoljgmapclhkaaGreatDoor
open Go.RowKit

theorem info_Entry : (Tryz.prog.info? 92).map (fun i => (i.zero, i.size, i.bytes)) = some (some (.agg #[.int .i64 0, .int .u32 0, .string ⟨#[]⟩]), 3, 32) := by kernel_rfl
/-- What the hearing leaves. -/
def Heard (gs go base : Nat) (L : List Int) (l : List (List Int)) (e : Ending) (w w' : World) : Prop :=
  ∃ v, e = .returned (.tuple #[]) ∧ Blk w' gs (arrV L) 29 ∧ Blk w' go #[v] 24 ∧ OW w' base w'.heap.size 26 16 v l.length (l.flatMap intsV) ∧ Kept (fun k => k = gs ∨ k = go ∨ base ≤ k) w w'
set_option maxRecDepth 100000 in
set_option maxHeartbeats 4000000 in
theorem hear_any (gs go base : Nat) (h1 : 0 < gs) (h2 : 0 < go) (h12 : gs ≠ go) (h3 : gs < base) (h4 : go < base) (L : List Int) (hL : L.length = 38) (e : Ent) (l : List (List Int)) (hl : l.length ≤ 1000) (v : Value) (w : World) (hW : BandsW w)
    (hS : Blk w gs (arrV L) 29) (hO : Blk w go #[v] 24) (hR : OW w base w.heap.size 26 16 v l.length (l.flatMap intsV)) (hb : base ≤ w.heap.size) :
    Calls Tryz.prog 49 #[.agg (entV e), .pointer (some ⟨gs, 0, none⟩), .pointer (some ⟨go, 0, none⟩)] w fun r w' => Heard gs go base (stepS L e) (l ++ stepO L e) r w w' := by
  obtain ⟨k, sp, s⟩ := e
  have hBW : Blk w 0 bandC 164 := hW
  have hst := fun w hW => Step_any L hL ⟨k, sp, s⟩ w hW
  have LS := Len.mk (stepS_len hL ⟨k, sp, s⟩)
  have hle := stepO_le L ⟨k, sp, s⟩
  obtain ⟨O, hO2⟩ : ∃ O, stepO L ⟨k, sp, s⟩ = O := ⟨_, rfl⟩
  obtain ⟨S', hS2⟩ : ∃ S', stepS L ⟨k, sp, s⟩ = S' := ⟨_, rfl⟩
  simp only [hO2, hS2] at hst LS hle ⊢
  have HST := Lib.hid hst
  have LL := Len.mk hL
  clear hst hO2 hS2 hL hW
  have hfar := Kept.refl (fun k => k = gs ∨ k = go ∨ base ≤ k) w
  have hsz : w.heap.size ≤ w.heap.size := Nat.le_refl _
  obtain ⟨B, hB⟩ : ∃ B, w.heap.size = B := ⟨_, rfl⟩
  rw [hB] at hb hR
  go_enter Tryz.func49, Tryz.ntmps49
  go_upto_region 1 with (fail)
  refine wp_gen (fun W => Blk W (0) (bandC) 164 ∧ Blk W (gs) (arrV L) 29 ∧ Blk W (go) (#[v]) 24 ∧ OW W (base) (B) (26) (16) (v) (l.length) (l.flatMap intsV) ∧ Blk W (B) (entV ⟨k, sp, s⟩) 92 ∧ Kept (fun k => k = gs ∨ k = go ∨ base ≤ k) w W ∧ B + 1 ≤ W.heap.size) ⟨bk_, bk_, bk_, ow_, bk_, kp_, sz_⟩ ?_
  clear hBW hS hO hR hfar hsz
  rintro w1 ⟨hBW, hS, hO, hR, hE, hfar, hsz⟩
  go_wp2_with (first | (refine st 92 rfl (by rfl) w_Entry rfl rfl bk_ zz_ zz_ one_ ?_) | (refine ld 92 rfl (by rfl) w_Entry rfl bk_ zz_ ?_) | (refine bd 29 rfl (by rfl) rfl state_zs ?_) | (refine bd 26 rfl (by rfl) rfl block_zs ?_) | (refine ld 29 rfl (by rfl) w_State rfl bk_ lz_ ?_) | (refine ld 26 rfl (by rfl) w_Block rfl bk_ lz_ ?_) | (refine ldp 26 rfl (by rfl) w_Block rfl bk_ ln_ (by omega) ?_) | (refine ld 27 rfl (by rfl) w_Four rfl bk_ lz_ ?_) | (refine ldp 27 rfl (by rfl) w_Four rfl bk_ ln_ (by omega) ?_) | (refine st 29 rfl (by rfl) w_State rfl rfl bk_ lz_ lz_ one_ ?_) | (refine st 26 rfl (by rfl) w_Block rfl rfl bk_ lz_ lz_ one_ ?_) | (refine st 27 rfl (by rfl) w_Four rfl rfl bk_ lz_ lz_ one_ ?_))
  refine (HST.out _ hBW).mono ?_
  rintro r w2 ⟨v2, rfl, hR2, hb2⟩
  replace hBW := hBW.newB hb2
  replace hS := hS.newB hb2
  replace hO := hO.newB hb2
  replace hR := hR.newB hb2
  replace hE := hE.newB hb2
  replace hfar := hfar.thenBelow hb2
  replace hsz := Nat.le_trans hsz hb2.size
  obtain ⟨g, hg⟩ : ∃ g, w2.heap.size = g := ⟨_, rfl⟩
  have hBg : B + 1 ≤ g := by omega
  obtain ⟨p2, c2, rfl, hQ⟩ := SL.own hR2
  clear hR2
  rw [hg] at hQ
  go_upto_region 2 with (first | (refine st 92 rfl (by rfl) w_Entry rfl rfl bk_ zz_ zz_ one_ ?_) | (refine ld 92 rfl (by rfl) w_Entry rfl bk_ zz_ ?_) | (refine bd 29 rfl (by rfl) rfl state_zs ?_) | (refine bd 26 rfl (by rfl) rfl block_zs ?_) | (refine ld 29 rfl (by rfl) w_State rfl bk_ lz_ ?_) | (refine ld 26 rfl (by rfl) w_Block rfl bk_ lz_ ?_) | (refine ldp 26 rfl (by rfl) w_Block rfl bk_ ln_ (by omega) ?_) | (refine ld 27 rfl (by rfl) w_Four rfl bk_ lz_ ?_) | (refine ldp 27 rfl (by rfl) w_Four rfl bk_ ln_ (by omega) ?_) | (refine st 29 rfl (by rfl) w_State rfl rfl bk_ lz_ lz_ one_ ?_) | (refine st 26 rfl (by rfl) w_Block rfl rfl bk_ lz_ lz_ one_ ?_) | (refine st 27 rfl (by rfl) w_Four rfl rfl bk_ lz_ lz_ one_ ?_))
  refine wp_gen (fun W => Blk W (0) (bandC) 164 ∧ Blk W (gs) (arrV L) 29 ∧ Blk W (go) (#[v]) 24 ∧ OW W (base) (B) (26) (16) (v) (l.length) (l.flatMap intsV) ∧ Blk W (B) (entV ⟨k, sp, s⟩) 92 ∧ SL W (w1.heap.size) (g) (16) (p2) (O.length) (c2) (O.flatMap intsV) ∧ Blk W (g) (arrV S') 29 ∧ Kept (fun k => k = gs ∨ k = go ∨ base ≤ k) w W ∧ g + 1 ≤ W.heap.size) ⟨bk_, bk_, bk_, ow_, bk_, sl_, bk_, kp_, sz_⟩ ?_
  clear hBW hS hO hR hE hQ hfar hsz
  rintro w3 ⟨hBW, hS, hO, hR, hE, hQ, hN, hfar, hsz⟩
  obtain ⟨i0, hi, hz0, hz1, hz2⟩ := info_parts info_Block
  have hvb : ∀ k, v.ownBlock = some k → base ≤ k ∧ k < B := fun k hk => ⟨(World.ownsRow.lt hR.1 k hk).1, hR.2.1 k hk⟩
  have HVB := Lib.hid hvb
  clear hvb
  have c0 := hO.drew.cell 0
  simp only [List.getElem?_toArray, List.getElem?_cons_zero] at c0
  refine wp_region_held_drew (S := fun W => Blk W (g) (arrV S') 29) (by kernel_rfl) (hN.drew) (fun hH => ?_)
  refine tk 1 hH (y := yp) (k := ?_)
  refine tk 3 hH (v := .agg (arrV S')) (y := (yieldsIf_ld (by rfl) 29 rfl w_State rfl (fun _ hS => hS) zz_)) (k := ?_)
  refine wpAnyH_ready (rs := [0]) (by kernel_rfl) (by simp) ?_
  refine rc (h := fun K hK => ?_) (r := AllReadyH.nil)
  go_simp
  refine hK.out _ _ bk_ (fun hH => ?_)
  clear hK K
  try simp only [Act.put, sa, List.set_cons_zero, List.set_cons_succ]
  refine wpAnyH_ready (rs := [2]) (by kernel_rfl) (by simp) ?_
  refine rc (h := fun K hK => ?_) (r := AllReadyH.nil)
  refine wp_append_sl 24 rfl rfl base 26 i0 (.agg #[.int .i64 0, .int .i64 0, .int .i64 0, .int .i64 0, .int .i64 0, .int .i64 0, .int .i64 0, .int .i64 0, .int .i64 0, .int .i64 0, .int .i64 0, .int .i64 0, .int .i64 0, .int .i64 0, .int .i64 0, .int .i64 0]) 16 128 Tryz.underlying24 hi hz0 hz1 hz2 rfl (by omega) rfl (own_drew hR.1) rfl hQ.drew (flatB_one _) (by unfold maxLen; omega) (by omega) (by rw [World.size_drew]; omega) (fun v' w4 hown hgr _ => ?_)
  obtain ⟨p3, c3, rfl, hQ3⟩ := SL.own hown
  have hS4 := hS.drew.kept hgr (fun e => by have := HVB.out _ e.symm; omega)
  have hO4 := hO.drew.kept hgr (fun e => by have := HVB.out _ e.symm; omega)
  have hfar4 : Kept (fun k => k = gs ∨ k = go ∨ base ≤ k) w w4 := hfar.drew.grown hgr (fun k hk => by have := HVB.out k hk; omega)
  have d0 := hO4.cell 0
  simp only [List.getElem?_toArray, List.getElem?_cons_zero] at d0
  have e0 := hO4.frozen 0
  have hs4 := hgr.size
  simp only [World.size_drew] at hs4
  refine hK.out _ _ (hH.kept hgr (fun e => by have := HVB.out _ e.symm; omega)) (fun hH => ?_)
  clear hK K
  try simp only [Act.put, sa, List.set_cons_zero, List.set_cons_succ]
  refine wpAnyH_ready (rs := [4]) (by kernel_rfl) (by simp) ?_
  refine rc (h := fun K hK => ?_) (r := AllReadyH.nil)
  go_simp
  refine hK.out _ _ bk_ (fun hH => ?_)
  clear hK K
  try simp only [Act.put]
  refine wpAnyH_ready (rs := [5]) (by kernel_rfl) (by simp) ?_
  refine rc (h := fun K hK => ?_) (r := AllReadyH.nil)
  refine wp_st 29 rfl w_State rfl rfl bk_ zz_ zz_ one_ ?_
  refine hK.out _ _ bk_ (fun hH => ?_)
  clear hK K
  try simp only [Act.put]
  refine wpAnyH_done (by kernel_rfl) ?_ _
  go_wp2_with fail
  go_end0
  have hfin : w4.ownsRow base 26 16 (.slice p3 (l.length + O.length) c3) (l ++ O).length ((l ++ O).flatMap intsV) := by rw [List.length_append, List.flatMap_append]; exact hown
  exact ⟨_, rfl, by exact bk_, by exact bk_, OW.mk0 (own_setRow (own_setCell hfin (by simp only []; omega) _) (by omega) _), by exact kp_⟩
/-- A slice of entries that is read. -/
def ES (W : World) (lo hi : Nat) (p : Option Addr) (cap : Nat) (l : List Ent) : Prop := SL W lo hi 3 p l.length cap (l.flatMap fun e => (entV e).toList)
theorem ent_len (l : List Ent) : ∀ e ∈ l, ((entV e).toList).length = 3 := fun _ _ => rfl
theorem ES.get {W : World} {lo hi : Nat} {p : Option Addr} {cap : Nat} {l : List Ent} (h : ES W lo hi p cap l) {i : Nat} {e : Ent} (he : l[i]? = some e) : ∃ b o, p = some ⟨b, o, none⟩ ∧ lo ≤ b ∧ b < hi ∧ W.rangeAt b (o + i * 3) (entV e).toList := by
  have hi : i < l.length := (List.getElem?_eq_some_iff.1 he).1
  obtain ⟨b, o, hp, h1, h2, h3⟩ := h.form (by omega)
  refine ⟨b, o, hp, h1, h2, fun j u hu => ?_⟩
  have hj : j < 3 := (List.getElem?_eq_some_iff.1 hu).1
  rw [Nat.add_assoc]
  exact h3 _ u ((flat_get _ l (ent_len l) he hj).trans hu)
theorem ES.take {W : World} {lo hi : Nat} {p : Option Addr} {cap : Nat} {l : List Ent} (h : ES W lo hi p cap l) {k : Nat} (hk : k ≤ l.length) : ES W lo hi p cap (l.take k) := by
  have h2 := SL.take h hk
  rw [flat_take _ l (ent_len l)] at h2
  unfold ES
  rwa [List.length_take, Nat.min_eq_left hk]
theorem ES.drop {W : World} {lo hi : Nat} {p : Option Addr} {cap : Nat} {l : List Ent} (h : ES W lo hi p cap l) {k : Nat} (hk : k ≤ l.length) : ES W lo hi (if cap = k then p else p.map (·.add (k * 3))) (cap - k) (l.drop k) := by
  have h2 := SL.drop h hk
  rw [flat_drop _ l (ent_len l)] at h2
  unfold ES
  rwa [List.length_drop]
set_option maxRecDepth 100000 in
set_option maxHeartbeats 4000000 in
theorem Fold_any (L : List Int) (hL : L.length = 38) (l : List Ent) (hl : l.length ≤ 1000) (p : Option Addr) (lo hi cap : Nat) (w : World) (hW : BandsW w) (hE : ES w lo hi p cap l) :
    Calls Tryz.prog 28 #[.agg (arrV L), .slice p l.length cap] w (RetBS w (foldO L l) (foldS L l)) := by
  have hBW : Blk w 0 bandC 164 := hW
  have hB0 := hW.lt
  have hhi := hE.2.2.2.1
  have hcap := hE.2.1
  have hcm := hE.2.2.1
  unfold maxLen at hcm
  have hQ : SL w lo hi 3 p l.length cap (l.flatMap fun e => (entV e).toList) := hE
  obtain ⟨n, hn⟩ : ∃ n, l.length = n := ⟨_, rfl⟩
  rw [hn] at hl hcap ⊢
  have HN := Lib.hid hn
  rw [hn] at hQ
  have LL := Len.mk hL
  clear hW hL hn hE
  obtain ⟨B, hB⟩ : ∃ B, w.heap.size = B := ⟨_, rfl⟩
  rw [hB] at hB0 hhi
  have hfar := Below.refl B w
  have hsz : B ≤ w.heap.size := by omega
  go_enter Tryz.func28, Tryz.ntmps28
  go_upto_region 3 with (fail)
  refine wp_gen (fun W => Blk W (0) (bandC) 164 ∧ SL W (lo) (hi) (3) (p) (n) (cap) (l.flatMap fun e => (entV e).toList) ∧ Blk W (B) (arrV L) 29 ∧ Blk W (B + 1) (arrV (zs 38)) 29 ∧ Blk W (B + 1 + 1) (#[.slice none 0 0]) 24 ∧ Below (B) w W ∧ B + 3 ≤ W.heap.size) ⟨bk_, sl_, bk_, bk_, bk_, bl_, sz_⟩ ?_
  clear hBW hQ hfar hsz
  rintro w1 ⟨hBW, hQ, hS, hR, hO, hfar, hsz⟩
  go_wp2_with fail
  go_loopw [13] (fun i wr => ∃ (k : Nat) (v : Value), k ≤ n ∧ i = .int .i64 k ∧ Blk wr 0 bandC 164 ∧ SL wr lo hi 3 p n cap (l.flatMap fun e => (entV e).toList) ∧ Blk wr B (arrV (foldS L (l.take k))) 29 ∧ Blk wr (B + 1) (arrV (zs 38)) 29 ∧ Blk wr (B + 1 + 1) #[v] 24 ∧ OW wr (B + 3) wr.heap.size 26 16 v (foldO L (l.take k)).length ((foldO L (l.take k)).flatMap intsV) ∧ Below B w wr ∧ B + 3 ≤ wr.heap.size) (fun i _ => n - (intOf i).toNat)
  case atStart => exact ⟨0, _, by omega, rfl, hBW, hQ, hS, hR, hO, OW.nil _ _ _ _ _ (Nat.le_refl _), hfar, hsz⟩
  case round =>
    clear hBW hQ hS hR hO hfar hsz
    obtain ⟨k, v, hk, rfl, hBW, hQ, hS, hR, hO, hOW, hfar, hsz⟩ := hrel
    by_cases hlt : k < n
    · have hkl : k < l.length := by rw [HN.out]; exact hlt
      obtain ⟨e, he⟩ : ∃ e, l[k] = e := ⟨_, rfl⟩
      have hget : l[k]? = some e := by rw [List.getElem?_eq_getElem hkl, he]
      have hES : ES wr lo hi p cap l := by unfold ES; rw [HN.out]; exact hQ
      obtain ⟨b, o, rfl, hb1, hb2, hr⟩ := hES.get hget
      have hS1 : foldS L (l.take (k + 1)) = stepS (foldS L (l.take k)) e := by rw [List.take_add_one, hget, Option.toList_some, foldS_app]; rfl
      have hO1 : foldO L (l.take (k + 1)) = foldO L (l.take k) ++ stepO (foldS L (l.take k)) e := by rw [List.take_add_one, hget, Option.toList_some, foldO_app, foldO, foldO, List.append_nil]
      have hle := foldO_le L (l.take k)
      rw [List.length_take, HN.out] at hle
      have LS := Len.mk (foldS_len LL.out (l.take k))
      obtain ⟨M, hM⟩ : ∃ M, foldS L (l.take k) = M := ⟨_, rfl⟩
      obtain ⟨Z, hZ⟩ : ∃ Z, foldO L (l.take k) = Z := ⟨_, rfl⟩
      rw [hM] at hS1 hO1 hS LS
      rw [hZ] at hO1 hOW hle
      have HS1 := Lib.hid hS1
      have HO1 := Lib.hid hO1
      clear hM hZ hS1 hO1 hkl he hget hES
      obtain ⟨g, hg⟩ : ∃ g, wr.heap.size = g := ⟨_, rfl⟩
      rw [hg] at hOW
      have hBg : B + 3 ≤ g := by omega
      go_upto_region 6 with (first | (refine ldr 92 rfl (by rfl) w_Entry rfl (by assumption) (by rfl) ?_) | (first | (refine st 92 rfl (by rfl) w_Entry rfl rfl bk_ zz_ zz_ one_ ?_) | (refine ld 92 rfl (by rfl) w_Entry rfl bk_ zz_ ?_) | (refine bd 29 rfl (by rfl) rfl state_zs ?_) | (refine bd 26 rfl (by rfl) rfl block_zs ?_) | (refine ld 29 rfl (by rfl) w_State rfl bk_ lz_ ?_) | (refine ld 26 rfl (by rfl) w_Block rfl bk_ lz_ ?_) | (refine ldp 26 rfl (by rfl) w_Block rfl bk_ ln_ (by omega) ?_) | (refine ld 27 rfl (by rfl) w_Four rfl bk_ lz_ ?_) | (refine ldp 27 rfl (by rfl) w_Four rfl bk_ ln_ (by omega) ?_) | (refine st 29 rfl (by rfl) w_State rfl rfl bk_ lz_ lz_ one_ ?_) | (refine st 26 rfl (by rfl) w_Block rfl rfl bk_ lz_ lz_ one_ ?_) | (refine st 27 rfl (by rfl) w_Four rfl rfl bk_ lz_ lz_ one_ ?_)))
      refine wp_gen (fun W => Blk W (0) (bandC) 164 ∧ SL W (lo) (hi) (3) (some ⟨b, o, none⟩) (n) (cap) (l.flatMap fun e => (entV e).toList) ∧ Blk W (B) (arrV M) 29 ∧ Blk W (B + 1) (arrV (zs 38)) 29 ∧ Blk W (B + 1 + 1) (#[v]) 24 ∧ OW W (B + 3) (g) (26) (16) (v) (Z.length) (Z.flatMap intsV) ∧ Blk W (g) (entV e) 92 ∧ Below (B) w W ∧ g + 1 ≤ W.heap.size) ⟨bk_, sl_, bk_, bk_, bk_, ow_, bk_, bl_, sz_⟩ ?_
      clear hBW hQ hS hR hO hOW hfar hsz
      rintro w2 ⟨hBW, hQ, hS, hR, hO, hOW, hE, hfar, hsz⟩
      go_wp2_with (first | (refine st 92 rfl (by rfl) w_Entry rfl rfl bk_ zz_ zz_ one_ ?_) | (refine ld 92 rfl (by rfl) w_Entry rfl bk_ zz_ ?_) | (refine bd 29 rfl (by rfl) rfl state_zs ?_) | (refine bd 26 rfl (by rfl) rfl block_zs ?_) | (refine ld 29 rfl (by rfl) w_State rfl bk_ lz_ ?_) | (refine ld 26 rfl (by rfl) w_Block rfl bk_ lz_ ?_) | (refine ldp 26 rfl (by rfl) w_Block rfl bk_ ln_ (by omega) ?_) | (refine ld 27 rfl (by rfl) w_Four rfl bk_ lz_ ?_) | (refine ldp 27 rfl (by rfl) w_Four rfl bk_ ln_ (by omega) ?_) | (refine st 29 rfl (by rfl) w_State rfl rfl bk_ lz_ lz_ one_ ?_) | (refine st 26 rfl (by rfl) w_Block rfl rfl bk_ lz_ lz_ one_ ?_) | (refine st 27 rfl (by rfl) w_Four rfl rfl bk_ lz_ lz_ one_ ?_))
      refine (hear_any B (B + 1 + 1) (B + 3) (by omega) (by omega) (by omega) (by omega) (by omega) M LS.out e Z (by omega) v _ hBW hS hO (hOW.up (Nat.le_refl _) (by omega) (Nat.le_refl _)) (by omega)).mono ?_
      rintro r w3 ⟨v2, rfl, hS2, hO2, hOW2, hk2⟩
      have hBW2 := hBW.keep hk2 (by omega)
      have hR2 := hR.keep hk2 (by omega)
      have hQ2 := hQ.keep hk2 (fun k hk => by omega)
      have hf2 : Below B w w3 := hfar.trans (hk2.below (fun k hk => by omega) (by omega))
      have hs2 := hk2.size
      go_wp2_with fail
      go_roundw
      case rel => exact ⟨k + 1, v2, hlt, by go_num, hBW2, hQ2, by rw [HS1.out]; exact hS2, hR2, hO2, by rw [HO1.out]; exact hOW2, hf2, by omega⟩
      case measure => simp [intOf]; omega
    · obtain rfl : k = n := by omega
      have ht : l.take k = l := by rw [← HN.out]; exact List.take_length
      rw [ht] at hS hOW
      have LF := Len.mk (foldS_len LL.out l)
      obtain ⟨M, hM⟩ : ∃ M, foldS L l = M := ⟨_, rfl⟩
      obtain ⟨Z, hZ⟩ : ∃ Z, foldO L l = Z := ⟨_, rfl⟩
      rw [hM] at hS LF
      rw [hZ] at hOW
      have HM := Lib.hid hM
      have HZ := Lib.hid hZ
      clear hM hZ ht
      go_upto_region 8 with (fail)
      have c0 := hO.drew.cell 0
      simp only [List.getElem?_toArray, List.getElem?_cons_zero] at c0
      refine wp_region_held_drew (S := fun W => Blk W (B) (arrV M) 29) (by kernel_rfl) (hS.drew) (fun hH => ?_)
      refine tk 1 hH (v := .agg (arrV M)) (y := (yieldsIf_ld (by rfl) 29 rfl w_State rfl (fun _ hS => hS) zz_)) (k := ?_)
      refine wpAnyH_ready (rs := [0]) (by kernel_rfl) (by simp) ?_
      refine rc (h := fun K hK => ?_) (r := AllReadyH.nil)
      go_simp
      refine hK.out _ _ bk_ (fun hH => ?_)
      clear hK K
      try simp only [Act.put, sa, List.set_cons_zero, List.set_cons_succ]
      refine tk 2 hH (y := yp) (k := ?_)
      refine wpAnyH_ready (rs := [3]) (by kernel_rfl) (by simp) ?_
      refine rc (h := fun K hK => ?_) (r := AllReadyH.nil)
      refine wp_st 29 rfl w_State rfl rfl bk_ zz_ zz_ one_ ?_
      refine hK.out _ _ bk_ (fun hH => ?_)
      clear hK K
      try simp only [Act.put]
      refine wpAnyH_done (by kernel_rfl) ?_ _
      go_wp2_with fail
      exact bodyPost_ret (v := .tuple #[v, .agg (arrV M)]) (res_tc Tryz.results28 rfl rfl w_State (by exact bk_) LF.sz) rfl ⟨v, by rw [HM.out], by rw [HZ.out]; exact own_up (own_setRow (own_drew hOW.1) (by omega) _) (by omega), (by (try rw [hB]); exact bl_)⟩
end Go.Proofs.YtkoljgmapclhkaaGreatDoor

namespace Go.Proofs.YtkoljgmapclhkaaGreatDoor
open Go.RowKit

/-- An entry whose numbers are what they may be. -/
def EntOk (e : Ent) : Prop := (-9223372036854775808 ≤ e.kind ∧ e.kind ≤ 9223372036854775807) ∧ (0 ≤ e.stamp ∧ e.stamp ≤ 4294967295) ∧ e.data.size ≤ 9223372036854775807
/-- A slice of entries that came in. -/
def EntIn (W : World) (p : Option Addr) (cap : Nat) (l : List Ent) : Prop :=
  l.length ≤ cap ∧ cap ≤ 9223372036854775807 ∧ ∀ (i : Nat) (e : Ent), l[i]? = some e → ∃ a, p = some a ∧ a.block < W.heap.size ∧ W.cell? (a.add (i * 3)) = some (.int .i64 e.kind) ∧ W.cell? ⟨(a.add (i * 3)).block, (a.add (i * 3)).off + 1, none⟩ = some (.int .u32 e.stamp) ∧ W.cell? ⟨(a.add (i * 3)).block, (a.add (i * 3)).off + 2, none⟩ = some (.string e.data) ∧ EntOk e
theorem addr_block (a : Addr) (n : Nat) : (a.add n).block = a.block := by unfold Addr.add; split <;> rfl
theorem EntIn.below {W W' : World} {p : Option Addr} {cap : Nat} {l : List Ent} (h : EntIn W p cap l) {B : Nat} (hB : B = W.heap.size) (hb : Below B W W') : EntIn W' p cap l := by
  subst hB
  obtain ⟨h1, h2, h3⟩ := h
  refine ⟨h1, h2, fun i e he => ?_⟩
  obtain ⟨a, hp, hl, c0, c1, c2, ho⟩ := h3 i e he
  exact ⟨a, hp, by have := hb.size; omega, (hb.cell (by rw [addr_block]; exact hl)).trans c0, (hb.cell (by simp only [addr_block]; exact hl)).trans c1, (hb.cell (by simp only [addr_block]; exact hl)).trans c2, ho⟩
def fewE (l : List Ent) : Bool := (l.take 26).all (fun e => decide (e.data.size ≤ 300)) && decide (l.length ≤ 25)
theorem fewE_no {l : List Ent} {k : Nat} {e : Ent} (he : l[k]? = some e) (hk : k ≤ 25) (h : ¬ e.data.size ≤ 300) : fewE l = false := by
  unfold fewE
  rw [Bool.and_eq_false_iff]
  left
  rw [List.all_eq_false]
  refine ⟨e, List.mem_of_getElem? (i := k) ?_, by simpa using h⟩
  rw [List.getElem?_take, if_pos (by omega)]; exact he
theorem flatE_one (l : List Ent) : ∀ u ∈ l.flatMap (fun e => (entV e).toList), u.oneCell' = true := by
  intro u hu
  obtain ⟨b, _, hb⟩ := List.mem_flatMap.1 hu
  simp only [List.mem_cons, List.not_mem_nil, or_false] at hb
  rcases hb with rfl | rfl | rfl <;> rfl
/-- A result that is a slice of entries. -/
def RetES (w : World) (l : List Ent) (e : Ending) (w' : World) : Prop :=
  ∃ v, e = .returned v ∧ OW w' w.heap.size w'.heap.size 92 3 v l.length (l.flatMap fun e => (entV e).toList) ∧ Below w.heap.size w w'
set_option maxRecDepth 100000 in
set_option maxHeartbeats 1600000 in
theorem Same_any (A : List (List Int)) (hA : ∀ b ∈ A, b.length = 16) (hl : A.length ≤ 1000) (lo1 hi1 lo2 hi2 : Nat) (p1 p2 : Option Addr) (c1 c2 : Nat) (w : World) (h1 : BS w lo1 hi1 p1 c1 A) (h2 : BS w lo2 hi2 p2 c2 A) :
    Calls Tryz.prog 30 #[.slice p1 A.length c1, .slice p2 A.length c2] w fun r w' => r = .returned (.int .i64 1) ∧ Below w.heap.size w w' := by
  have q1 := h1.2.1
  have q2 := h2.2.1
  have q3 := h1.2.2.1
  have q4 := h2.2.2.1
  unfold maxLen at q3 q4
  obtain ⟨n, hn⟩ : ∃ n, A.length = n := ⟨_, rfl⟩
  have HN := Lib.hid hn
  have HA := Lib.hid hA
  have H1 := Lib.hid h1
  have H2 := Lib.hid h2
  rw [hn] at hl q1 q2 ⊢
  clear hA h1 h2 hn
  go_enter Tryz.func30, Tryz.ntmps30
  go_wp2
  go_loopw [5] (fun i wr => ∃ k : Nat, k ≤ n ∧ i = .int .i64 k ∧ Below w.heap.size w wr) (fun i _ => n - (intOf i).toNat)
  case atStart => exact ⟨0, by omega, rfl, Below.refl _ _⟩
  case round =>
    obtain ⟨k, hk, rfl, hfar⟩ := hrel
    by_cases hlt : k < n
    · have hkl : k < A.length := by rw [HN.out]; exact hlt
      obtain ⟨b, he⟩ : ∃ b, A[k]? = some b := ⟨_, List.getElem?_eq_getElem hkl⟩
      obtain ⟨g1, o1, rfl, -, g1lt, r1⟩ := H1.out.get HA.out he
      obtain ⟨g2, o2, rfl, -, g2lt, r2⟩ := H2.out.get HA.out he
      have s1 := H1.out.2.2.2.1
      have s2 := H2.out.2.2.2.1
      have t1 := range_below r1 hfar (by omega)
      have t2 := range_below r2 hfar (by omega)
      have hb := HA.out b (List.mem_of_getElem? he)
      have ib : (Tryz.prog.info? 26).map (·.size) = some (intsV b).length := by rw [List.length_map, hb]; exact blockInfo
      have HB := Lib.hid hb
      clear he hkl r1 r2 hb
      go_upto_region 6 with (fail)
      refine wp_region_held_drew (S := fun W => W.rangeAt g1 (o1 + k * 16) (intsV b) ∧ W.rangeAt g2 (o2 + k * 16) (intsV b)) (by kernel_rfl) (⟨t1, t2⟩) (fun hH => ?_)
      refine tk 0 hH (y := yp) (k := ?_)
      refine tk 1 hH (y := yp) (k := ?_)
      refine tk 2 hH (y := yp) (k := ?_)
      refine tk 3 hH (v := .agg (arrV b)) (y := (yieldsIf_load_mid (by rfl) 26 _ rfl _ _ rfl (intsV b) _ (fun _ h => h.1) Tryz.underlying26 rfl ib)) (k := ?_)
      refine tk 4 hH (y := yp) (k := ?_)
      refine tk 5 hH (y := yp) (k := ?_)
      refine tk 6 hH (y := yp) (k := ?_)
      refine tk 7 hH (v := .agg (arrV b)) (y := (yieldsIf_load_mid (by rfl) 26 _ rfl _ _ rfl (intsV b) _ (fun _ h => h.2) Tryz.underlying26 rfl ib)) (k := ?_)
      refine tk 8 hH (v := .bool false) (y := (yieldsIf_neq (b := true) (by rfl) 26 rfl rfl rfl eg_Block (eq_block_self HB.out))) (k := ?_)
      refine wpAnyH_done (by kernel_rfl) ?_ _
      go_wp2_with fail
      go_roundw
      case rel => exact ⟨k + 1, by omega, by go_num, hfar.drew⟩
      case measure => simp [intOf]; omega
    · obtain rfl : k = n := by omega
      go_wp2_with fail
      go_ret
      exact ⟨rfl, hfar⟩
end Go.Proofs.YtkoljgmapclhkaaGreatDoor

namespace Go.Proofs.YtkoljgmapclhkaaGreatDoor
open Go.RowKit

def gapE (sp : Int) : Ent := ⟨2, sp, ⟨#[]⟩⟩
set_option maxRecDepth 100000 in
set_option maxHeartbeats 1000000 in
theorem EGap_any (sp : Int) (w : World) : Calls Tryz.prog 75 #[.int .u32 sp] w fun r w' => r = .returned (.agg (entV (gapE sp))) ∧ Below w.heap.size w w' := by
  obtain ⟨B, hB⟩ : ∃ B, w.heap.size = B := ⟨_, rfl⟩
  have hfar := Below.refl B w
  have hsz : B ≤ w.heap.size := by omega
  go_enter Tryz.func75, Tryz.ntmps75
  go_upto_region 1 with (fail)
  refine wp_gen (fun W => Blk W (B) (#[.int .i64 0, .int .u32 0, .string ⟨#[]⟩]) 92 ∧ Below (B) w W ∧ B + 1 ≤ W.heap.size) ⟨bk_, bl_, sz_⟩ ?_
  clear hfar hsz
  rintro w1 ⟨hR, hfar, hsz⟩
  go_wp2_with (first | (refine st 92 rfl (by rfl) w_Entry rfl rfl bk_ zz_ zz_ one_ ?_) | (refine ld 92 rfl (by rfl) w_Entry rfl bk_ zz_ ?_) | (refine bd 29 rfl (by rfl) rfl state_zs ?_) | (refine bd 26 rfl (by rfl) rfl block_zs ?_) | (refine ld 29 rfl (by rfl) w_State rfl bk_ lz_ ?_) | (refine ld 26 rfl (by rfl) w_Block rfl bk_ lz_ ?_) | (refine ldp 26 rfl (by rfl) w_Block rfl bk_ ln_ (by omega) ?_) | (refine ld 27 rfl (by rfl) w_Four rfl bk_ lz_ ?_) | (refine ldp 27 rfl (by rfl) w_Four rfl bk_ ln_ (by omega) ?_) | (refine st 29 rfl (by rfl) w_State rfl rfl bk_ lz_ lz_ one_ ?_) | (refine st 26 rfl (by rfl) w_Block rfl rfl bk_ lz_ lz_ one_ ?_) | (refine st 27 rfl (by rfl) w_Four rfl rfl bk_ lz_ lz_ one_ ?_))
  exact bodyPost_ret (v := .agg #[.int .i64 2, .int .u32 sp, .string ⟨#[]⟩]) (res_c Tryz.results75 rfl w_Entry (by exact bk_) rfl) rfl ⟨rfl, (by (try rw [hB]); exact bl_)⟩
def L7 : List Int := List.replicate 16 0 ++ [7] ++ List.replicate 21 0
theorem L7_built : Tryz.prog.built 29 [(1, .int .i64 7)] = some (arrV L7) := by kernel_rfl
theorem L7_right : rightS L7 = true := by decide +kernel
theorem L7_len : L7.length = 38 := rfl
theorem gapE_right (sp : Int) : rightE (gapE sp) = true := rfl
theorem gap_step {L : List Int} (h : rightS L = true) (sp : Int) : stepO L (gapE sp) = [loseO L] ∧ stepS L (gapE sp) = List.replicate 38 0 := by
  unfold stepO stepS
  rw [gapE_right, h]
  exact ⟨rfl, rfl⟩
theorem SL.of_blk {W : World} {b size n : Nat} {cs : Array Value} {t : TypeId} (h : Blk W b cs t) (hs : cs.size = n * size) (hn : n ≤ maxLen) : SL W b (b + 1) size (some ⟨b, 0, none⟩) n n cs.toList := SL.blk h hs hn
theorem eq_state_self {L : List Int} (h : Len L 38) (w : World) : (Op.equalIn 10000 29 (.agg (arrV L)) (.agg (arrV L))).run Tryz.prog w = .ok true w := eq_state L h.out w
end Go.Proofs.YtkoljgmapclhkaaGreatDoor

namespace Go.Proofs.YtkoljgmapclhkaaGreatDoor
open Go.RowKit

abbrev flE (l : List Ent) : List Value := l.flatMap fun e => (entV e).toList
set_option maxRecDepth 100000 in
set_option maxHeartbeats 4000000 in
theorem Sounds_any {l : List Ent} {n : Nat} (hn : l.length = n) (hl : n ≤ 1000) {p : Option Addr} {lo hi cap : Nat} {w : World} (hE : SL w lo hi 3 p n cap (flE l)) :
    Calls Tryz.prog 27 #[.slice p n cap] w fun r w' => r = .returned (.int .i64 (soundsE l : Nat)) ∧ Below w.heap.size w w' := by
  have hhi := hE.2.2.2.1
  have hcap := hE.2.1
  have hcm := hE.2.2.1
  unfold maxLen at hcm
  have hQ := hE
  have HN := Lib.hid hn
  clear hn hE
  obtain ⟨B, hB⟩ : ∃ B, w.heap.size = B := ⟨_, rfl⟩
  rw [hB] at hhi
  have hfar := Below.refl B w
  have hsz : B ≤ w.heap.size := by omega
  go_enter Tryz.func27, Tryz.ntmps27
  go_wp2_with fail
  go_loopw [3, 8] (fun c i wr => ∃ (k : Nat), k ≤ n ∧ i = .int .i64 k ∧ c = .int .i64 (soundsE (l.take k) : Nat) ∧ SL wr lo hi 3 p n cap (flE l) ∧ Below B w wr ∧ B ≤ wr.heap.size) (fun _ i _ => n - (intOf i).toNat)
  case atStart => exact ⟨0, by omega, rfl, rfl, hQ, hfar, hsz⟩
  case round =>
    clear hQ hfar hsz
    obtain ⟨k, hk, rfl, rfl, hQ, hfar, hsz⟩ := hrel
    by_cases hlt : k < n
    · have hkl : k < l.length := by rw [HN.out]; exact hlt
      obtain ⟨e, he⟩ : ∃ e, l[k] = e := ⟨_, rfl⟩
      have hget : l[k]? = some e := by rw [List.getElem?_eq_getElem hkl, he]
      have hES : ES wr lo hi p cap l := by unfold ES; rw [HN.out]; exact hQ
      obtain ⟨b, o, rfl, hb1, hb2, hr⟩ := hES.get hget
      have hS1 : soundsE (l.take (k + 1)) = soundsE (l.take k) + (if heardE e then 1 else 0) := by
        rw [List.take_add_one, hget, Option.toList_some, soundsE_app, soundsE_cons]; simp [soundsE]
      have hSl : soundsE (l.take k) ≤ k := by
        have := List.length_filter_le heardE (l.take k)
        rw [List.length_take] at this
        show (List.filter heardE (l.take k)).length ≤ k
        omega
      obtain ⟨c, hc⟩ : ∃ c, soundsE (l.take k) = c := ⟨_, rfl⟩
      rw [hc] at hS1 hSl
      rw [hc]
      have HS1 := Lib.hid hS1
      clear hc hS1 hkl he hget hES
      obtain ⟨g, hg⟩ : ∃ g, wr.heap.size = g := ⟨_, rfl⟩
      have hBg : B ≤ g := by omega
      go_upto_region 5 with (first | (refine ldr 92 rfl (by rfl) w_Entry rfl (by assumption) (by rfl) ?_) | (first | (refine st 92 rfl (by rfl) w_Entry rfl rfl bk_ zz_ zz_ one_ ?_) | (refine ld 92 rfl (by rfl) w_Entry rfl bk_ zz_ ?_) | (refine bd 29 rfl (by rfl) rfl state_zs ?_) | (refine bd 26 rfl (by rfl) rfl block_zs ?_) | (refine ld 29 rfl (by rfl) w_State rfl bk_ lz_ ?_) | (refine ld 26 rfl (by rfl) w_Block rfl bk_ lz_ ?_) | (refine ldp 26 rfl (by rfl) w_Block rfl bk_ ln_ (by omega) ?_) | (refine ld 27 rfl (by rfl) w_Four rfl bk_ lz_ ?_) | (refine ldp 27 rfl (by rfl) w_Four rfl bk_ ln_ (by omega) ?_) | (refine st 29 rfl (by rfl) w_State rfl rfl bk_ lz_ lz_ one_ ?_) | (refine st 26 rfl (by rfl) w_Block rfl rfl bk_ lz_ lz_ one_ ?_) | (refine st 27 rfl (by rfl) w_Four rfl rfl bk_ lz_ lz_ one_ ?_)))
      refine wp_gen (fun W => SL W (lo) (hi) (3) (some ⟨b, o, none⟩) (n) (cap) (flE l) ∧ Blk W (g) (entV e) 92 ∧ Below (B) w W ∧ g + 1 ≤ W.heap.size) ⟨sl_, bk_, bl_, sz_⟩ ?_
      clear hQ hfar hsz
      rintro w2 ⟨hQ, hE, hfar, hsz⟩
      go_wp2_with (first | (refine st 92 rfl (by rfl) w_Entry rfl rfl bk_ zz_ zz_ one_ ?_) | (refine ld 92 rfl (by rfl) w_Entry rfl bk_ zz_ ?_) | (refine bd 29 rfl (by rfl) rfl state_zs ?_) | (refine bd 26 rfl (by rfl) rfl block_zs ?_) | (refine ld 29 rfl (by rfl) w_State rfl bk_ lz_ ?_) | (refine ld 26 rfl (by rfl) w_Block rfl bk_ lz_ ?_) | (refine ldp 26 rfl (by rfl) w_Block rfl bk_ ln_ (by omega) ?_) | (refine ld 27 rfl (by rfl) w_Four rfl bk_ lz_ ?_) | (refine ldp 27 rfl (by rfl) w_Four rfl bk_ ln_ (by omega) ?_) | (refine st 29 rfl (by rfl) w_State rfl rfl bk_ lz_ lz_ one_ ?_) | (refine st 26 rfl (by rfl) w_Block rfl rfl bk_ lz_ lz_ one_ ?_) | (refine st 27 rfl (by rfl) w_Four rfl rfl bk_ lz_ lz_ one_ ?_))
      refine (ERight_any e _).mono ?_
      rintro e w3 ⟨rfl, hb3⟩
      replace hQ := hQ.newB hb3
      replace hE := hE.newB hb3
      replace hfar := hfar.trans (hb3.mono (by omega))
      replace hsz := Nat.le_trans hsz hb3.size
      have c0 := hE.cell 0
      simp only [List.getElem?_toArray, List.getElem?_cons_zero] at c0
      cases hr2 : rightE e with
      | false =>
        have h1 : soundsE (l.take (k + 1)) = c := by rw [HS1.out]; unfold heardE; rw [hr2]; rfl
        have H1 := Lib.hid h1
        clear h1
        go_wp2_with fail
        go_roundw
        case rel => exact ⟨k + 1, hlt, by go_num, by rw [H1.out], hQ, hfar, by omega⟩
        case measure => simp [intOf]; omega
      | true =>
        by_cases h3 : e.kind = 3
        · have h1 : soundsE (l.take (k + 1)) = c := by rw [HS1.out]; unfold heardE; rw [h3]; simp
          have H1 := Lib.hid h1
          rw [h3] at c0
          clear h1 h3
          go_wp2_with fail
          go_roundw
          case rel => exact ⟨k + 1, hlt, by go_num, by rw [H1.out], hQ, hfar, by omega⟩
          case measure => simp [intOf]; omega
        · have h1 : soundsE (l.take (k + 1)) = c + 1 := by rw [HS1.out]; unfold heardE; rw [hr2]; simp [h3]
          have H1 := Lib.hid h1
          have q3 : (e.kind == 3) = false := by simpa using h3
          have q4 : (e.kind != 3) = true := by simpa using h3
          clear h1 h3
          go_wp2_with fail
          go_roundw
          case rel => exact ⟨k + 1, hlt, by go_num, by rw [H1.out]; go_num, hQ, hfar, by omega⟩
          case measure => simp [intOf]; omega
    · obtain rfl : k = n := by omega
      have ht : l.take k = l := by rw [← HN.out]; exact List.take_length
      rw [ht]
      go_wp2_with fail
      go_ret
      exact ⟨rfl, by rw [hB]; exact hfar⟩
end Go.Proofs.YtkoljgmapclhkaaGreatDoor

namespace Go.Proofs.YtkoljgmapclhkaaGreatDoor
open Go.RowKit

section
variable {ops : Array Oper} {S : World → Prop} {op : Oper} {a : Act}
theorem sliced0 (p : Option Addr) (k cap s : Nat) : sliced p 0 k cap s = .slice p k cap := by
  unfold sliced
  cases p with
  | none => simp
  | some a => simp [Addr.add]
theorem yieldsIf_slh (hw : Region.wanted op (yielded ops a.tmps) = true) (t : TypeId) {x y : Operand} (ho : op.op = .slice t x none (some y) none) {p : Option Addr} {n cap : Nat} (hx : a.eval x = .slice p n cap) {k : Nat} (hy : a.eval y = .int .i64 (k : Nat))
    {e : TypeId} {s : Nat} (ht : Tryz.prog.underlying t = some (.slice e)) (hs : ∀ w, (sizeOf e).run Tryz.prog w = .ok s w) (hk : k ≤ cap) : YieldsIf Tryz.prog ops S op (.slice p k cap) a :=
  .inl ⟨hw, fun w _ => by
    have he : Tryz.prog.elem t = e := by unfold Program.elem; rw [ht]
    have ht2 : Tryz.prog.underlying t = some (.slice (Tryz.prog.elem t)) := by rw [he]; exact ht
    unfold execOp
    simp only [ho, hx, hy, Option.map_some, Option.map_none, Sem.run_bind]
    rw [run_sliceAt_slice w t _ _ _ _ ht2, run_slice_h w t p n cap ht2 .i64 k (by omega) (by omega), he, hs]
    simp [Result.andThen, sliced0]⟩
theorem yieldsIf_sll (hw : Region.wanted op (yielded ops a.tmps) = true) (t : TypeId) {x y : Operand} (ho : op.op = .slice t x (some y) none none) {p : Option Addr} {n cap : Nat} (hx : a.eval x = .slice p n cap) {k : Nat} (hy : a.eval y = .int .i64 (k : Nat))
    {e : TypeId} {s : Nat} (ht : Tryz.prog.underlying t = some (.slice e)) (hs : ∀ w, (sizeOf e).run Tryz.prog w = .ok s w) (hk : k ≤ n) {p' : Option Addr} (hp : (if cap = k then p else p.map (·.add (k * s))) = p') : YieldsIf Tryz.prog ops S op (.slice p' (n - k) (cap - k)) a :=
  .inl ⟨hw, fun w _ => by
    have he : Tryz.prog.elem t = e := by unfold Program.elem; rw [ht]
    have ht2 : Tryz.prog.underlying t = some (.slice (Tryz.prog.elem t)) := by rw [he]; exact ht
    unfold execOp
    simp only [ho, hx, hy, Option.map_some, Option.map_none, Sem.run_bind]
    rw [run_sliceAt_slice w t _ _ _ _ ht2, run_slice_l w t p n cap ht2 .i64 k (by omega) (by omega), he, hs]
    simp [Result.andThen, sliced, ← hp]⟩
end
def RetBN (w : World) (n : Nat) (xs : List Value) (L : List Int) (e : Ending) (w' : World) : Prop :=
  ∃ v, e = .returned (.tuple #[v, .agg (arrV L)]) ∧ w'.ownsRow w.heap.size 26 16 v n xs ∧ Below w.heap.size w w'
theorem toBN {f : FuncId} {args : Array Value} {w : World} {l : List (List Int)} {L : List Int} (h : Calls Tryz.prog f args w (RetBS w l L)) : Calls Tryz.prog f args w (RetBN w l.length (l.flatMap intsV) L) := h
theorem Fold_cut {L : List Int} (hL : Len L 38) {l : List Ent} {n : Nat} (hn : l.length = n) (h25 : n ≤ 1000) {k : Nat} (hk : k ≤ n) {p : Option Addr} {lo hi cap : Nat} {w : World} (hW : BandsW w) (hs : SL w lo hi 3 p n cap (flE l)) :
    Calls Tryz.prog 28 #[.agg (arrV L), .slice p k cap] w (RetBS w (foldO L (l.take k)) (foldS L (l.take k))) := by
  subst hn
  have hes : ES w lo hi p cap l := hs
  have h := Fold_any L hL.out (l.take k) (by rw [List.length_take]; omega) p lo hi cap w hW (hes.take hk)
  rwa [List.length_take, Nat.min_eq_left hk] at h
theorem Fold_all {L : List Int} (hL : Len L 38) {l : List Ent} {n : Nat} (hn : l.length = n) (h25 : n ≤ 1000) {p : Option Addr} {lo hi cap : Nat} {w : World} (hW : BandsW w) (hs : SL w lo hi 3 p n cap (flE l)) :
    Calls Tryz.prog 28 #[.agg (arrV L), .slice p n cap] w (RetBS w (foldO L l) (foldS L l)) := by
  subst hn
  exact Fold_any L hL.out l h25 p lo hi cap w hW hs
theorem Fold_rest {L : List Int} (hL : Len L 38) {l : List Ent} {n : Nat} (hn : l.length = n) (h25 : n ≤ 1000) {k : Nat} (hk : k ≤ n) {p p' : Option Addr} {lo hi cap : Nat} (hp : (if cap = k then p else p.map (·.add (k * 3))) = p') {w : World} (hW : BandsW w) (hs : SL w lo hi 3 p n cap (flE l)) :
    Calls Tryz.prog 28 #[.agg (arrV L), .slice p' (n - k) (cap - k)] w (RetBS w (foldO L (l.drop k)) (foldS L (l.drop k))) := by
  subst hn
  subst hp
  have hes : ES w lo hi p cap l := hs
  have h := Fold_any L hL.out (l.drop k) (by rw [List.length_drop]; omega) _ lo hi (cap - k) w hW (hes.drop hk)
  rwa [List.length_drop] at h
theorem few_len {l : List Ent} (h : fewE l = true) : l.length ≤ 25 := by
  unfold fewE at h
  simp only [Bool.and_eq_true, decide_eq_true_eq] at h
  exact h.2
theorem yieldsIf_sllm {ops : Array Oper} {S : World → Prop} {op : Oper} {a : Act} (hw : Region.wanted op (yielded ops a.tmps) = true) (t : TypeId) {x y : Operand} (ho : op.op = .slice t x (some y) none none) {p : Option Addr} {n cap : Nat} (hx : a.eval x = .slice p n cap) {k : Nat} (hy : a.eval y = .int .i64 (k : Nat))
    {e : TypeId} {s : Nat} (ht : Tryz.prog.underlying t = some (.slice e)) (hs : ∀ w, (sizeOf e).run Tryz.prog w = .ok s w) (hk : k ≤ n) {p' : Option Addr} (hp : (if cap = k then p else p.map (·.add (k * s))) = p') {m : Nat} (hm : n - k = m) : YieldsIf Tryz.prog ops S op (.slice p' m (cap - k)) a := by
  subst hm
  exact yieldsIf_sll hw t ho hx hy ht hs hk hp
theorem bs_drop {W : World} {lo hi cap i m : Nat} {p p' : Option Addr} {A C : List (List Int)} (h : SL W lo hi 16 p (i + m) cap (A.flatMap intsV)) (hA : ∀ b ∈ A, b.length = 16) (hd : A.drop i = C) (hp : (if cap = i then p else p.map (·.add (i * 16))) = p') : SL W lo hi 16 p' m (cap - i) (C.flatMap intsV) := by
  have h2 := SL.drop h (k := i) (by omega)
  rw [flat_drop _ A (fun b hb => by rw [List.length_map]; exact hA b hb), hd, hp, Nat.add_sub_cancel_left] at h2
  exact h2
theorem yieldsIf_slx {ops : Array Oper} {S : World → Prop} {op : Oper} {a : Act} (hw : Region.wanted op (yielded ops a.tmps) = true) (t : TypeId) {x y z : Operand} (ho : op.op = .slice t x (some y) (some z) none) {p : Option Addr} {n cap : Nat} (hx : a.eval x = .slice p n cap) {k : Nat} (hy : a.eval y = .int .i64 (k : Nat)) {i : Nat} (hz : a.eval z = .int .i64 (i : Nat))
    {e : TypeId} {s : Nat} (ht : Tryz.prog.underlying t = some (.slice e)) (hs : ∀ w, (sizeOf e).run Tryz.prog w = .ok s w) (hk : k ≤ i) (hi : i ≤ cap) {p' : Option Addr} (hp : (if cap = k then p else p.map (·.add (k * s))) = p') {m : Nat} (hm : i - k = m) : YieldsIf Tryz.prog ops S op (.slice p' m (cap - k)) a :=
  .inl ⟨hw, fun w _ => by
    have he : Tryz.prog.elem t = e := by unfold Program.elem; rw [ht]
    have ht2 : Tryz.prog.underlying t = some (.slice (Tryz.prog.elem t)) := by rw [he]; exact ht
    unfold execOp
    simp only [ho, hx, hy, hz, Option.map_some, Option.map_none, Sem.run_bind]
    rw [run_sliceAt_slice w t _ _ _ _ ht2, run_slice_lh w t p n cap ht2 .i64 .i64 k i (by omega) (by omega) (by omega), he, hs]
    simp [Result.andThen, sliced, ← hp, hm]⟩
theorem es_mid {W : World} {lo hi cap n : Nat} {p : Option Addr} {l : List Ent} (h : SL W lo hi 3 p n cap (flE l)) (hn : l.length = n) {k i m : Nat} (hk : k ≤ i) (hi2 : i ≤ n) {p' : Option Addr} (hp : (if cap = k then p else p.map (·.add (k * 3))) = p') (hm : i - k = m) : SL W lo hi 3 p' m (cap - k) (flE ((l.take i).drop k)) := by
  subst hn
  have hes : ES W lo hi p cap l := h
  have h2 := (hes.take hi2).drop (k := k) (by rw [List.length_take]; omega)
  unfold ES at h2
  rwa [hp, List.length_drop, List.length_take, Nat.min_eq_left hi2, hm] at h2
theorem es_rest {W : World} {lo hi cap n : Nat} {p : Option Addr} {l : List Ent} (h : SL W lo hi 3 p n cap (flE l)) (hn : l.length = n) {k m : Nat} (hk : k ≤ n) {p' : Option Addr} (hp : (if cap = k then p else p.map (·.add (k * 3))) = p') (hm : n - k = m) : SL W lo hi 3 p' m (cap - k) (flE (l.drop k)) := by
  subst hn
  have hes : ES W lo hi p cap l := h
  have h2 := hes.drop hk
  unfold ES at h2
  rwa [hp, List.length_drop, hm] at h2
theorem es_take {W : World} {lo hi cap n : Nat} {p : Option Addr} {l : List Ent} (h : SL W lo hi 3 p n cap (flE l)) (hn : l.length = n) {k : Nat} (hk : k ≤ n) : SL W lo hi 3 p k cap (flE (l.take k)) := by
  subst hn
  have hes : ES W lo hi p cap l := h
  have h2 := hes.take hk
  unfold ES at h2
  rwa [List.length_take, Nat.min_eq_left hk] at h2
end Go.Proofs.YtkoljgmapclhkaaGreatDoor

namespace Go.Proofs.YtkoljgmapclhkaaGreatDoor
open Go.RowKit

theorem eqFields_if {d : Nat} {xs ys : Array Value} {f : Field} {fs : List Field} {w : World} {a b : Value} {c : Bool} (hn : f.name ≠ "_") (ha : (part f.type xs f.offset).run Tryz.prog w = .ok a w) (hb : (part f.type ys f.offset).run Tryz.prog w = .ok b w)
    (hr : (Op.equalIn d f.type a b).run Tryz.prog w = .ok c w) : (Op.eqFields d xs ys (f :: fs)).run Tryz.prog w = if c then (Op.eqFields d xs ys fs).run Tryz.prog w else .ok false w := by
  rw [Op.eqFields, if_pos hn]
  simp only [Sem.run_bind, ha, hb, hr, Result.andThen_ok]
  cases c <;> simp
theorem parts_eq {L M : List Int} (h : L.length = 38) (h2 : M.length = 38) : (L == M) = ((L.drop 0).take 16 == (M.drop 0).take 16 && (L.getD 16 0 == M.getD 16 0 && ((L.drop 17).take 4 == (M.drop 17).take 4 && ((L.drop 21).take 16 == (M.drop 21).take 16 && L.getD 37 0 == M.getD 37 0)))) := by
  rw [Bool.eq_iff_iff]
  simp only [Bool.and_eq_true, beq_iff_eq]
  refine ⟨fun e => by subst e; simp, fun ⟨e0, e1, e2, e3, e4⟩ => ?_⟩
  apply List.ext_getElem (by omega)
  intro i hi hj
  have at0 : ∀ (o n : Nat), (L.drop o).take n = (M.drop o).take n → o ≤ i → i < o + n → L[i]? = M[i]? := by
    intro o n e h3 h4
    have := congrArg (·[i - o]?) e
    simp only [List.getElem?_take, List.getElem?_drop, show i - o < n by omega, if_true, show o + (i - o) = i by omega] at this
    exact this
  have at1 : ∀ (o : Nat), L.getD o 0 = M.getD o 0 → i = o → L[i]? = M[i]? := by
    intro o e h3
    subst h3
    rw [List.getD_eq_getElem?_getD, List.getD_eq_getElem?_getD, List.getElem?_eq_getElem hi, List.getElem?_eq_getElem hj] at e
    rw [List.getElem?_eq_getElem hi, List.getElem?_eq_getElem hj]
    simpa using e
  have hg : L[i]? = M[i]? := by
    by_cases a : i < 16
    · exact at0 0 16 e0 (by omega) (by omega)
    · by_cases b : i = 16
      · exact at1 16 e1 b
      · by_cases c : i < 21
        · exact at0 17 4 e2 (by omega) (by omega)
        · by_cases d : i < 37
          · exact at0 21 16 e3 (by omega) (by omega)
          · exact at1 37 e4 (by omega)
  rw [List.getElem?_eq_getElem hi, List.getElem?_eq_getElem hj] at hg
  exact Option.some.inj hg
set_option maxRecDepth 100000 in
theorem eq_state_d2 (d : Nat) (L M : List Int) (h : L.length = 38) (h2 : M.length = 38) (w : World) : (Op.equalIn (d + 3) 29 (.agg (arrV L)) (.agg (arrV M))).run Tryz.prog w = .ok (L == M) w := by
  have ht : Tryz.prog.underlying 29 = some (.struct (Tryz.prog.fieldsOf 29)) := by kernel_rfl
  have hp : Tryz.prog.stoodInHeld 29 = false := by kernel_rfl
  have a16 : (isAgg 26).run Tryz.prog w = .ok true w := by kernel_rfl
  have a4 : (isAgg 27).run Tryz.prog w = .ok true w := by kernel_rfl
  have s16 : (sizeOf 26).run Tryz.prog w = .ok 16 w := by kernel_rfl
  have s4 : (sizeOf 27).run Tryz.prog w = .ok 4 w := by kernel_rfl
  have l0 : ∀ {X : List Int}, X.length = 38 → ((X.drop 0).take 16).length = 16 := fun h => by rw [List.length_take, List.length_drop, h]; rfl
  have l2 : ∀ {X : List Int}, X.length = 38 → ((X.drop 17).take 4).length = 4 := fun h => by rw [List.length_take, List.length_drop, h]; rfl
  have l3 : ∀ {X : List Int}, X.length = 38 → ((X.drop 21).take 16).length = 16 := fun h => by rw [List.length_take, List.length_drop, h]; rfl
  rw [run_equalIn_struct w (d + 2) _ _ _ ht hp]
  have q0 := eq_ints d _ _ (l0 h) (l0 h2) Tryz.underlying26 w
  have q2 := eq_ints d _ _ (l2 h) (l2 h2) Tryz.underlying27 w
  have q3 := eq_ints d _ _ (l3 h) (l3 h2) Tryz.underlying26 w
  have n0 : ("Mem" : String) ≠ "_" := by decide +kernel
  have n1 : ("Last" : String) ≠ "_" := by decide +kernel
  have n2 : ("Levels" : String) ≠ "_" := by decide +kernel
  have n3 : ("Waves" : String) ≠ "_" := by decide +kernel
  have n4 : ("Lost" : String) ≠ "_" := by decide +kernel
  simp only [Program.fieldsOf, Tryz.underlying29]
  have r1 := run_equalIn_int w (d + 1) 3 .i64 .i64 (L.getD 16 0) (M.getD 16 0) Tryz.underlying3
  have r4 := run_equalIn_int w (d + 1) 3 .i64 .i64 (L.getD 37 0) (M.getD 37 0) Tryz.underlying3
  rw [parts_eq h h2]
  refine Eq.trans (eqFields_if (a := .agg (arrV ((L.drop 0).take 16))) (b := .agg (arrV ((M.drop 0).take 16))) n0 (run_part_arr 26 L 0 16 w a16 s16) (run_part_arr 26 M 0 16 w a16 s16) q0) ?_
  cases ((L.drop 0).take 16 == (M.drop 0).take 16) with
  | false => rfl
  | true =>
    rw [if_pos rfl]
    refine Eq.trans (eqFields_if (a := .int .i64 (L.getD 16 0)) (b := .int .i64 (M.getD 16 0)) n1 (run_part_one L 16 (by omega) w) (run_part_one M 16 (by omega) w) r1) ?_
    cases (L.getD 16 0 == M.getD 16 0) with
    | false => rfl
    | true =>
      rw [if_pos rfl]
      refine Eq.trans (eqFields_if (a := .agg (arrV ((L.drop 17).take 4))) (b := .agg (arrV ((M.drop 17).take 4))) n2 (run_part_arr 27 L 17 4 w a4 s4) (run_part_arr 27 M 17 4 w a4 s4) q2) ?_
      cases ((L.drop 17).take 4 == (M.drop 17).take 4) with
      | false => rfl
      | true =>
        rw [if_pos rfl]
        refine Eq.trans (eqFields_if (a := .agg (arrV ((L.drop 21).take 16))) (b := .agg (arrV ((M.drop 21).take 16))) n3 (run_part_arr 26 L 21 16 w a16 s16) (run_part_arr 26 M 21 16 w a16 s16) q3) ?_
        cases ((L.drop 21).take 16 == (M.drop 21).take 16) with
        | false => rfl
        | true =>
          rw [if_pos rfl]
          refine Eq.trans (eqFields_if (a := .int .i64 (L.getD 37 0)) (b := .int .i64 (M.getD 37 0)) n4 (run_part_one L 37 (by omega) w) (run_part_one M 37 (by omega) w) r4) ?_
          cases (L.getD 37 0 == M.getD 37 0) with
          | false => rfl
          | true =>
            rw [if_pos rfl]
            simp [Op.eqFields]
theorem eq_states {L M : List Int} (h : Len L 38) (h2 : Len M 38) (w : World) : (Op.equalIn 10000 29 (.agg (arrV L)) (.agg (arrV M))).run Tryz.prog w = .ok (L == M) w := eq_state_d2 9997 L M h.out h2.out w
end Go.Proofs.YtkoljgmapclhkaaGreatDoor

namespace Go.Proofs.YtkoljgmapclhkaaGreatDoor
open Go.RowKit

set_option maxRecDepth 100000 in
set_option maxHeartbeats 4000000 in
theorem True_any (L : List Int) (hL : L.length = 38) (e : Ent) (w : World) : Calls Tryz.prog 51 #[.agg (arrV L), .agg (entV e)] w fun r w' => r = .returned (.bool (trueE L e)) ∧ Below w.heap.size w w' := by
  obtain ⟨k, sp, s⟩ := e
  obtain ⟨R, hR⟩ : ∃ R, trueE L ⟨k, sp, s⟩ = R := ⟨_, rfl⟩
  rw [hR]
  have HR := Lib.hid hR
  have hEr := fun w => ERight_any ⟨k, sp, s⟩ w
  have hRt := fun w => Right_any L hL w
  have hTo := fun w => stold_any ⟨k, sp, s⟩ w
  have LO := Len.mk (readSt_len s)
  obtain ⟨O, hO⟩ : ∃ O, readSt s = O := ⟨_, rfl⟩
  simp only [hO] at hTo LO
  have HOO := Lib.hid hO
  have LL := Len.mk hL
  have HER := Lib.hid hEr
  have HRT := Lib.hid hRt
  have HTO := Lib.hid hTo
  clear hR hL hEr hRt hTo hO
  obtain ⟨B, hB⟩ : ∃ B, w.heap.size = B := ⟨_, rfl⟩
  have hfar := Below.refl B w
  have hsz : B ≤ w.heap.size := by omega
  go_enter Tryz.func51, Tryz.ntmps51
  go_upto_region 1 with (fail)
  refine wp_gen (fun W => Blk W (B) (arrV L) 29 ∧ Blk W (B + 1) (entV ⟨k, sp, s⟩) 92 ∧ Below (B) w W ∧ B + 2 ≤ W.heap.size) ⟨bk_, bk_, bl_, sz_⟩ ?_
  clear hfar hsz
  rintro w1 ⟨hS, hE, hfar, hsz⟩
  cases hrs : rightS L with
  | false =>
    have h1 : R = false := by rw [← HR.out]; unfold trueE; rw [hrs]; rfl
    subst h1
    rw [hrs] at HRT
    refine wp_region_held_drew (S := fun W => Blk W (B) (arrV L) 29 ∧ Blk W (B + 1) (entV ⟨k, sp, s⟩) 92 ∧ Below (B) w W ∧ B + 2 ≤ W.heap.size) (by kernel_rfl) (⟨hS.drew, hE.drew, hfar.drew, hsz⟩) (fun hH => ?_)
    have hH2 := hH
    obtain ⟨hS, hE, hfar, hsz⟩ := hH2
    refine tk 0 hH (v := .agg (arrV L)) (y := (yieldsIf_ld (by rfl) 29 rfl w_State rfl (fun _ hS => hS.1) zz_)) (k := ?_)
    refine wpAnyH_ready (rs := [1]) (by kernel_rfl) (by simp) ?_
    refine rc (h := fun K hK => ?_) (r := AllReadyH.nil)
    go_simp
    refine (HRT.out _).mono ?_
    rintro r wq ⟨rfl, hb⟩
    have hbs := hb.size
    try simp only [World.size_alloc, World.size_setCell, World.size_drew, size_setRow] at hbs
    go_wp2_with fail
    refine hK.out _ _ ⟨bk_, bk_, bl_, Nat.le_trans (sz_) hb.size⟩ (fun hH2 => ?_)
    clear hH
    have hH := hH2
    obtain ⟨hS, hE, hfar, hsz⟩ := hH2
    clear hK K
    try simp only [Act.put, sa, List.set_cons_zero, List.set_cons_succ]
    refine tk 2 hH (y := yp) (k := ?_)
    refine tk 3 hH (y := yn) (k := ?_)
    refine tk 4 hH (y := yn) (k := ?_)
    refine tk 5 hH (y := yp) (k := ?_)
    refine tk 6 hH (y := yp) (k := ?_)
    refine tk 7 hH (y := yn) (k := ?_)
    refine tk 8 hH (y := yn) (k := ?_)
    refine tk 9 hH (y := yn) (k := ?_)
    refine tk 10 hH (y := yn) (k := ?_)
    refine tk 11 hH (y := yn) (k := ?_)
    refine tk 12 hH (y := yn) (k := ?_)
    refine tk 13 hH (y := yn) (k := ?_)
    refine tk 14 hH (y := yn) (k := ?_)
    refine tk 15 hH (y := yn) (k := ?_)
    refine tk 16 hH (y := yp) (k := ?_)
    refine tk 17 hH (y := yp) (k := ?_)
    refine wpAnyH_done (by kernel_rfl) ?_ _
    go_wp2_with fail
    go_ret
    exact ⟨rfl, (by (try rw [hB]); exact bl_)⟩
  | true =>
    rw [hrs] at HRT
    cases hre : rightE ⟨k, sp, s⟩ with
    | false =>
      have h1 : R = false := by rw [← HR.out]; unfold trueE; rw [hrs, hre]; rfl
      subst h1
      rw [hre] at HER
      refine wp_region_held_drew (S := fun W => Blk W (B) (arrV L) 29 ∧ Blk W (B + 1) (entV ⟨k, sp, s⟩) 92 ∧ Below (B) w W ∧ B + 2 ≤ W.heap.size) (by kernel_rfl) (⟨hS.drew, hE.drew, hfar.drew, hsz⟩) (fun hH => ?_)
      have hH2 := hH
      obtain ⟨hS, hE, hfar, hsz⟩ := hH2
      refine tk 0 hH (v := .agg (arrV L)) (y := (yieldsIf_ld (by rfl) 29 rfl w_State rfl (fun _ hS => hS.1) zz_)) (k := ?_)
      refine wpAnyH_ready (rs := [1]) (by kernel_rfl) (by simp) ?_
      refine rc (h := fun K hK => ?_) (r := AllReadyH.nil)
      go_simp
      refine (HRT.out _).mono ?_
      rintro r wq ⟨rfl, hb⟩
      have hbs := hb.size
      try simp only [World.size_alloc, World.size_setCell, World.size_drew, size_setRow] at hbs
      go_wp2_with fail
      refine hK.out _ _ ⟨bk_, bk_, bl_, Nat.le_trans (sz_) hb.size⟩ (fun hH2 => ?_)
      clear hH
      have hH := hH2
      obtain ⟨hS, hE, hfar, hsz⟩ := hH2
      clear hK K
      try simp only [Act.put, sa, List.set_cons_zero, List.set_cons_succ]
      refine tk 2 hH (y := yp) (k := ?_)
      refine tk 3 hH (v := .agg (entV ⟨k, sp, s⟩)) (y := (yieldsIf_ld (by rfl) 92 rfl w_Entry rfl (fun _ hS => hS.2.1) zz_)) (k := ?_)
      refine wpAnyH_ready (rs := [4]) (by kernel_rfl) (by simp) ?_
      refine rc (h := fun K hK => ?_) (r := AllReadyH.nil)
      go_simp
      refine (HER.out _).mono ?_
      rintro r wq ⟨rfl, hb⟩
      have hbs := hb.size
      try simp only [World.size_alloc, World.size_setCell, World.size_drew, size_setRow] at hbs
      go_wp2_with fail
      refine hK.out _ _ ⟨bk_, bk_, bl_, Nat.le_trans (sz_) hb.size⟩ (fun hH2 => ?_)
      clear hH
      have hH := hH2
      obtain ⟨hS, hE, hfar, hsz⟩ := hH2
      clear hK K
      try simp only [Act.put, sa, List.set_cons_zero, List.set_cons_succ]
      refine tk 5 hH (y := yp) (k := ?_)
      refine tk 6 hH (y := yp) (k := ?_)
      refine tk 7 hH (y := yn) (k := ?_)
      refine tk 8 hH (y := yn) (k := ?_)
      refine tk 9 hH (y := yn) (k := ?_)
      refine tk 10 hH (y := yn) (k := ?_)
      refine tk 11 hH (y := yn) (k := ?_)
      refine tk 12 hH (y := yn) (k := ?_)
      refine tk 13 hH (y := yn) (k := ?_)
      refine tk 14 hH (y := yn) (k := ?_)
      refine tk 15 hH (y := yn) (k := ?_)
      refine tk 16 hH (y := yp) (k := ?_)
      refine tk 17 hH (y := yp) (k := ?_)
      refine wpAnyH_done (by kernel_rfl) ?_ _
      go_wp2_with fail
      go_ret
      exact ⟨rfl, (by (try rw [hB]); exact bl_)⟩
    | true =>
      rw [hre] at HER
      by_cases h3 : k = 3
      · subst h3
        have h1 : R = (O == L) := by rw [← HR.out, ← HOO.out]; unfold trueE; rw [hrs, hre]; simp
        clear hrs hre
        refine wp_region_held_drew (S := fun W => Blk W (B) (arrV L) 29 ∧ Blk W (B + 1) (entV ⟨3, sp, s⟩) 92 ∧ Below (B) w W ∧ B + 2 ≤ W.heap.size) (by kernel_rfl) (⟨hS.drew, hE.drew, hfar.drew, hsz⟩) (fun hH => ?_)
        have hH2 := hH
        obtain ⟨hS, hE, hfar, hsz⟩ := hH2
        refine tk 0 hH (v := .agg (arrV L)) (y := (yieldsIf_ld (by rfl) 29 rfl w_State rfl (fun _ hS => hS.1) zz_)) (k := ?_)
        refine wpAnyH_ready (rs := [1]) (by kernel_rfl) (by simp) ?_
        refine rc (h := fun K hK => ?_) (r := AllReadyH.nil)
        go_simp
        refine (HRT.out _).mono ?_
        rintro r wq ⟨rfl, hb⟩
        have hbs := hb.size
        try simp only [World.size_alloc, World.size_setCell, World.size_drew, size_setRow] at hbs
        go_wp2_with fail
        refine hK.out _ _ ⟨bk_, bk_, bl_, Nat.le_trans (sz_) hb.size⟩ (fun hH2 => ?_)
        clear hH
        have hH := hH2
        obtain ⟨hS, hE, hfar, hsz⟩ := hH2
        clear hK K
        try simp only [Act.put, sa, List.set_cons_zero, List.set_cons_succ]
        refine tk 2 hH (y := yp) (k := ?_)
        refine tk 3 hH (v := .agg (entV ⟨3, sp, s⟩)) (y := (yieldsIf_ld (by rfl) 92 rfl w_Entry rfl (fun _ hS => hS.2.1) zz_)) (k := ?_)
        refine wpAnyH_ready (rs := [4]) (by kernel_rfl) (by simp) ?_
        refine rc (h := fun K hK => ?_) (r := AllReadyH.nil)
        go_simp
        refine (HER.out _).mono ?_
        rintro r wq ⟨rfl, hb⟩
        have hbs := hb.size
        try simp only [World.size_alloc, World.size_setCell, World.size_drew, size_setRow] at hbs
        go_wp2_with fail
        refine hK.out _ _ ⟨bk_, bk_, bl_, Nat.le_trans (sz_) hb.size⟩ (fun hH2 => ?_)
        clear hH
        have hH := hH2
        obtain ⟨hS, hE, hfar, hsz⟩ := hH2
        clear hK K
        try simp only [Act.put, sa, List.set_cons_zero, List.set_cons_succ]
        refine tk 5 hH (y := yp) (k := ?_)
        refine tk 6 hH (y := yp) (k := ?_)
        refine tk 7 hH (y := yp) (k := ?_)
        refine tk 8 hH (y := (.inl ⟨by rfl, fun w hS => by (have c := (show w.cell? ⟨B + 1, 0, none⟩ = some (.int .i64 3) from by simpa using hS.2.1.cell 0); go_simp; try rfl)⟩)) (k := ?_)
        refine tk 9 hH (v := .bool false) (y := .inl ⟨by rfl, fun w hS => by go_simp⟩) (k := ?_)
        refine tk 10 hH (y := yp) (k := ?_)
        refine tk 11 hH (v := .agg (entV ⟨3, sp, s⟩)) (y := (yieldsIf_ld (by rfl) 92 rfl w_Entry rfl (fun _ hS => hS.2.1) zz_)) (k := ?_)
        refine tk 13 hH (v := .agg (arrV L)) (y := (yieldsIf_ld (by rfl) 29 rfl w_State rfl (fun _ hS => hS.1) zz_)) (k := ?_)
        refine wpAnyH_ready (rs := [12]) (by kernel_rfl) (by simp) ?_
        refine rc (h := fun K hK => ?_) (r := AllReadyH.nil)
        go_simp
        refine (HTO.out _).mono ?_
        rintro r wq ⟨rfl, hb⟩
        have hbs := hb.size
        try simp only [World.size_alloc, World.size_setCell, World.size_drew, size_setRow] at hbs
        go_wp2_with fail
        refine hK.out _ _ ⟨bk_, bk_, bl_, Nat.le_trans (sz_) hb.size⟩ (fun hH2 => ?_)
        clear hH
        have hH := hH2
        obtain ⟨hS, hE, hfar, hsz⟩ := hH2
        clear hK K
        try simp only [Act.put, sa, List.set_cons_zero, List.set_cons_succ]
        refine tk 14 hH (v := .bool (O == L)) (y := (yieldsIf_eql (by rfl) 29 rfl rfl rfl eg_State (eq_states LO LL))) (k := ?_)
        refine tk 15 hH (y := yp) (k := ?_)
        refine tk 16 hH (y := yp) (k := ?_)
        refine tk 17 hH (y := yp) (k := ?_)
        refine wpAnyH_done (by kernel_rfl) ?_ _
        go_wp2_with fail
        go_ret
        exact ⟨by rw [h1]; rfl, (by (try rw [hB]); exact bl_)⟩
      · have h1 : R = true := by rw [← HR.out]; unfold trueE; rw [hrs, hre]; simp [h3]
        subst h1
        have q3 : (k != 3) = true := by simpa using h3
        clear hrs hre
        refine wp_region_held_drew (S := fun W => Blk W (B) (arrV L) 29 ∧ Blk W (B + 1) (entV ⟨k, sp, s⟩) 92 ∧ Below (B) w W ∧ B + 2 ≤ W.heap.size) (by kernel_rfl) (⟨hS.drew, hE.drew, hfar.drew, hsz⟩) (fun hH => ?_)
        have hH2 := hH
        obtain ⟨hS, hE, hfar, hsz⟩ := hH2
        refine tk 0 hH (v := .agg (arrV L)) (y := (yieldsIf_ld (by rfl) 29 rfl w_State rfl (fun _ hS => hS.1) zz_)) (k := ?_)
        refine wpAnyH_ready (rs := [1]) (by kernel_rfl) (by simp) ?_
        refine rc (h := fun K hK => ?_) (r := AllReadyH.nil)
        go_simp
        refine (HRT.out _).mono ?_
        rintro r wq ⟨rfl, hb⟩
        have hbs := hb.size
        try simp only [World.size_alloc, World.size_setCell, World.size_drew, size_setRow] at hbs
        go_wp2_with fail
        refine hK.out _ _ ⟨bk_, bk_, bl_, Nat.le_trans (sz_) hb.size⟩ (fun hH2 => ?_)
        clear hH
        have hH := hH2
        obtain ⟨hS, hE, hfar, hsz⟩ := hH2
        clear hK K
        try simp only [Act.put, sa, List.set_cons_zero, List.set_cons_succ]
        refine tk 2 hH (y := yp) (k := ?_)
        refine tk 3 hH (v := .agg (entV ⟨k, sp, s⟩)) (y := (yieldsIf_ld (by rfl) 92 rfl w_Entry rfl (fun _ hS => hS.2.1) zz_)) (k := ?_)
        refine wpAnyH_ready (rs := [4]) (by kernel_rfl) (by simp) ?_
        refine rc (h := fun K hK => ?_) (r := AllReadyH.nil)
        go_simp
        refine (HER.out _).mono ?_
        rintro r wq ⟨rfl, hb⟩
        have hbs := hb.size
        try simp only [World.size_alloc, World.size_setCell, World.size_drew, size_setRow] at hbs
        go_wp2_with fail
        refine hK.out _ _ ⟨bk_, bk_, bl_, Nat.le_trans (sz_) hb.size⟩ (fun hH2 => ?_)
        clear hH
        have hH := hH2
        obtain ⟨hS, hE, hfar, hsz⟩ := hH2
        clear hK K
        try simp only [Act.put, sa, List.set_cons_zero, List.set_cons_succ]
        refine tk 5 hH (y := yp) (k := ?_)
        refine tk 6 hH (y := yp) (k := ?_)
        refine tk 7 hH (y := yp) (k := ?_)
        refine tk 8 hH (y := (.inl ⟨by rfl, fun w hS => by (have c := (show w.cell? ⟨B + 1, 0, none⟩ = some (.int .i64 k) from by simpa using hS.2.1.cell 0); go_simp; try rfl)⟩)) (k := ?_)
        refine tk 9 hH (v := .bool true) (y := .inl ⟨by rfl, fun w hS => by go_simp⟩) (k := ?_)
        refine tk 10 hH (y := yp) (k := ?_)
        refine tk 11 hH (y := yn) (k := ?_)
        refine tk 12 hH (y := yn) (k := ?_)
        refine tk 13 hH (y := yn) (k := ?_)
        refine tk 14 hH (y := yn) (k := ?_)
        refine tk 15 hH (y := yp) (k := ?_)
        refine tk 16 hH (y := yp) (k := ?_)
        refine tk 17 hH (y := yp) (k := ?_)
        refine wpAnyH_done (by kernel_rfl) ?_ _
        go_wp2_with fail
        go_ret
        exact ⟨rfl, (by (try rw [hB]); exact bl_)⟩
set_option maxRecDepth 100000 in
set_option maxHeartbeats 4000000 in
theorem Truths_any {l : List Ent} {n : Nat} (hn : l.length = n) (hl : n ≤ 1000) {p : Option Addr} {lo hi cap : Nat} {w : World} (hW : BandsW w) (hE : SL w lo hi 3 p n cap (flE l)) :
    Calls Tryz.prog 29 #[.slice p n cap] w fun r w' => r = .returned (.int .i64 (truthsE (zs 38) l : Nat)) ∧ Below w.heap.size w w' := by
  have hBW : Blk w 0 bandC 164 := hW
  have hB0 := hW.lt
  have hhi := hE.2.2.2.1
  have hcap := hE.2.1
  have hcm := hE.2.2.1
  unfold maxLen at hcm
  have hQ := hE
  have HN := Lib.hid hn
  obtain ⟨R, hR⟩ : ∃ R, truthsE (zs 38) l = R := ⟨_, rfl⟩
  rw [hR]
  have HR := Lib.hid hR
  clear hn hE hW hR
  obtain ⟨B, hB⟩ : ∃ B, w.heap.size = B := ⟨_, rfl⟩
  rw [hB] at hhi hB0
  have hfar := Below.refl B w
  have hsz : B ≤ w.heap.size := by omega
  go_enter Tryz.func29, Tryz.ntmps29
  go_upto_region 2 with (fail)
  refine wp_gen (fun W => Blk W (0) (bandC) 164 ∧ SL W (lo) (hi) (3) (p) (n) (cap) (flE l) ∧ Blk W (B) (arrV (zs 38)) 29 ∧ Below (B) w W ∧ B + 1 ≤ W.heap.size) ⟨bk_, sl_, bk_, bl_, sz_⟩ ?_
  clear hBW hQ hfar hsz
  rintro w1 ⟨hBW, hQ, hS, hfar, hsz⟩
  go_wp2_with fail
  go_loopw [8] (fun i wr => ∃ (k : Nat), k ≤ n ∧ i = .int .i64 k ∧ Hid (R = k + truthsE (foldS (zs 38) (l.take k)) (l.drop k)) ∧ Blk wr 0 bandC 164 ∧ SL wr lo hi 3 p n cap (flE l) ∧ Blk wr B (arrV (foldS (zs 38) (l.take k))) 29 ∧ Below B w wr ∧ B + 1 ≤ wr.heap.size) (fun i _ => n - (intOf i).toNat)
  case atStart => exact ⟨0, by omega, rfl, Lib.hid (by rw [← HR.out]; simp [foldS]), hBW, hQ, hS, hfar, hsz⟩
  case round =>
    clear hBW hQ hS hfar hsz
    obtain ⟨k, hk, rfl, HT, hBW, hQ, hS, hfar, hsz⟩ := hrel
    by_cases hlt : k < n
    · have hkl : k < l.length := by rw [HN.out]; exact hlt
      obtain ⟨e, he⟩ : ∃ e, l[k] = e := ⟨_, rfl⟩
      have hget : l[k]? = some e := by rw [List.getElem?_eq_getElem hkl, he]
      have hES : ES wr lo hi p cap l := by unfold ES; rw [HN.out]; exact hQ
      obtain ⟨b, o, rfl, hb1, hb2, hr⟩ := hES.get hget
      have hd : l.drop k = e :: l.drop (k + 1) := by rw [← he]; exact List.drop_eq_getElem_cons hkl
      have ht := HT.out
      rw [hd, truthsE] at ht
      have hS1 : foldS (zs 38) (l.take (k + 1)) = stepS (foldS (zs 38) (l.take k)) e := by rw [List.take_add_one, hget, Option.toList_some, foldS_app]; rfl
      have LF := Len.mk (foldS_len (L := zs 38) (by simp [zs]) (l.take k))
      obtain ⟨M, hM⟩ : ∃ M, foldS (zs 38) (l.take k) = M := ⟨_, rfl⟩
      rw [hM] at ht hS1 hS LF
      have hTr := fun w => True_any M LF.out e w
      have hSt := fun w hW => Step_any M LF.out e w hW
      obtain ⟨T, hT⟩ : ∃ T, trueE M e = T := ⟨_, rfl⟩
      rw [hT] at ht
      simp only [hT] at hTr
      have HTR := Lib.hid hTr
      have HST := Lib.hid hSt
      have HT1 := Lib.hid ht
      have HS1 := Lib.hid hS1
      clear HT hM hd ht hS1 hTr hSt hkl he hget hES hT
      obtain ⟨g, hg⟩ : ∃ g, wr.heap.size = g := ⟨_, rfl⟩
      have hBg : B + 1 ≤ g := by omega
      go_upto_region 5 with (first | (refine ldr 92 rfl (by rfl) w_Entry rfl (by assumption) (by rfl) ?_) | (first | (refine st 92 rfl (by rfl) w_Entry rfl rfl bk_ zz_ zz_ one_ ?_) | (refine ld 92 rfl (by rfl) w_Entry rfl bk_ zz_ ?_) | (refine bd 29 rfl (by rfl) rfl state_zs ?_) | (refine bd 26 rfl (by rfl) rfl block_zs ?_) | (refine ld 29 rfl (by rfl) w_State rfl bk_ lz_ ?_) | (refine ld 26 rfl (by rfl) w_Block rfl bk_ lz_ ?_) | (refine ldp 26 rfl (by rfl) w_Block rfl bk_ ln_ (by omega) ?_) | (refine ld 27 rfl (by rfl) w_Four rfl bk_ lz_ ?_) | (refine ldp 27 rfl (by rfl) w_Four rfl bk_ ln_ (by omega) ?_) | (refine st 29 rfl (by rfl) w_State rfl rfl bk_ lz_ lz_ one_ ?_) | (refine st 26 rfl (by rfl) w_Block rfl rfl bk_ lz_ lz_ one_ ?_) | (refine st 27 rfl (by rfl) w_Four rfl rfl bk_ lz_ lz_ one_ ?_)))
      refine wp_gen (fun W => Blk W (0) (bandC) 164 ∧ SL W (lo) (hi) (3) (some ⟨b, o, none⟩) (n) (cap) (flE l) ∧ Blk W (B) (arrV M) 29 ∧ Blk W (g) (entV e) 92 ∧ Below (B) w W ∧ g + 1 ≤ W.heap.size) ⟨bk_, sl_, bk_, bk_, bl_, sz_⟩ ?_
      clear hBW hQ hS hfar hsz
      rintro w2 ⟨hBW, hQ, hS, hE, hfar, hsz⟩
      go_wp2_with (first | (refine st 92 rfl (by rfl) w_Entry rfl rfl bk_ zz_ zz_ one_ ?_) | (refine ld 92 rfl (by rfl) w_Entry rfl bk_ zz_ ?_) | (refine bd 29 rfl (by rfl) rfl state_zs ?_) | (refine bd 26 rfl (by rfl) rfl block_zs ?_) | (refine ld 29 rfl (by rfl) w_State rfl bk_ lz_ ?_) | (refine ld 26 rfl (by rfl) w_Block rfl bk_ lz_ ?_) | (refine ldp 26 rfl (by rfl) w_Block rfl bk_ ln_ (by omega) ?_) | (refine ld 27 rfl (by rfl) w_Four rfl bk_ lz_ ?_) | (refine ldp 27 rfl (by rfl) w_Four rfl bk_ ln_ (by omega) ?_) | (refine st 29 rfl (by rfl) w_State rfl rfl bk_ lz_ lz_ one_ ?_) | (refine st 26 rfl (by rfl) w_Block rfl rfl bk_ lz_ lz_ one_ ?_) | (refine st 27 rfl (by rfl) w_Four rfl rfl bk_ lz_ lz_ one_ ?_))
      refine (HTR.out _).mono ?_
      rintro e w3 ⟨rfl, hb3⟩
      replace hBW := hBW.newB hb3
      replace hQ := hQ.newB hb3
      replace hS := hS.newB hb3
      replace hE := hE.newB hb3
      replace hfar := hfar.trans (hb3.mono (by omega))
      replace hsz := Nat.le_trans hsz hb3.size
      cases T with
      | false =>
        have h1 : R = k := by rw [HT1.out]; simp
        subst h1
        go_wp2_with fail
        go_ret
        exact ⟨rfl, (by (try rw [hB]); exact bl_)⟩
      | true =>
        have h1 : R = k + 1 + truthsE (stepS M e) (l.drop (k + 1)) := by rw [HT1.out]; simp; omega
        have H1 := Lib.hid h1
        have LS := Len.mk (stepS_len LF.out e)
        obtain ⟨M2, hM2⟩ : ∃ M2, stepS M e = M2 := ⟨_, rfl⟩
        rw [hM2] at H1 HS1 HST LS
        clear h1 hM2
        go_wp2_with (first | (refine st 92 rfl (by rfl) w_Entry rfl rfl bk_ zz_ zz_ one_ ?_) | (refine ld 92 rfl (by rfl) w_Entry rfl bk_ zz_ ?_) | (refine bd 29 rfl (by rfl) rfl state_zs ?_) | (refine bd 26 rfl (by rfl) rfl block_zs ?_) | (refine ld 29 rfl (by rfl) w_State rfl bk_ lz_ ?_) | (refine ld 26 rfl (by rfl) w_Block rfl bk_ lz_ ?_) | (refine ldp 26 rfl (by rfl) w_Block rfl bk_ ln_ (by omega) ?_) | (refine ld 27 rfl (by rfl) w_Four rfl bk_ lz_ ?_) | (refine ldp 27 rfl (by rfl) w_Four rfl bk_ ln_ (by omega) ?_) | (refine st 29 rfl (by rfl) w_State rfl rfl bk_ lz_ lz_ one_ ?_) | (refine st 26 rfl (by rfl) w_Block rfl rfl bk_ lz_ lz_ one_ ?_) | (refine st 27 rfl (by rfl) w_Four rfl rfl bk_ lz_ lz_ one_ ?_))
        refine (HST.out _ hBW).mono ?_
        rintro r w4 ⟨v4, rfl, hv4, hb4⟩
        replace hBW := hBW.newB hb4
        replace hQ := hQ.newB hb4
        replace hS := hS.newB hb4
        replace hE := hE.newB hb4
        replace hfar := hfar.trans (hb4.mono (by omega))
        replace hsz := Nat.le_trans hsz hb4.size
        clear hv4
        go_upto_region 8 with (first | (refine st 92 rfl (by rfl) w_Entry rfl rfl bk_ zz_ zz_ one_ ?_) | (refine ld 92 rfl (by rfl) w_Entry rfl bk_ zz_ ?_) | (refine bd 29 rfl (by rfl) rfl state_zs ?_) | (refine bd 26 rfl (by rfl) rfl block_zs ?_) | (refine ld 29 rfl (by rfl) w_State rfl bk_ lz_ ?_) | (refine ld 26 rfl (by rfl) w_Block rfl bk_ lz_ ?_) | (refine ldp 26 rfl (by rfl) w_Block rfl bk_ ln_ (by omega) ?_) | (refine ld 27 rfl (by rfl) w_Four rfl bk_ lz_ ?_) | (refine ldp 27 rfl (by rfl) w_Four rfl bk_ ln_ (by omega) ?_) | (refine st 29 rfl (by rfl) w_State rfl rfl bk_ lz_ lz_ one_ ?_) | (refine st 26 rfl (by rfl) w_Block rfl rfl bk_ lz_ lz_ one_ ?_) | (refine st 27 rfl (by rfl) w_Four rfl rfl bk_ lz_ lz_ one_ ?_))
        refine wp_gen (fun W => Blk W (0) (bandC) 164 ∧ SL W (lo) (hi) (3) (some ⟨b, o, none⟩) (n) (cap) (flE l) ∧ Blk W (B) (arrV M2) 29 ∧ Blk W (g) (entV e) 92 ∧ Below (B) w W ∧ g + 1 ≤ W.heap.size) ⟨bk_, sl_, bk_, bk_, bl_, sz_⟩ ?_
        clear hBW hQ hS hE hfar hsz
        rintro w5 ⟨hBW, hQ, hS, hE, hfar, hsz⟩
        go_wp2_with fail
        go_roundw
        case rel => exact ⟨k + 1, hlt, by go_num, Lib.hid (by rw [HS1.out]; exact H1.out), hBW, hQ, by rw [HS1.out]; exact hS, hfar, by omega⟩
        case measure => simp [intOf]; omega
    · obtain rfl : k = n := by omega
      have h1 : R = k := by rw [HT.out, ← HN.out, List.drop_length]; simp [truthsE]
      subst h1
      go_wp2_with fail
      go_ret
      exact ⟨rfl, by rw [hB]; exact hfar⟩
end Go.Proofs.YtkoljgmapclhkaaGreatDoor
