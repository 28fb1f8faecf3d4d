/- The walks of spec.Fold and its hearing. The walks of spoollaw20.Of, spoollaw21.Of, few, Same. The walks of entry.Gap and spoollaw21.awake. The walks of spec.Sounds, spec.True and spec.Truths. The walks of the document's Held and Right. -/
import Derived.Test.YtmfihaaiddolmaaGreatDoorLot7
import Derived.Deep.RegionHeldLaw
import Derived.Laws.StructEq
import Derived.Test.YtmfihaaiddolmaaGreatDoorLot6
set_option linter.unusedSimpArgs false
set_option linter.unusedVariables false
namespace Go.Proofs.YtmfihaaiddolmaaGreatDoor
open Go.RowKit

theorem info_Block : (Tryz.prog.info? 27).map (fun i => (i.zero, i.size, i.bytes)) = some (some (.agg #[.int .i64 0, .int .i64 0, .int .i64 0, .int .i64 0, .int .i64 0, .int .i64 0, .int .i64 0, .int .i64 0, .int .i64 0, .int .i64 0, .int .i64 0, .int .i64 0, .int .i64 0, .int .i64 0, .int .i64 0, .int .i64 0]), 16, 128) := by kernel_rfl
theorem info_Entry : (Tryz.prog.info? 61).map (fun i => (i.zero, i.size, i.bytes)) = some (some (.agg #[.int .i64 0, .int .u32 0, .string ⟨#[]⟩]), 3, 32) := by kernel_rfl
theorem flatB_one (l : List (List Int)) : ∀ u ∈ l.flatMap intsV, u.oneCell' = true := by
  intro u hu
  obtain ⟨b, _, hb⟩ := List.mem_flatMap.1 hu
  exact ints_one b u hb
/-- A load of what lies in the midst of a block. -/
theorem ldr {ops : Array Oper} {rest : List Oper} {op : Oper} {a : Act} {w : World} {Q : Exit → Act → World → Prop} (ty : TypeId) {x : Operand} (ho : op.op = .load ty x) (hwd : Region.wanted op (yielded ops a.tmps) = true) {n : Nat} (hW : Whole ty n)
    {b o : Nat} (hx : a.eval x = .pointer (some ⟨b, o, none⟩)) {cs : Array Value} (hb : w.rangeAt b o cs.toList) (hs : cs.size = n) (h : wpList Tryz.prog ops Q rest (a.put op.dst (.agg cs)) w) : wpList Tryz.prog ops Q (op :: rest) a w :=
  wpList_step fun _ hK => by
    rw [if_pos hwd]
    obtain ⟨d, hu, hd, hi⟩ := hW
    exact wp_load_mid ty x ho b o hx cs.toList d hb hu hd (by rw [hi, Array.length_toList, hs]) (by simpa using hK _ _ h)
/-- What the hearing leaves. -/
def Heard (gs go base : Nat) (L : List Int) (l : List (List Int)) (e : Ending) (w w' : World) : Prop :=
  ∃ v, e = .returned (.tuple #[]) ∧ Blk w' gs (arrV L) 35 ∧ Blk w' go #[v] 47 ∧ OW w' base w'.heap.size 27 16 v l.length (l.flatMap intsV) ∧ Kept (fun k => k = gs ∨ k = go ∨ base ≤ k) w w'
set_option maxRecDepth 100000 in
set_option maxHeartbeats 4000000 in
theorem hear_any (gs go base : Nat) (h1 : 0 < gs) (h2 : 0 < go) (h12 : gs ≠ go) (h3 : gs < base) (h4 : go < base) (L : List Int) (hL : L.length = 38) (e : Ent) (l : List (List Int)) (hl : l.length ≤ 1000) (v : Value) (w : World) (hW : BandsW w)
    (hS : Blk w gs (arrV L) 35) (hO : Blk w go #[v] 47) (hR : OW w base w.heap.size 27 16 v l.length (l.flatMap intsV)) (hb : base ≤ w.heap.size) :
    Calls Tryz.prog 59 #[.agg (entV e), .pointer (some ⟨gs, 0, none⟩), .pointer (some ⟨go, 0, none⟩)] w fun r w' => Heard gs go base (stepS L e) (l ++ stepO L e) r w w' := by
  obtain ⟨k, sp, s⟩ := e
  have hBW : Blk w 0 bandC 132 := hW
  have hst := fun w hW => Step_any L hL ⟨k, sp, s⟩ w hW
  have LS := Len.mk (stepS_len hL ⟨k, sp, s⟩)
  have hle := stepO_le L ⟨k, sp, s⟩
  obtain ⟨O, hO2⟩ : ∃ O, stepO L ⟨k, sp, s⟩ = O := ⟨_, rfl⟩
  obtain ⟨S', hS2⟩ : ∃ S', stepS L ⟨k, sp, s⟩ = S' := ⟨_, rfl⟩
  simp only [hO2, hS2] at hst LS hle ⊢
  have HST := Lib.hid hst
  have LL := Len.mk hL
  clear hst hO2 hS2 hL hW
  have hfar := Kept.refl (fun k => k = gs ∨ k = go ∨ base ≤ k) w
  have hsz : w.heap.size ≤ w.heap.size := Nat.le_refl _
  obtain ⟨B, hB⟩ : ∃ B, w.heap.size = B := ⟨_, rfl⟩
  rw [hB] at hb hR
  go_enter Tryz.func59, Tryz.ntmps59
  go_upto_region 1 with (fail)
  refine wp_gen (fun W => Blk W (0) (bandC) 132 ∧ Blk W (gs) (arrV L) 35 ∧ Blk W (go) (#[v]) 47 ∧ OW W (base) (B) (27) (16) (v) (l.length) (l.flatMap intsV) ∧ Blk W (B) (entV ⟨k, sp, s⟩) 61 ∧ Kept (fun k => k = gs ∨ k = go ∨ base ≤ k) w W ∧ B + 1 ≤ W.heap.size) ⟨bk_, bk_, bk_, ow_, bk_, kp_, sz_⟩ ?_
  clear hBW hS hO hR hfar hsz
  rintro w1 ⟨hBW, hS, hO, hR, hE, hfar, hsz⟩
  go_wp2_with (first | (refine st 61 rfl (by rfl) w_Entry rfl rfl bk_ zz_ zz_ one_ ?_) | (refine ld 61 rfl (by rfl) w_Entry rfl bk_ zz_ ?_) | (refine bd 35 rfl (by rfl) rfl state_zs ?_) | (refine bd 27 rfl (by rfl) rfl block_zs ?_) | (refine ld 35 rfl (by rfl) w_State rfl bk_ lz_ ?_) | (refine ld 27 rfl (by rfl) w_Block rfl bk_ lz_ ?_) | (refine ldp 27 rfl (by rfl) w_Block rfl bk_ ln_ (by omega) ?_) | (refine ld 23 rfl (by rfl) w_Four rfl bk_ lz_ ?_) | (refine ldp 23 rfl (by rfl) w_Four rfl bk_ ln_ (by omega) ?_) | (refine st 35 rfl (by rfl) w_State rfl rfl bk_ lz_ lz_ one_ ?_) | (refine st 27 rfl (by rfl) w_Block rfl rfl bk_ lz_ lz_ one_ ?_) | (refine st 23 rfl (by rfl) w_Four rfl rfl bk_ lz_ lz_ one_ ?_))
  refine (HST.out _ hBW).mono ?_
  rintro r w2 ⟨v2, rfl, hR2, hb2⟩
  replace hBW := hBW.newB hb2
  replace hS := hS.newB hb2
  replace hO := hO.newB hb2
  replace hR := hR.newB hb2
  replace hE := hE.newB hb2
  replace hfar := hfar.thenBelow hb2
  replace hsz := Nat.le_trans hsz hb2.size
  obtain ⟨g, hg⟩ : ∃ g, w2.heap.size = g := ⟨_, rfl⟩
  have hBg : B + 1 ≤ g := by omega
  obtain ⟨p2, c2, rfl, hQ⟩ := SL.own hR2
  clear hR2
  rw [hg] at hQ
  go_upto_region 2 with (first | (refine st 61 rfl (by rfl) w_Entry rfl rfl bk_ zz_ zz_ one_ ?_) | (refine ld 61 rfl (by rfl) w_Entry rfl bk_ zz_ ?_) | (refine bd 35 rfl (by rfl) rfl state_zs ?_) | (refine bd 27 rfl (by rfl) rfl block_zs ?_) | (refine ld 35 rfl (by rfl) w_State rfl bk_ lz_ ?_) | (refine ld 27 rfl (by rfl) w_Block rfl bk_ lz_ ?_) | (refine ldp 27 rfl (by rfl) w_Block rfl bk_ ln_ (by omega) ?_) | (refine ld 23 rfl (by rfl) w_Four rfl bk_ lz_ ?_) | (refine ldp 23 rfl (by rfl) w_Four rfl bk_ ln_ (by omega) ?_) | (refine st 35 rfl (by rfl) w_State rfl rfl bk_ lz_ lz_ one_ ?_) | (refine st 27 rfl (by rfl) w_Block rfl rfl bk_ lz_ lz_ one_ ?_) | (refine st 23 rfl (by rfl) w_Four rfl rfl bk_ lz_ lz_ one_ ?_))
  refine wp_gen (fun W => Blk W (0) (bandC) 132 ∧ Blk W (gs) (arrV L) 35 ∧ Blk W (go) (#[v]) 47 ∧ OW W (base) (B) (27) (16) (v) (l.length) (l.flatMap intsV) ∧ Blk W (B) (entV ⟨k, sp, s⟩) 61 ∧ SL W (w1.heap.size) (g) (16) (p2) (O.length) (c2) (O.flatMap intsV) ∧ Blk W (g) (arrV S') 35 ∧ Kept (fun k => k = gs ∨ k = go ∨ base ≤ k) w W ∧ g + 1 ≤ W.heap.size) ⟨bk_, bk_, bk_, ow_, bk_, sl_, bk_, kp_, sz_⟩ ?_
  clear hBW hS hO hR hE hQ hfar hsz
  rintro w3 ⟨hBW, hS, hO, hR, hE, hQ, hN, hfar, hsz⟩
  obtain ⟨i0, hi, hz0, hz1, hz2⟩ := info_parts info_Block
  have hvb : ∀ k, v.ownBlock = some k → base ≤ k ∧ k < B := fun k hk => ⟨(World.ownsRow.lt hR.1 k hk).1, hR.2.1 k hk⟩
  have HVB := Lib.hid hvb
  clear hvb
  have c0 := hO.drew.cell 0
  simp only [List.getElem?_toArray, List.getElem?_cons_zero] at c0
  refine wp_region_held_drew (S := fun W => Blk W (g) (arrV S') 35) (by kernel_rfl) (hN.drew) (fun hH => ?_)
  refine wpAnyH_take (i := 1) (oi := { dst := some 13, op := Op.move (Operand.tmp 4), type := 47, pos := "spec.go:40", after := _, guard := none }) (v := _) rfl (by kernel_rfl) (by kernel_rfl) (by kernel_rfl) (fun _ _ _ h => h) (.inl ⟨by rfl, fun w hS => by (go_simp; try rfl)⟩) hH ?_
  try simp only [Act.put, List.setIfInBounds_toArray, List.set_cons_zero, List.set_cons_succ]
  refine wpAnyH_take (i := 3) (oi := { dst := some 15, op := Op.load 35 (Operand.tmp 5), type := 35, pos := "spec.go:40", after := _, guard := none }) (v := .agg (arrV S')) rfl (by kernel_rfl) (by kernel_rfl) (by kernel_rfl) (fun _ _ _ h => h) (yieldsIf_ld (by rfl) 35 rfl w_State rfl (fun _ hS => hS) zz_) hH ?_
  try simp only [Act.put, List.setIfInBounds_toArray, List.set_cons_zero, List.set_cons_succ]
  refine wpAnyH_ready (rs := [0]) (by kernel_rfl) (by simp) ?_
  refine AllReadyH.cons (o := { dst := some 12, op := Op.load 47 (Operand.tmp 2), type := 47, pos := "spec.go:40", after := _, guard := none }) rfl (fun K hK => ?_) AllReadyH.nil
  rw [if_pos (by rfl)]
  go_simp
  refine hK.out _ _ bk_ (fun hH => ?_)
  clear hK K
  try simp only [Act.put, List.setIfInBounds_toArray, List.set_cons_zero, List.set_cons_succ]
  refine wpAnyH_ready (rs := [2]) (by kernel_rfl) (by simp) ?_
  refine AllReadyH.cons (o := { dst := some 14, op := Op.call { callee := Callee.builtin Builtin.append, args := #[Operand.tmp 12, Operand.tmp 13], argTypes := #[47, 47] }, type := 47, pos := "spec.go:40", after := _, guard := none }) rfl (fun K hK => ?_) AllReadyH.nil
  rw [if_pos (by rfl)]
  refine wp_append_sl 47 rfl rfl base 27 i0 (.agg #[.int .i64 0, .int .i64 0, .int .i64 0, .int .i64 0, .int .i64 0, .int .i64 0, .int .i64 0, .int .i64 0, .int .i64 0, .int .i64 0, .int .i64 0, .int .i64 0, .int .i64 0, .int .i64 0, .int .i64 0, .int .i64 0]) 16 128 Tryz.underlying47 hi hz0 hz1 hz2 rfl (by omega) rfl (own_drew hR.1) rfl hQ.drew (flatB_one _) (by unfold maxLen; omega) (by omega) (by rw [World.size_drew]; omega) (fun v' w4 hown hgr _ => ?_)
  obtain ⟨p3, c3, rfl, hQ3⟩ := SL.own hown
  have hS4 := hS.drew.kept hgr (fun e => by have := HVB.out _ e.symm; omega)
  have hO4 := hO.drew.kept hgr (fun e => by have := HVB.out _ e.symm; omega)
  have hfar4 : Kept (fun k => k = gs ∨ k = go ∨ base ≤ k) w w4 := hfar.drew.grown hgr (fun k hk => by have := HVB.out k hk; omega)
  have d0 := hO4.cell 0
  simp only [List.getElem?_toArray, List.getElem?_cons_zero] at d0
  have e0 := hO4.frozen 0
  have hs4 := hgr.size
  simp only [World.size_drew] at hs4
  refine hK.out _ _ (hH.kept hgr (fun e => by have := HVB.out _ e.symm; omega)) (fun hH => ?_)
  clear hK K
  try simp only [Act.put, List.setIfInBounds_toArray, List.set_cons_zero, List.set_cons_succ]
  refine wpAnyH_ready (rs := [4]) (by kernel_rfl) (by simp) ?_
  refine AllReadyH.cons (o := { dst := none, op := Op.store 47 (Operand.tmp 2) (Operand.tmp 14), type := 0, pos := "spec.go:40", after := _, guard := none }) rfl (fun K hK => ?_) AllReadyH.nil
  rw [if_pos (by rfl)]
  go_simp
  refine hK.out _ _ bk_ (fun hH => ?_)
  clear hK K
  try simp only [Act.put]
  refine wpAnyH_ready (rs := [5]) (by kernel_rfl) (by simp) ?_
  refine AllReadyH.cons (o := { dst := none, op := Op.store 35 (Operand.tmp 1) (Operand.tmp 15), type := 0, pos := "spec.go:40", after := _, guard := none }) rfl (fun K hK => ?_) AllReadyH.nil
  rw [if_pos (by rfl)]
  refine wp_st 35 rfl w_State rfl rfl bk_ zz_ zz_ one_ ?_
  refine hK.out _ _ bk_ (fun hH => ?_)
  clear hK K
  try simp only [Act.put]
  refine wpAnyH_done (by kernel_rfl) ?_ _
  go_wp2_with fail
  go_end0
  have hfin : w4.ownsRow base 27 16 (.slice p3 (l.length + O.length) c3) (l ++ O).length ((l ++ O).flatMap intsV) := by rw [List.length_append, List.flatMap_append]; exact hown
  exact ⟨_, rfl, by exact bk_, by exact bk_, OW.mk0 (own_setRow (own_setCell hfin (by simp only []; omega) _) (by omega) _), by exact kp_⟩
/-- A slice of entries that is read. -/
def ES (W : World) (lo hi : Nat) (p : Option Addr) (cap : Nat) (l : List Ent) : Prop := SL W lo hi 3 p l.length cap (l.flatMap fun e => (entV e).toList)
theorem ent_len (l : List Ent) : ∀ e ∈ l, ((entV e).toList).length = 3 := fun _ _ => rfl
theorem ES.get {W : World} {lo hi : Nat} {p : Option Addr} {cap : Nat} {l : List Ent} (h : ES W lo hi p cap l) {i : Nat} {e : Ent} (he : l[i]? = some e) : ∃ b o, p = some ⟨b, o, none⟩ ∧ lo ≤ b ∧ b < hi ∧ W.rangeAt b (o + i * 3) (entV e).toList := by
  have hi : i < l.length := (List.getElem?_eq_some_iff.1 he).1
  obtain ⟨b, o, hp, h1, h2, h3⟩ := h.form (by omega)
  refine ⟨b, o, hp, h1, h2, fun j u hu => ?_⟩
  have hj : j < 3 := (List.getElem?_eq_some_iff.1 hu).1
  rw [Nat.add_assoc]
  exact h3 _ u ((flat_get _ l (ent_len l) he hj).trans hu)
theorem ES.take {W : World} {lo hi : Nat} {p : Option Addr} {cap : Nat} {l : List Ent} (h : ES W lo hi p cap l) {k : Nat} (hk : k ≤ l.length) : ES W lo hi p cap (l.take k) := by
  have h2 := SL.take h hk
  rw [flat_take _ l (ent_len l)] at h2
  unfold ES
  rwa [List.length_take, Nat.min_eq_left hk]
theorem ES.drop {W : World} {lo hi : Nat} {p : Option Addr} {cap : Nat} {l : List Ent} (h : ES W lo hi p cap l) {k : Nat} (hk : k ≤ l.length) : ES W lo hi (if cap = k then p else p.map (·.add (k * 3))) (cap - k) (l.drop k) := by
  have h2 := SL.drop h hk
  rw [flat_drop _ l (ent_len l)] at h2
  unfold ES
  rwa [List.length_drop]
set_option maxRecDepth 100000 in
set_option maxHeartbeats 4000000 in
theorem Fold_any (L : List Int) (hL : L.length = 38) (l : List Ent) (hl : l.length ≤ 1000) (p : Option Addr) (lo hi cap : Nat) (w : World) (hW : BandsW w) (hE : ES w lo hi p cap l) :
    Calls Tryz.prog 17 #[.agg (arrV L), .slice p l.length cap] w (RetBS w (foldO L l) (foldS L l)) := by
  have hBW : Blk w 0 bandC 132 := hW
  have hB0 := hW.lt
  have hhi := hE.2.2.2.1
  have hcap := hE.2.1
  have hcm := hE.2.2.1
  unfold maxLen at hcm
  have hQ : SL w lo hi 3 p l.length cap (l.flatMap fun e => (entV e).toList) := hE
  obtain ⟨n, hn⟩ : ∃ n, l.length = n := ⟨_, rfl⟩
  rw [hn] at hl hcap ⊢
  have HN := Lib.hid hn
  rw [hn] at hQ
  have LL := Len.mk hL
  clear hW hL hn hE
  obtain ⟨B, hB⟩ : ∃ B, w.heap.size = B := ⟨_, rfl⟩
  rw [hB] at hB0 hhi
  have hfar := Below.refl B w
  have hsz : B ≤ w.heap.size := by omega
  go_enter Tryz.func17, Tryz.ntmps17
  go_upto_region 3 with (fail)
  refine wp_gen (fun W => Blk W (0) (bandC) 132 ∧ SL W (lo) (hi) (3) (p) (n) (cap) (l.flatMap fun e => (entV e).toList) ∧ Blk W (B) (arrV L) 35 ∧ Blk W (B + 1) (arrV (zs 38)) 35 ∧ Blk W (B + 1 + 1) (#[.slice none 0 0]) 47 ∧ Below (B) w W ∧ B + 3 ≤ W.heap.size) ⟨bk_, sl_, bk_, bk_, bk_, bl_, sz_⟩ ?_
  clear hBW hQ hfar hsz
  rintro w1 ⟨hBW, hQ, hS, hR, hO, hfar, hsz⟩
  go_wp2_with fail
  go_loopw [13] (fun i wr => ∃ (k : Nat) (v : Value), k ≤ n ∧ i = .int .i64 k ∧ Blk wr 0 bandC 132 ∧ SL wr lo hi 3 p n cap (l.flatMap fun e => (entV e).toList) ∧ Blk wr B (arrV (foldS L (l.take k))) 35 ∧ Blk wr (B + 1) (arrV (zs 38)) 35 ∧ Blk wr (B + 1 + 1) #[v] 47 ∧ OW wr (B + 3) wr.heap.size 27 16 v (foldO L (l.take k)).length ((foldO L (l.take k)).flatMap intsV) ∧ Below B w wr ∧ B + 3 ≤ wr.heap.size) (fun i _ => n - (intOf i).toNat)
  case atStart => exact ⟨0, _, by omega, rfl, hBW, hQ, hS, hR, hO, OW.nil _ _ _ _ _ (Nat.le_refl _), hfar, hsz⟩
  case round =>
    clear hBW hQ hS hR hO hfar hsz
    obtain ⟨k, v, hk, rfl, hBW, hQ, hS, hR, hO, hOW, hfar, hsz⟩ := hrel
    by_cases hlt : k < n
    · have hkl : k < l.length := by rw [HN.out]; exact hlt
      obtain ⟨e, he⟩ : ∃ e, l[k] = e := ⟨_, rfl⟩
      have hget : l[k]? = some e := by rw [List.getElem?_eq_getElem hkl, he]
      have hES : ES wr lo hi p cap l := by unfold ES; rw [HN.out]; exact hQ
      obtain ⟨b, o, rfl, hb1, hb2, hr⟩ := hES.get hget
      have hS1 : foldS L (l.take (k + 1)) = stepS (foldS L (l.take k)) e := by rw [List.take_add_one, hget, Option.toList_some, foldS_app]; rfl
      have hO1 : foldO L (l.take (k + 1)) = foldO L (l.take k) ++ stepO (foldS L (l.take k)) e := by rw [List.take_add_one, hget, Option.toList_some, foldO_app, foldO, foldO, List.append_nil]
      have hle := foldO_le L (l.take k)
      rw [List.length_take, HN.out] at hle
      have LS := Len.mk (foldS_len LL.out (l.take k))
      obtain ⟨M, hM⟩ : ∃ M, foldS L (l.take k) = M := ⟨_, rfl⟩
      obtain ⟨Z, hZ⟩ : ∃ Z, foldO L (l.take k) = Z := ⟨_, rfl⟩
      rw [hM] at hS1 hO1 hS LS
      rw [hZ] at hO1 hOW hle
      have HS1 := Lib.hid hS1
      have HO1 := Lib.hid hO1
      clear hM hZ hS1 hO1 hkl he hget hES
      obtain ⟨g, hg⟩ : ∃ g, wr.heap.size = g := ⟨_, rfl⟩
      rw [hg] at hOW
      have hBg : B + 3 ≤ g := by omega
      go_upto_region 6 with (first | (refine ldr 61 rfl (by rfl) w_Entry rfl (by assumption) (by rfl) ?_) | (first | (refine st 61 rfl (by rfl) w_Entry rfl rfl bk_ zz_ zz_ one_ ?_) | (refine ld 61 rfl (by rfl) w_Entry rfl bk_ zz_ ?_) | (refine bd 35 rfl (by rfl) rfl state_zs ?_) | (refine bd 27 rfl (by rfl) rfl block_zs ?_) | (refine ld 35 rfl (by rfl) w_State rfl bk_ lz_ ?_) | (refine ld 27 rfl (by rfl) w_Block rfl bk_ lz_ ?_) | (refine ldp 27 rfl (by rfl) w_Block rfl bk_ ln_ (by omega) ?_) | (refine ld 23 rfl (by rfl) w_Four rfl bk_ lz_ ?_) | (refine ldp 23 rfl (by rfl) w_Four rfl bk_ ln_ (by omega) ?_) | (refine st 35 rfl (by rfl) w_State rfl rfl bk_ lz_ lz_ one_ ?_) | (refine st 27 rfl (by rfl) w_Block rfl rfl bk_ lz_ lz_ one_ ?_) | (refine st 23 rfl (by rfl) w_Four rfl rfl bk_ lz_ lz_ one_ ?_)))
      refine wp_gen (fun W => Blk W (0) (bandC) 132 ∧ SL W (lo) (hi) (3) (some ⟨b, o, none⟩) (n) (cap) (l.flatMap fun e => (entV e).toList) ∧ Blk W (B) (arrV M) 35 ∧ Blk W (B + 1) (arrV (zs 38)) 35 ∧ Blk W (B + 1 + 1) (#[v]) 47 ∧ OW W (B + 3) (g) (27) (16) (v) (Z.length) (Z.flatMap intsV) ∧ Blk W (g) (entV e) 61 ∧ Below (B) w W ∧ g + 1 ≤ W.heap.size) ⟨bk_, sl_, bk_, bk_, bk_, ow_, bk_, bl_, sz_⟩ ?_
      clear hBW hQ hS hR hO hOW hfar hsz
      rintro w2 ⟨hBW, hQ, hS, hR, hO, hOW, hE, hfar, hsz⟩
      go_wp2_with (first | (refine st 61 rfl (by rfl) w_Entry rfl rfl bk_ zz_ zz_ one_ ?_) | (refine ld 61 rfl (by rfl) w_Entry rfl bk_ zz_ ?_) | (refine bd 35 rfl (by rfl) rfl state_zs ?_) | (refine bd 27 rfl (by rfl) rfl block_zs ?_) | (refine ld 35 rfl (by rfl) w_State rfl bk_ lz_ ?_) | (refine ld 27 rfl (by rfl) w_Block rfl bk_ lz_ ?_) | (refine ldp 27 rfl (by rfl) w_Block rfl bk_ ln_ (by omega) ?_) | (refine ld 23 rfl (by rfl) w_Four rfl bk_ lz_ ?_) | (refine ldp 23 rfl (by rfl) w_Four rfl bk_ ln_ (by omega) ?_) | (refine st 35 rfl (by rfl) w_State rfl rfl bk_ lz_ lz_ one_ ?_) | (refine st 27 rfl (by rfl) w_Block rfl rfl bk_ lz_ lz_ one_ ?_) | (refine st 23 rfl (by rfl) w_Four rfl rfl bk_ lz_ lz_ one_ ?_))
      refine (hear_any B (B + 1 + 1) (B + 3) (by omega) (by omega) (by omega) (by omega) (by omega) M LS.out e Z (by omega) v _ hBW hS hO (hOW.up (Nat.le_refl _) (by omega) (Nat.le_refl _)) (by omega)).mono ?_
      rintro r w3 ⟨v2, rfl, hS2, hO2, hOW2, hk2⟩
      have hBW2 := hBW.keep hk2 (by omega)
      have hR2 := hR.keep hk2 (by omega)
      have hQ2 := hQ.keep hk2 (fun k hk => by omega)
      have hf2 : Below B w w3 := hfar.trans (hk2.below (fun k hk => by omega) (by omega))
      have hs2 := hk2.size
      go_wp2_with fail
      go_roundw
      case rel => exact ⟨k + 1, v2, hlt, by go_num, hBW2, hQ2, by rw [HS1.out]; exact hS2, hR2, hO2, by rw [HO1.out]; exact hOW2, hf2, by omega⟩
      case measure => simp [intOf]; omega
    · obtain rfl : k = n := by omega
      have ht : l.take k = l := by rw [← HN.out]; exact List.take_length
      rw [ht] at hS hOW
      have LF := Len.mk (foldS_len LL.out l)
      obtain ⟨M, hM⟩ : ∃ M, foldS L l = M := ⟨_, rfl⟩
      obtain ⟨Z, hZ⟩ : ∃ Z, foldO L l = Z := ⟨_, rfl⟩
      rw [hM] at hS LF
      rw [hZ] at hOW
      have HM := Lib.hid hM
      have HZ := Lib.hid hZ
      clear hM hZ ht
      go_upto_region 8 with (fail)
      have c0 := hO.drew.cell 0
      simp only [List.getElem?_toArray, List.getElem?_cons_zero] at c0
      refine wp_region_held_drew (S := fun W => Blk W (B) (arrV M) 35) (by kernel_rfl) (hS.drew) (fun hH => ?_)
      refine wpAnyH_take (i := 1) (oi := { dst := some 22, op := Op.load 35 (Operand.tmp 2), type := 35, pos := "spec.go:45", after := _, guard := none }) (v := .agg (arrV M)) rfl (by kernel_rfl) (by kernel_rfl) (by kernel_rfl) (fun _ _ _ h => h) (yieldsIf_ld (by rfl) 35 rfl w_State rfl (fun _ hS => hS) zz_) hH ?_
      try simp only [Act.put, List.setIfInBounds_toArray, List.set_cons_zero, List.set_cons_succ]
      refine wpAnyH_ready (rs := [0]) (by kernel_rfl) (by simp) ?_
      refine AllReadyH.cons (o := { dst := some 21, op := Op.load 47 (Operand.tmp 6), type := 47, pos := "spec.go:45", after := _, guard := none }) rfl (fun K hK => ?_) AllReadyH.nil
      rw [if_pos (by rfl)]
      go_simp
      refine hK.out _ _ bk_ (fun hH => ?_)
      clear hK K
      try simp only [Act.put, List.setIfInBounds_toArray, List.set_cons_zero, List.set_cons_succ]
      refine wpAnyH_take (i := 2) (oi := { dst := some 4, op := Op.assign (Operand.tmp 21), type := 47, pos := "spec.go:45", after := _, guard := none }) (v := _) rfl (by kernel_rfl) (by kernel_rfl) (by kernel_rfl) (fun _ _ _ h => h) (.inl ⟨by rfl, fun w hS => by (go_simp; try rfl)⟩) hH ?_
      try simp only [Act.put, List.setIfInBounds_toArray, List.set_cons_zero, List.set_cons_succ]
      refine wpAnyH_ready (rs := [3]) (by kernel_rfl) (by simp) ?_
      refine AllReadyH.cons (o := { dst := none, op := Op.store 35 (Operand.tmp 5) (Operand.tmp 22), type := 0, pos := "spec.go:45", after := _, guard := none }) rfl (fun K hK => ?_) AllReadyH.nil
      rw [if_pos (by rfl)]
      refine wp_st 35 rfl w_State rfl rfl bk_ zz_ zz_ one_ ?_
      refine hK.out _ _ bk_ (fun hH => ?_)
      clear hK K
      try simp only [Act.put]
      refine wpAnyH_done (by kernel_rfl) ?_ _
      go_wp2_with fail
      exact bodyPost_ret (v := .tuple #[v, .agg (arrV M)]) (res_tc Tryz.results17 rfl rfl w_State (by exact bk_) LF.sz) rfl ⟨v, by rw [HM.out], by rw [HZ.out]; exact own_up (own_setRow (own_drew hOW.1) (by omega) _) (by omega), (by (try rw [hB]); exact bl_)⟩
end Go.Proofs.YtmfihaaiddolmaaGreatDoor

namespace Go.Proofs.YtmfihaaiddolmaaGreatDoor
open Go.RowKit

/-- An entry whose numbers are what they may be. -/
def EntOk (e : Ent) : Prop := (-9223372036854775808 ≤ e.kind ∧ e.kind ≤ 9223372036854775807) ∧ (0 ≤ e.stamp ∧ e.stamp ≤ 4294967295) ∧ e.data.size ≤ 9223372036854775807
/-- A slice of entries that came in. -/
def EntIn (W : World) (p : Option Addr) (cap : Nat) (l : List Ent) : Prop :=
  l.length ≤ cap ∧ cap ≤ 9223372036854775807 ∧ ∀ (i : Nat) (e : Ent), l[i]? = some e → ∃ a, p = some a ∧ a.block < W.heap.size ∧ W.cell? (a.add (i * 3)) = some (.int .i64 e.kind) ∧ W.cell? ⟨(a.add (i * 3)).block, (a.add (i * 3)).off + 1, none⟩ = some (.int .u32 e.stamp) ∧ W.cell? ⟨(a.add (i * 3)).block, (a.add (i * 3)).off + 2, none⟩ = some (.string e.data) ∧ EntOk e
theorem addr_block (a : Addr) (n : Nat) : (a.add n).block = a.block := by unfold Addr.add; split <;> rfl
theorem EntIn.below {W W' : World} {p : Option Addr} {cap : Nat} {l : List Ent} (h : EntIn W p cap l) {B : Nat} (hB : B = W.heap.size) (hb : Below B W W') : EntIn W' p cap l := by
  subst hB
  obtain ⟨h1, h2, h3⟩ := h
  refine ⟨h1, h2, fun i e he => ?_⟩
  obtain ⟨a, hp, hl, c0, c1, c2, ho⟩ := h3 i e he
  exact ⟨a, hp, by have := hb.size; omega, (hb.cell (by rw [addr_block]; exact hl)).trans c0, (hb.cell (by simp only [addr_block]; exact hl)).trans c1, (hb.cell (by simp only [addr_block]; exact hl)).trans c2, ho⟩
set_option maxRecDepth 100000 in
set_option maxHeartbeats 1000000 in
theorem Of20_any (e : Ent) (w : World) : Calls Tryz.prog 58 #[.agg (entV e)] w fun r w' => r = .returned (.agg (entV e)) ∧ Below w.heap.size w w' := by
  obtain ⟨k, sp, s⟩ := e
  obtain ⟨B, hB⟩ : ∃ B, w.heap.size = B := ⟨_, rfl⟩
  have hfar := Below.refl B w
  have hsz : B ≤ w.heap.size := by omega
  go_enter Tryz.func58, Tryz.ntmps58
  go_upto_region 1 with (fail)
  refine wp_gen (fun W => Blk W (B) (entV ⟨k, sp, s⟩) 58 ∧ Blk W (B + 1) (#[.int .i64 0, .int .u32 0, .string ⟨#[]⟩]) 61 ∧ Below (B) w W ∧ B + 2 ≤ W.heap.size) ⟨bk_, bk_, bl_, sz_⟩ ?_
  clear hfar hsz
  rintro w1 ⟨hA, hR, hfar, hsz⟩
  have c0 := hA.cell 0
  have c1 := hA.cell 1
  have c2 := hA.cell 2
  simp only [List.getElem?_toArray, List.getElem?_cons_zero, List.getElem?_cons_succ] at c0 c1 c2
  go_wp2_with (first | (refine st 61 rfl (by rfl) w_Entry rfl rfl bk_ zz_ zz_ one_ ?_) | (refine ld 61 rfl (by rfl) w_Entry rfl bk_ zz_ ?_) | (refine bd 35 rfl (by rfl) rfl state_zs ?_) | (refine bd 27 rfl (by rfl) rfl block_zs ?_) | (refine ld 35 rfl (by rfl) w_State rfl bk_ lz_ ?_) | (refine ld 27 rfl (by rfl) w_Block rfl bk_ lz_ ?_) | (refine ldp 27 rfl (by rfl) w_Block rfl bk_ ln_ (by omega) ?_) | (refine ld 23 rfl (by rfl) w_Four rfl bk_ lz_ ?_) | (refine ldp 23 rfl (by rfl) w_Four rfl bk_ ln_ (by omega) ?_) | (refine st 35 rfl (by rfl) w_State rfl rfl bk_ lz_ lz_ one_ ?_) | (refine st 27 rfl (by rfl) w_Block rfl rfl bk_ lz_ lz_ one_ ?_) | (refine st 23 rfl (by rfl) w_Four rfl rfl bk_ lz_ lz_ one_ ?_))
  exact bodyPost_ret (v := .agg (entV ⟨k, sp, s⟩)) (res_c Tryz.results58 rfl w_Entry (by exact bk_) rfl) rfl ⟨rfl, (by (try rw [hB]); exact bl_)⟩
def fewE (l : List Ent) : Bool := (l.take 26).all (fun e => decide (e.data.size ≤ 300)) && decide (l.length ≤ 25)
theorem fewE_no {l : List Ent} {k : Nat} {e : Ent} (he : l[k]? = some e) (hk : k ≤ 25) (h : ¬ e.data.size ≤ 300) : fewE l = false := by
  unfold fewE
  rw [Bool.and_eq_false_iff]
  left
  rw [List.all_eq_false]
  refine ⟨e, List.mem_of_getElem? (i := k) ?_, by simpa using h⟩
  rw [List.getElem?_take, if_pos (by omega)]; exact he
set_option maxRecDepth 100000 in
set_option maxHeartbeats 1000000 in
theorem few_any (l : List Ent) (p : Option Addr) (cap : Nat) (w : World) (hE : EntIn w p cap l) : Calls Tryz.prog 15 #[.slice p l.length cap] w fun r w' => r = .returned (.bool (fewE l)) ∧ w = w' := by
  obtain ⟨h1, h2, h3⟩ := hE
  obtain ⟨R, hR⟩ : ∃ R, fewE l = R := ⟨_, rfl⟩
  rw [hR]
  have HR := Lib.hid hR
  have HE := Lib.hid h3
  obtain ⟨n, hn⟩ : ∃ n, l.length = n := ⟨_, rfl⟩
  have HN := Lib.hid hn
  rw [hn] at h1 ⊢
  clear hR h3 hn
  go_enter Tryz.func15, Tryz.ntmps15
  go_wp2
  go_loop [3] (fun i => ∃ k : Nat, k ≤ n ∧ k ≤ 26 ∧ i = .int .i64 k ∧ Hid ((l.take k).all (fun e => decide (e.data.size ≤ 300)) = true)) (fun i => 26 - (intOf i).toNat)
  case atStart => exact ⟨0, by omega, by omega, rfl, Lib.hid (by simp)⟩
  case round =>
    obtain ⟨k, hk, hk26, rfl, HA⟩ := hrel
    by_cases hlt : k < n
    · by_cases h25 : k ≤ 25
      · have hkl : k < l.length := by rw [HN.out]; exact hlt
        obtain ⟨e, he⟩ : ∃ e, l[k]? = some e := ⟨_, List.getElem?_eq_getElem hkl⟩
        obtain ⟨a, rfl, hab, c0, c1, c2, ho⟩ := HE.out k e he
        have HGE := Lib.hid he
        clear he c0 c1 hkl
        by_cases h300 : e.data.size ≤ 300
        · have h3 : (e.data.size : Int) ≤ 300 := by omega
          have h3' : ¬ (300 : Int) < e.data.size := by omega
          go_wp2
          go_round
          case rel => exact ⟨k + 1, by omega, by omega, by go_num, Lib.hid (by rw [List.take_add_one, HGE.out, Option.toList_some, List.all_append, HA.out]; simp [h300])⟩
          case measure => simp [intOf]; omega
        · have h3' : (300 : Int) < e.data.size := by omega
          have hr : R = false := by rw [← HR.out]; exact fewE_no HGE.out h25 h300
          subst hr
          go_wp2
          go_ret
          exact ⟨rfl, rfl⟩
      · obtain rfl : k = 26 := by omega
        have hr : R = false := by rw [← HR.out]; unfold fewE; rw [HN.out]; simp; omega
        have h26 : ¬ (n : Int) ≤ 25 := by omega
        subst hr
        go_wp2
        go_ret
        exact ⟨rfl, rfl⟩
    · obtain rfl : k = n := by omega
      have ht : l.take k = l := by rw [← HN.out]; exact List.take_length
      have hr : R = decide (k ≤ 25) := by
        rw [← HR.out]; unfold fewE
        rw [HN.out]
        by_cases h : k ≤ 25
        · have e26 : l.take 26 = l := List.take_of_length_le (by rw [HN.out]; omega)
          rw [e26]
          have := HA.out
          rw [ht] at this
          rw [this]; simp
        · simp [h]
      subst hr
      go_wp2
      go_ret
      exact ⟨retBool (by rw [decide_eq_decide]; omega), rfl⟩
theorem flatE_one (l : List Ent) : ∀ u ∈ l.flatMap (fun e => (entV e).toList), u.oneCell' = true := by
  intro u hu
  obtain ⟨b, _, hb⟩ := List.mem_flatMap.1 hu
  simp only [List.mem_cons, List.not_mem_nil, or_false] at hb
  rcases hb with rfl | rfl | rfl <;> rfl
/-- A result that is a slice of entries. -/
def RetES (w : World) (l : List Ent) (e : Ending) (w' : World) : Prop :=
  ∃ v, e = .returned v ∧ OW w' w.heap.size w'.heap.size 61 3 v l.length (l.flatMap fun e => (entV e).toList) ∧ Below w.heap.size w w'
set_option maxRecDepth 100000 in
set_option maxHeartbeats 4000000 in
theorem Of21_any (l : List Ent) (hl : l.length ≤ 1000) (p : Option Addr) (cap : Nat) (w : World) (hE : EntIn w p cap l) : Calls Tryz.prog 16 #[.slice p l.length cap] w (RetES w l) := by
  obtain ⟨i0, hi, hz0, hz1, hz2⟩ := info_parts info_Entry
  obtain ⟨n, hn⟩ : ∃ n, l.length = n := ⟨_, rfl⟩
  have HN := Lib.hid hn
  have hc1 := hE.1
  have hc2 := hE.2.1
  rw [hn] at hl hc1 ⊢
  obtain ⟨B, hB⟩ : ∃ B, w.heap.size = B := ⟨_, rfl⟩
  have HE := Lib.hid hE
  clear hE hn
  go_enter Tryz.func16, Tryz.ntmps16
  go_wp2
  go_loopw [3, 4] (fun v i wr => ∃ k : Nat, k ≤ n ∧ i = .int .i64 k ∧ OW wr B wr.heap.size 61 3 v k ((l.take k).flatMap fun e => (entV e).toList) ∧ Below B w wr ∧ B ≤ wr.heap.size) (fun _ i _ => n - (intOf i).toNat)
  case atStart => exact ⟨0, by omega, rfl, OW.nil _ _ _ _ _ (Nat.le_refl _), Below.refl _ _, by omega⟩
  case round =>
    obtain ⟨k, hk, rfl, hR, hfar, hsz⟩ := hrel
    by_cases hlt : k < n
    · have hkl : k < l.length := by rw [HN.out]; exact hlt
      obtain ⟨e, he⟩ : ∃ e, l[k]? = some e := ⟨_, List.getElem?_eq_getElem hkl⟩
      obtain ⟨a, rfl, hab, c0, c1, c2, ho⟩ := (HE.out.below hB.symm hfar).2.2 k e he
      have HGE := Lib.hid he
      clear he hkl
      go_wp2_with fail
      refine (Of20_any e _).mono ?_
      rintro r w2 ⟨rfl, hb2⟩
      have hR2 := hR.newB hb2
      have hf2 := hfar.trans (hb2.mono hsz)
      have hs2 : B ≤ w2.heap.size := by have := hb2.size; omega
      clear hR hfar hsz hb2 c0 c1 c2
      have hN : Blk (w2.alloc (.cells (entV e) 61)) w2.heap.size (entV e) 61 := Blk.newAt rfl
      have hRa := hR2.alloc (.cells (entV e) 61)
      have hsl := SL.blk hN (n := 1) (size := 3) rfl (by unfold maxLen; omega)
      have hvb : ∀ j, u3.ownBlock = some j → B ≤ j := fun j hj => (World.ownsRow.lt hR2.1 j hj).1
      have HVB := Lib.hid hvb
      clear hvb
      go_wp2_with (first | (refine bs1 45 rfl (by rfl) rfl Tryz.underlying45 el_Entry (by omega) (by omega) (by rfl) ?_) | (refine ap 45 rfl (by rfl) rfl B 61 i0 (.agg #[.int .i64 0, .int .u32 0, .string ⟨#[]⟩]) 3 32 Tryz.underlying45 hi hz0 hz1 hz2 rfl (by omega) rfl hRa.1 rfl hsl (fun u hu => flatE_one [e] u (by simpa using hu)) (by unfold maxLen; omega) (by omega) (by rw [World.size_alloc]; omega) ?_; intro v' w3 hown hgr _))
      have hf3 : Below B w w3 := (hf2.alloc hs2 _).grown hgr (by rw [World.size_alloc]; omega) (fun j hj => HVB.out j hj)
      have hs3 := hgr.size
      rw [World.size_alloc] at hs3
      go_roundw
      case rel => exact ⟨k + 1, hlt, by go_num, by rw [List.take_add_one, HGE.out, Option.toList_some, List.flatMap_append, List.flatMap_singleton]; exact OW.mk0 hown, hf3, by omega⟩
      case measure => simp [intOf]; omega
    · obtain rfl : k = n := by omega
      have ht : l.take k = l := by rw [← HN.out]; exact List.take_length
      rw [ht] at hR
      go_wp2_with fail
      go_ret
      exact ⟨u3, rfl, by rw [hB, HN.out]; exact hR, by rw [hB]; exact hfar⟩
theorem yieldsIf_neq {ops : Array Oper} {S : World → Prop} {op : Oper} {a : Act} (hw : Region.wanted op (yielded ops a.tmps) = true) (t : TypeId) {t2 : TypeId} {x y : Operand} (ho : op.op = .binOp .neq t x y t2)
    {xs ys : Array Value} (hx : a.eval x = .agg xs) (hy : a.eval y = .agg ys) (hg : Tryz.prog.eqGuardType Tryz.prog.depth t = false) {b : Bool} (he : ∀ w, (Op.equalIn 10000 t (.agg xs) (.agg ys)).run Tryz.prog w = .ok b w) : YieldsIf Tryz.prog ops S op (.bool (!b)) a :=
  .inl ⟨hw, fun w _ => by
    unfold execOp
    simp only [ho, hx, hy, Sem.run_bind, run_eqGuard_agg w .neq t x y xs ys hg, Result.andThen_ok, run_neq_struct, he]
    rfl⟩
theorem yieldsIf_eql {ops : Array Oper} {S : World → Prop} {op : Oper} {a : Act} (hw : Region.wanted op (yielded ops a.tmps) = true) (t : TypeId) {t2 : TypeId} {x y : Operand} (ho : op.op = .binOp .eql t x y t2)
    {xs ys : Array Value} (hx : a.eval x = .agg xs) (hy : a.eval y = .agg ys) (hg : Tryz.prog.eqGuardType Tryz.prog.depth t = false) {b : Bool} (he : ∀ w, (Op.equalIn 10000 t (.agg xs) (.agg ys)).run Tryz.prog w = .ok b w) : YieldsIf Tryz.prog ops S op (.bool b) a :=
  .inl ⟨hw, fun w _ => by
    unfold execOp
    simp only [ho, hx, hy, Sem.run_bind, run_eqGuard_agg w .eql t x y xs ys hg, Result.andThen_ok, run_eql_struct, he]
    rfl⟩
theorem eg_Block : Tryz.prog.eqGuardType Tryz.prog.depth 27 = false := by kernel_rfl
theorem eg_State : Tryz.prog.eqGuardType Tryz.prog.depth 35 = false := by kernel_rfl
theorem eq_block_self {b : List Int} (h : b.length = 16) (w : World) : (Op.equalIn 10000 27 (.agg (arrV b)) (.agg (arrV b))).run Tryz.prog w = .ok true w := by
  have := eq_block b b h h w
  rwa [beq_self_eq_true] at this
/-- A slice of blocks that is read. -/
def BS (W : World) (lo hi : Nat) (p : Option Addr) (cap : Nat) (A : List (List Int)) : Prop := SL W lo hi 16 p A.length cap (A.flatMap intsV)
theorem BS.get {W : World} {lo hi : Nat} {p : Option Addr} {cap : Nat} {A : List (List Int)} (h : BS W lo hi p cap A) (hA : ∀ b ∈ A, b.length = 16) {i : Nat} {b : List Int} (he : A[i]? = some b) : ∃ g o, p = some ⟨g, o, none⟩ ∧ lo ≤ g ∧ g < hi ∧ W.rangeAt g (o + i * 16) (intsV b) := by
  have hi : i < A.length := (List.getElem?_eq_some_iff.1 he).1
  obtain ⟨g, o, hp, h1, h2, h3⟩ := h.form (by omega)
  refine ⟨g, o, hp, h1, h2, fun j u hu => ?_⟩
  have hb := hA b (List.mem_of_getElem? he)
  have hj : j < 16 := by have := (List.getElem?_eq_some_iff.1 hu).1; rw [List.length_map, hb] at this; exact this
  rw [Nat.add_assoc]
  exact h3 _ u ((flat_get _ A (fun b hb => by rw [List.length_map]; exact hA b hb) he hj).trans hu)
theorem range_below {W W' : World} {g o n : Nat} {cs : List Value} (h : W.rangeAt g o cs) (hb : Below n W W') (hg : g < n) : W'.rangeAt g o cs := fun j v hv => (hb.cell (p := ⟨g, o + j, none⟩) hg).trans (h j v hv)
end Go.Proofs.YtmfihaaiddolmaaGreatDoor

namespace Go.Proofs.YtmfihaaiddolmaaGreatDoor
open Go.RowKit

def gapE (sp : Int) : Ent := ⟨2, sp, ⟨#[]⟩⟩
set_option maxRecDepth 100000 in
set_option maxHeartbeats 1000000 in
theorem EGap_any (sp : Int) (w : World) : Calls Tryz.prog 26 #[.int .u32 sp] w fun r w' => r = .returned (.agg (entV (gapE sp))) ∧ Below w.heap.size w w' := by
  obtain ⟨B, hB⟩ : ∃ B, w.heap.size = B := ⟨_, rfl⟩
  have hfar := Below.refl B w
  have hsz : B ≤ w.heap.size := by omega
  go_enter Tryz.func26, Tryz.ntmps26
  go_upto_region 1 with (fail)
  refine wp_gen (fun W => Blk W (B) (#[.int .i64 0, .int .u32 0, .string ⟨#[]⟩]) 61 ∧ Below (B) w W ∧ B + 1 ≤ W.heap.size) ⟨bk_, bl_, sz_⟩ ?_
  clear hfar hsz
  rintro w1 ⟨hR, hfar, hsz⟩
  go_wp2_with (first | (refine st 61 rfl (by rfl) w_Entry rfl rfl bk_ zz_ zz_ one_ ?_) | (refine ld 61 rfl (by rfl) w_Entry rfl bk_ zz_ ?_) | (refine bd 35 rfl (by rfl) rfl state_zs ?_) | (refine bd 27 rfl (by rfl) rfl block_zs ?_) | (refine ld 35 rfl (by rfl) w_State rfl bk_ lz_ ?_) | (refine ld 27 rfl (by rfl) w_Block rfl bk_ lz_ ?_) | (refine ldp 27 rfl (by rfl) w_Block rfl bk_ ln_ (by omega) ?_) | (refine ld 23 rfl (by rfl) w_Four rfl bk_ lz_ ?_) | (refine ldp 23 rfl (by rfl) w_Four rfl bk_ ln_ (by omega) ?_) | (refine st 35 rfl (by rfl) w_State rfl rfl bk_ lz_ lz_ one_ ?_) | (refine st 27 rfl (by rfl) w_Block rfl rfl bk_ lz_ lz_ one_ ?_) | (refine st 23 rfl (by rfl) w_Four rfl rfl bk_ lz_ lz_ one_ ?_))
  exact bodyPost_ret (v := .agg #[.int .i64 2, .int .u32 sp, .string ⟨#[]⟩]) (res_c Tryz.results26 rfl w_Entry (by exact bk_) rfl) rfl ⟨rfl, (by (try rw [hB]); exact bl_)⟩
def L7 : List Int := List.replicate 16 0 ++ [7] ++ List.replicate 21 0
theorem L7_built : Tryz.prog.built 35 [(1, .int .i64 7)] = some (arrV L7) := by kernel_rfl
theorem L7_right : rightS L7 = true := by decide +kernel
theorem L7_len : L7.length = 38 := rfl
theorem gapE_right (sp : Int) : rightE (gapE sp) = true := rfl
theorem gap_step {L : List Int} (h : rightS L = true) (sp : Int) : stepO L (gapE sp) = [loseO L] ∧ stepS L (gapE sp) = List.replicate 38 0 := by
  unfold stepO stepS
  rw [gapE_right, h]
  exact ⟨rfl, rfl⟩
theorem SL.of_blk {W : World} {b size n : Nat} {cs : Array Value} {t : TypeId} (h : Blk W b cs t) (hs : cs.size = n * size) (hn : n ≤ maxLen) : SL W b (b + 1) size (some ⟨b, 0, none⟩) n n cs.toList := SL.blk h hs hn
theorem eq_state_self {L : List Int} (h : Len L 38) (w : World) : (Op.equalIn 10000 35 (.agg (arrV L)) (.agg (arrV L))).run Tryz.prog w = .ok true w := eq_state L h.out w
set_option maxRecDepth 100000 in
set_option maxHeartbeats 2000000 in
theorem awake_any (w : World) (hW : BandsW w) : Calls Tryz.prog 14 #[] w fun r w' => r = .returned (.bool true) ∧ Below w.heap.size w w' := by
  have hBW : Blk w 0 bandC 132 := hW
  have hB0 := hW.lt
  have hf0 := fun w hW hE => Fold_any L7 L7_len [] (by simp) none 0 w.heap.size 0 w hW hE
  have hf1 := fun lo hi p c w hW hE => Fold_any L7 L7_len [gapE 1] (by simp) p lo hi c w hW hE
  have g1 := gap_step L7_right 1
  have e1 : foldO L7 [gapE 1] = [loseO L7] := by show stepO L7 (gapE 1) ++ [] = _; rw [g1.1]; rfl
  have e2 : foldS L7 [gapE 1] = zs 38 := g1.2
  have e0 : foldO L7 [] = [] := rfl
  simp only [e0, foldS_nil, List.length_nil] at hf0
  simp only [e1, e2, List.length_singleton] at hf1
  have HF0 := Lib.hid hf0
  have HF1 := Lib.hid hf1
  have L7l := Len.mk L7_len
  have l7g : L7.getD 16 0 = 7 := rfl
  obtain ⟨M, hM⟩ : ∃ M, L7 = M := ⟨_, rfl⟩
  have hbu := L7_built
  rw [hM] at HF0 HF1 L7l l7g hbu
  have HBU := Lib.hid hbu
  clear hf0 hf1 g1 e0 e1 e2 hM hW hbu
  obtain ⟨B, hB⟩ : ∃ B, w.heap.size = B := ⟨_, rfl⟩
  rw [hB] at hB0
  have hfar := Below.refl B w
  have hsz : B ≤ w.heap.size := by omega
  go_enter Tryz.func14, Tryz.ntmps14
  go_wp2_with (first | (refine bd 35 rfl (by rfl) rfl HBU.out ?_))
  refine (HF0.out _ hBW (SL.nil _ _ _ _ (Nat.le_refl _))).mono ?_
  rintro r w1 ⟨v1, rfl, hv1, hb1⟩
  replace hBW := hBW.newB hb1
  replace hfar := hfar.trans (hb1.mono (by omega))
  replace hsz := Nat.le_trans hsz hb1.size
  obtain ⟨p1, c1, rfl, hs1⟩ := SL.own hv1
  clear hv1 hs1
  obtain ⟨g, hg⟩ : ∃ g, w1.heap.size = g := ⟨_, rfl⟩
  have hBg : B ≤ g := by omega
  go_upto_region 2 with (first | (refine st 61 rfl (by rfl) w_Entry rfl rfl bk_ zz_ zz_ one_ ?_) | (refine ld 61 rfl (by rfl) w_Entry rfl bk_ zz_ ?_) | (refine bd 35 rfl (by rfl) rfl state_zs ?_) | (refine bd 27 rfl (by rfl) rfl block_zs ?_) | (refine ld 35 rfl (by rfl) w_State rfl bk_ lz_ ?_) | (refine ld 27 rfl (by rfl) w_Block rfl bk_ lz_ ?_) | (refine ldp 27 rfl (by rfl) w_Block rfl bk_ ln_ (by omega) ?_) | (refine ld 23 rfl (by rfl) w_Four rfl bk_ lz_ ?_) | (refine ldp 23 rfl (by rfl) w_Four rfl bk_ ln_ (by omega) ?_) | (refine st 35 rfl (by rfl) w_State rfl rfl bk_ lz_ lz_ one_ ?_) | (refine st 27 rfl (by rfl) w_Block rfl rfl bk_ lz_ lz_ one_ ?_) | (refine st 23 rfl (by rfl) w_Four rfl rfl bk_ lz_ lz_ one_ ?_))
  refine wp_gen (fun W => Blk W (0) (bandC) 132 ∧ Blk W (g) (arrV M) 35 ∧ Below (B) w W ∧ g + 1 ≤ W.heap.size) ⟨bk_, bk_, bl_, sz_⟩ ?_
  clear hBW hfar hsz
  rintro w2 ⟨hBW, hS, hfar, hsz⟩
  go_wp2_with (first | (refine bd 35 rfl (by rfl) rfl HBU.out ?_))
  refine (EGap_any 1 _).mono ?_
  rintro e w3 ⟨rfl, hb3⟩
  replace hBW := hBW.newB hb3
  replace hS := hS.newB hb3
  replace hfar := hfar.trans (hb3.mono (by omega))
  replace hsz := Nat.le_trans hsz hb3.size
  obtain ⟨g3, hs_g3⟩ : ∃ g, w3.heap.size = g := ⟨_, rfl⟩
  have hk_g3 : g + 1 ≤ g3 := by omega
  have hes : ∀ (W : World) (g : Nat), W.heap.size = g → ES (W.alloc (.cells (entV (gapE 1)) 61)) g (g + 1) (some ⟨g, 0, none⟩) 1 [gapE 1] := fun W g hg => SL.of_blk (Blk.newAt hg.symm) (n := 1) (size := 3) rfl (by unfold maxLen; omega)
  have HES := Lib.hid hes
  clear hes
  go_wp2_with (first | (refine bs1 45 rfl (by rfl) rfl Tryz.underlying45 el_Entry (by omega) (by omega) (by rfl) ?_))
  refine (HF1.out _ _ _ _ _ (hBW.alloc _) (HES.out _ g3 hs_g3)).mono ?_
  rintro r w4 ⟨v4, rfl, hv4, hb4⟩
  replace hfar : Below B w w4 := (hfar.alloc (by omega) _).trans (hb4.mono (by rw [World.size_alloc]; omega))
  replace hS := (hS.alloc (.cells (entV (gapE 1)) 61)).newB hb4
  have hs4 := hb4.size
  rw [World.size_alloc] at hs4
  replace hsz : g + 1 ≤ w4.heap.size := by omega
  clear hBW
  obtain ⟨p4, c4, rfl, hs4⟩ := SL.own hv4
  clear hv4 hs4
  obtain ⟨g4, hg4⟩ : ∃ g, w4.heap.size = g := ⟨_, rfl⟩
  have hBg4 : g + 1 ≤ g4 := by omega
  go_upto_region 3 with (first | (refine st 61 rfl (by rfl) w_Entry rfl rfl bk_ zz_ zz_ one_ ?_) | (refine ld 61 rfl (by rfl) w_Entry rfl bk_ zz_ ?_) | (refine bd 35 rfl (by rfl) rfl state_zs ?_) | (refine bd 27 rfl (by rfl) rfl block_zs ?_) | (refine ld 35 rfl (by rfl) w_State rfl bk_ lz_ ?_) | (refine ld 27 rfl (by rfl) w_Block rfl bk_ lz_ ?_) | (refine ldp 27 rfl (by rfl) w_Block rfl bk_ ln_ (by omega) ?_) | (refine ld 23 rfl (by rfl) w_Four rfl bk_ lz_ ?_) | (refine ldp 23 rfl (by rfl) w_Four rfl bk_ ln_ (by omega) ?_) | (refine st 35 rfl (by rfl) w_State rfl rfl bk_ lz_ lz_ one_ ?_) | (refine st 27 rfl (by rfl) w_Block rfl rfl bk_ lz_ lz_ one_ ?_) | (refine st 23 rfl (by rfl) w_Four rfl rfl bk_ lz_ lz_ one_ ?_))
  refine wp_gen (fun W => Blk W (g) (arrV M) 35 ∧ Blk W (g4) (arrV (zs 38)) 35 ∧ Below (B) w W ∧ g4 + 1 ≤ W.heap.size) ⟨bk_, bk_, bl_, sz_⟩ ?_
  clear hS hfar hsz
  rintro w5 ⟨hS, hT, hfar, hsz⟩
  have c16 := (hS.cell 16).trans (arr_get (l := M) (by rw [L7l.out]; omega))
  rw [l7g] at c16
  go_wp2_with (first | (refine eqw 35 rfl (by rfl) rfl rfl eg_State (eq_state_self (Len.zs 38)) ?_) | (first | (refine st 61 rfl (by rfl) w_Entry rfl rfl bk_ zz_ zz_ one_ ?_) | (refine ld 61 rfl (by rfl) w_Entry rfl bk_ zz_ ?_) | (refine bd 35 rfl (by rfl) rfl state_zs ?_) | (refine bd 27 rfl (by rfl) rfl block_zs ?_) | (refine ld 35 rfl (by rfl) w_State rfl bk_ lz_ ?_) | (refine ld 27 rfl (by rfl) w_Block rfl bk_ lz_ ?_) | (refine ldp 27 rfl (by rfl) w_Block rfl bk_ ln_ (by omega) ?_) | (refine ld 23 rfl (by rfl) w_Four rfl bk_ lz_ ?_) | (refine ldp 23 rfl (by rfl) w_Four rfl bk_ ln_ (by omega) ?_) | (refine st 35 rfl (by rfl) w_State rfl rfl bk_ lz_ lz_ one_ ?_) | (refine st 27 rfl (by rfl) w_Block rfl rfl bk_ lz_ lz_ one_ ?_) | (refine st 23 rfl (by rfl) w_Four rfl rfl bk_ lz_ lz_ one_ ?_)))
  go_ret
  exact ⟨rfl, (by (try rw [hB]); exact bl_)⟩
end Go.Proofs.YtmfihaaiddolmaaGreatDoor

namespace Go.Proofs.YtmfihaaiddolmaaGreatDoor
open Go.RowKit

abbrev flE (l : List Ent) : List Value := l.flatMap fun e => (entV e).toList
set_option maxRecDepth 100000 in
set_option maxHeartbeats 4000000 in
theorem Sounds_any {l : List Ent} {n : Nat} (hn : l.length = n) (hl : n ≤ 1000) {p : Option Addr} {lo hi cap : Nat} {w : World} (hE : SL w lo hi 3 p n cap (flE l)) :
    Calls Tryz.prog 21 #[.slice p n cap] w fun r w' => r = .returned (.int .i64 (soundsE l : Nat)) ∧ Below w.heap.size w w' := by
  have hhi := hE.2.2.2.1
  have hcap := hE.2.1
  have hcm := hE.2.2.1
  unfold maxLen at hcm
  have hQ := hE
  have HN := Lib.hid hn
  clear hn hE
  obtain ⟨B, hB⟩ : ∃ B, w.heap.size = B := ⟨_, rfl⟩
  rw [hB] at hhi
  have hfar := Below.refl B w
  have hsz : B ≤ w.heap.size := by omega
  go_enter Tryz.func21, Tryz.ntmps21
  go_wp2_with fail
  go_loopw [3, 8] (fun c i wr => ∃ (k : Nat), k ≤ n ∧ i = .int .i64 k ∧ c = .int .i64 (soundsE (l.take k) : Nat) ∧ SL wr lo hi 3 p n cap (flE l) ∧ Below B w wr ∧ B ≤ wr.heap.size) (fun _ i _ => n - (intOf i).toNat)
  case atStart => exact ⟨0, by omega, rfl, rfl, hQ, hfar, hsz⟩
  case round =>
    clear hQ hfar hsz
    obtain ⟨k, hk, rfl, rfl, hQ, hfar, hsz⟩ := hrel
    by_cases hlt : k < n
    · have hkl : k < l.length := by rw [HN.out]; exact hlt
      obtain ⟨e, he⟩ : ∃ e, l[k] = e := ⟨_, rfl⟩
      have hget : l[k]? = some e := by rw [List.getElem?_eq_getElem hkl, he]
      have hES : ES wr lo hi p cap l := by unfold ES; rw [HN.out]; exact hQ
      obtain ⟨b, o, rfl, hb1, hb2, hr⟩ := hES.get hget
      have hS1 : soundsE (l.take (k + 1)) = soundsE (l.take k) + (if heardE e then 1 else 0) := by
        rw [List.take_add_one, hget, Option.toList_some, soundsE_app, soundsE_cons]; simp [soundsE]
      have hSl : soundsE (l.take k) ≤ k := by
        have := List.length_filter_le heardE (l.take k)
        rw [List.length_take] at this
        show (List.filter heardE (l.take k)).length ≤ k
        omega
      obtain ⟨c, hc⟩ : ∃ c, soundsE (l.take k) = c := ⟨_, rfl⟩
      rw [hc] at hS1 hSl
      rw [hc]
      have HS1 := Lib.hid hS1
      clear hc hS1 hkl he hget hES
      obtain ⟨g, hg⟩ : ∃ g, wr.heap.size = g := ⟨_, rfl⟩
      have hBg : B ≤ g := by omega
      go_upto_region 5 with (first | (refine ldr 61 rfl (by rfl) w_Entry rfl (by assumption) (by rfl) ?_) | (first | (refine st 61 rfl (by rfl) w_Entry rfl rfl bk_ zz_ zz_ one_ ?_) | (refine ld 61 rfl (by rfl) w_Entry rfl bk_ zz_ ?_) | (refine bd 35 rfl (by rfl) rfl state_zs ?_) | (refine bd 27 rfl (by rfl) rfl block_zs ?_) | (refine ld 35 rfl (by rfl) w_State rfl bk_ lz_ ?_) | (refine ld 27 rfl (by rfl) w_Block rfl bk_ lz_ ?_) | (refine ldp 27 rfl (by rfl) w_Block rfl bk_ ln_ (by omega) ?_) | (refine ld 23 rfl (by rfl) w_Four rfl bk_ lz_ ?_) | (refine ldp 23 rfl (by rfl) w_Four rfl bk_ ln_ (by omega) ?_) | (refine st 35 rfl (by rfl) w_State rfl rfl bk_ lz_ lz_ one_ ?_) | (refine st 27 rfl (by rfl) w_Block rfl rfl bk_ lz_ lz_ one_ ?_) | (refine st 23 rfl (by rfl) w_Four rfl rfl bk_ lz_ lz_ one_ ?_)))
      refine wp_gen (fun W => SL W (lo) (hi) (3) (some ⟨b, o, none⟩) (n) (cap) (flE l) ∧ Blk W (g) (entV e) 61 ∧ Below (B) w W ∧ g + 1 ≤ W.heap.size) ⟨sl_, bk_, bl_, sz_⟩ ?_
      clear hQ hfar hsz
      rintro w2 ⟨hQ, hE, hfar, hsz⟩
      go_wp2_with (first | (refine st 61 rfl (by rfl) w_Entry rfl rfl bk_ zz_ zz_ one_ ?_) | (refine ld 61 rfl (by rfl) w_Entry rfl bk_ zz_ ?_) | (refine bd 35 rfl (by rfl) rfl state_zs ?_) | (refine bd 27 rfl (by rfl) rfl block_zs ?_) | (refine ld 35 rfl (by rfl) w_State rfl bk_ lz_ ?_) | (refine ld 27 rfl (by rfl) w_Block rfl bk_ lz_ ?_) | (refine ldp 27 rfl (by rfl) w_Block rfl bk_ ln_ (by omega) ?_) | (refine ld 23 rfl (by rfl) w_Four rfl bk_ lz_ ?_) | (refine ldp 23 rfl (by rfl) w_Four rfl bk_ ln_ (by omega) ?_) | (refine st 35 rfl (by rfl) w_State rfl rfl bk_ lz_ lz_ one_ ?_) | (refine st 27 rfl (by rfl) w_Block rfl rfl bk_ lz_ lz_ one_ ?_) | (refine st 23 rfl (by rfl) w_Four rfl rfl bk_ lz_ lz_ one_ ?_))
      refine (ERight_any e _).mono ?_
      rintro e w3 ⟨rfl, hb3⟩
      replace hQ := hQ.newB hb3
      replace hE := hE.newB hb3
      replace hfar := hfar.trans (hb3.mono (by omega))
      replace hsz := Nat.le_trans hsz hb3.size
      have c0 := hE.cell 0
      simp only [List.getElem?_toArray, List.getElem?_cons_zero] at c0
      cases hr2 : rightE e with
      | false =>
        have h1 : soundsE (l.take (k + 1)) = c := by rw [HS1.out]; unfold heardE; rw [hr2]; rfl
        have H1 := Lib.hid h1
        clear h1
        go_wp2_with fail
        go_roundw
        case rel => exact ⟨k + 1, hlt, by go_num, by rw [H1.out], hQ, hfar, by omega⟩
        case measure => simp [intOf]; omega
      | true =>
        by_cases h3 : e.kind = 3
        · have h1 : soundsE (l.take (k + 1)) = c := by rw [HS1.out]; unfold heardE; rw [h3]; simp
          have H1 := Lib.hid h1
          rw [h3] at c0
          clear h1 h3
          go_wp2_with fail
          go_roundw
          case rel => exact ⟨k + 1, hlt, by go_num, by rw [H1.out], hQ, hfar, by omega⟩
          case measure => simp [intOf]; omega
        · have h1 : soundsE (l.take (k + 1)) = c + 1 := by rw [HS1.out]; unfold heardE; rw [hr2]; simp [h3]
          have H1 := Lib.hid h1
          have q3 : (e.kind == 3) = false := by simpa using h3
          have q4 : (e.kind != 3) = true := by simpa using h3
          clear h1 h3
          go_wp2_with fail
          go_roundw
          case rel => exact ⟨k + 1, hlt, by go_num, by rw [H1.out]; go_num, hQ, hfar, by omega⟩
          case measure => simp [intOf]; omega
    · obtain rfl : k = n := by omega
      have ht : l.take k = l := by rw [← HN.out]; exact List.take_length
      rw [ht]
      go_wp2_with fail
      go_ret
      exact ⟨rfl, by rw [hB]; exact hfar⟩
end Go.Proofs.YtmfihaaiddolmaaGreatDoor

namespace Go.Proofs.YtmfihaaiddolmaaGreatDoor
open Go.RowKit

theorem sixteenInfo : (Tryz.prog.info? 22).map (·.size) = some 16 := by kernel_rfl
set_option maxHeartbeats 1600000 in
theorem RHeld_any (l : List Int) (hl : l.length = 16) (w : World) : Calls Tryz.prog 42 #[.agg (arrV l)] w fun e w' => e = .returned (.bool (!l.any wideP)) ∧ Below w.heap.size w w' := by
  have hX := Blk.new w (arrV l) 22
  have hb1 : Below w.heap.size w (w.alloc (.cells (arrV l) 22)) := (Below.refl _ _).alloc (Nat.le_refl _) _
  obtain ⟨B, hB⟩ : ∃ B, w.heap.size = B := ⟨_, rfl⟩
  rw [hB] at hX hb1
  have hyes : ∀ (k : Nat) (x : Int), l[k]? = some x → wideP x = true → l.any wideP = true := fun k x hx h => List.any_eq_true.2 ⟨x, List.mem_of_getElem? hx, h⟩
  have HY := Lib.hid hyes
  clear hyes
  go_enter Tryz.func42, Tryz.ntmps42
  go_upto_region 1 with (fail)
  try simp only [hB]
  generalize (w.alloc (.cells (arrV l) 22)) = w0 at hX hb1 ⊢
  go_wp2_with fail
  go_loop [3] (fun i => ∃ k : Nat, k ≤ 16 ∧ i = .int .i64 k ∧ Hid ((l.take k).any wideP = false)) (fun i => 16 - (intOf i).toNat)
  case atStart => exact ⟨0, by omega, rfl, Lib.hid rfl⟩
  case round =>
    obtain ⟨k, hk, rfl, HA⟩ := hrel
    by_cases hlt : k < 16
    · have hx : l[k]? = some (l.getD k 0) := by rw [List.getD_eq_getElem?_getD, List.getElem?_eq_getElem (by omega)]; rfl
      have c1 := (hX.cell k).trans (arr_get (by rw [hl]; exact hlt))
      obtain ⟨x, hxe⟩ : ∃ x, l.getD k 0 = x := ⟨_, rfl⟩
      rw [hxe] at c1 hx
      have HX := Lib.hid hx
      clear hx hxe
      by_cases h1 : x < -1048576
      · have HNO := Lib.hid (HY.out k x HX.out (by simp [wideP, h1]))
        go_wp2_with fail
        go_ret
        exact ⟨by rw [HNO.out]; rfl, by first | exact hb1 | (rw [hB]; exact hb1)⟩
      by_cases h2 : 1048576 < x
      · have HNO := Lib.hid (HY.out k x HX.out (by simp [wideP, h2]))
        go_wp2_with fail
        go_ret
        exact ⟨by rw [HNO.out]; rfl, by first | exact hb1 | (rw [hB]; exact hb1)⟩
      go_wp2_with fail
      go_round
      case rel => exact ⟨k + 1, hlt, by go_num, Lib.hid (by rw [List.take_add_one, HX.out, Option.toList_some, List.any_append, HA.out]; simp [wideP]; omega)⟩
      case measure => simp [intOf]; omega
    · obtain rfl : k = 16 := by omega
      have h := HA.out
      rw [List.take_of_length_le (by omega)] at h
      go_wp2_with fail
      go_ret
      exact ⟨by first | (rw [h]; rfl) | rfl, by first | exact hb1 | (rw [hB]; exact hb1)⟩
theorem fitP_eq (x : Int) : fitP x = decide (-2147483648 ≤ x ∧ x ≤ 2147483647) := by
  have e : Sp.cut 32 x = max (min x 2147483647) (-2147483648) := rfl
  unfold fitP
  rw [e, Bool.eq_iff_iff, beq_iff_eq, decide_eq_true_eq]
  omega
theorem cut22_eq (x : Int) : (Sp.cut 22 x == x) = decide (-2097152 ≤ x ∧ x < 2097152) := by
  have e : Sp.cut 22 x = max (min x 2097151) (-2097152) := rfl
  rw [e, Bool.eq_iff_iff, beq_iff_eq, decide_eq_true_eq]
  omega
theorem mem_at {L : List Int} (h : Len L 38) {k : Nat} (hk : k < 16) : (memL L)[k]? = some (L.getD k 0) := by
  have hl := h.out
  unfold memL
  rw [List.getElem?_take, if_pos hk, List.getD_eq_getElem?_getD, List.getElem?_eq_getElem (by omega)]; rfl
theorem lev_at {L : List Int} (h : Len L 38) {k : Nat} (hk : k < 4) : (levL L)[k]? = some (L.getD (17 + k) 0) := by
  have hl := h.out
  unfold levL
  rw [List.getElem?_take, if_pos hk, List.getElem?_drop, List.getD_eq_getElem?_getD, List.getElem?_eq_getElem (by omega)]; rfl
theorem all_take_false {l : List Int} {q : Int → Bool} {k : Nat} {x : Int} (h : l[k]? = some x) (hq : q x = false) : l.all q = false := by
  rw [List.all_eq_false]; exact ⟨x, List.mem_of_getElem? h, by simp [hq]⟩
set_option maxRecDepth 100000 in
set_option maxHeartbeats 4000000 in
theorem RRight_any (L : List Int) (hL : L.length = 38) (w : World) : Calls Tryz.prog 8 #[.agg (arrV L)] w fun r w' => r = .returned (.bool (rightS L)) ∧ Below w.heap.size w w' := by
  have LL := Len.mk hL
  obtain ⟨R, hR⟩ : ∃ R, rightS L = R := ⟨_, rfl⟩
  rw [hR]
  have HR := Lib.hid hR
  clear hR hL
  have L16 := LL.mem
  have L4 := LL.lev
  obtain ⟨B, hB⟩ : ∃ B, w.heap.size = B := ⟨_, rfl⟩
  have hfar := Below.refl B w
  have hsz : B ≤ w.heap.size := by omega
  go_enter Tryz.func8, Tryz.ntmps8
  go_upto_region 1 with (fail)
  refine wp_gen (fun W => Blk W (B) (arrV L) 25 ∧ Below (B) w W ∧ B + 1 ≤ W.heap.size) ⟨bk_, bl_, sz_⟩ ?_
  clear hfar hsz
  rintro w1 ⟨hA, hfar, hsz⟩
  go_wp2_with fail
  go_loop [3] (fun i => ∃ k : Nat, k ≤ 16 ∧ i = .int .i64 k ∧ Hid (((memL L).take k).all fitP = true)) (fun i => 16 - (intOf i).toNat)
  case atStart => exact ⟨0, by omega, rfl, Lib.hid (by simp)⟩
  case round =>
    obtain ⟨k, hk, rfl, HM⟩ := hrel
    by_cases hlt : k < 16
    · have hm := mem_at LL hlt
      have c0 := (hA.cell k).trans (arr_get (l := L) (by rw [LL.out]; omega))
      obtain ⟨x, hx⟩ : ∃ x, L.getD k 0 = x := ⟨_, rfl⟩
      rw [hx] at hm c0
      have HX := Lib.hid hm
      have hf := fitP_eq x
      have HF := Lib.hid hf
      clear hm hx hf
      by_cases h1 : x < -2147483648
      · have hr : R = false := by
          rw [← HR.out]; unfold rightS
          rw [all_take_false HX.out (by rw [HF.out]; simp; omega)]; rfl
        subst hr
        go_wp2_with fail
        go_ret
        exact ⟨rfl, (by (try rw [hB]); exact bl_)⟩
      · by_cases h2 : 2147483647 < x
        · have hr : R = false := by
            rw [← HR.out]; unfold rightS
            rw [all_take_false HX.out (by rw [HF.out]; simp; omega)]; rfl
          subst hr
          go_wp2_with fail
          go_ret
          exact ⟨rfl, (by (try rw [hB]); exact bl_)⟩
        · go_wp2_with fail
          go_round
          case rel => exact ⟨k + 1, hlt, by go_num, Lib.hid (by rw [List.take_add_one, HX.out, Option.toList_some, List.all_append, HM.out]; simp [HF.out]; omega)⟩
          case measure => simp [intOf]; omega
    · obtain rfl : k = 16 := by omega
      have hmem : (memL L).all fitP = true := by
        have := HM.out
        rwa [List.take_of_length_le (by rw [L16.out]; omega)] at this
      have HMEM := Lib.hid hmem
      clear hmem HM
      rw [show ((16 : Nat) : Int) = 16 from rfl]
      go_wp2_with fail
      go_loop [4] (fun i => ∃ k : Nat, k ≤ 4 ∧ i = .int .i64 k ∧ Hid (((levL L).take k).all levP = true)) (fun i => 4 - (intOf i).toNat)
      case atStart => exact ⟨0, by omega, rfl, Lib.hid (by simp)⟩
      case round =>
        obtain ⟨k, hk, rfl, HM⟩ := hrel
        by_cases hlt : k < 4
        · have hm := lev_at LL hlt
          have c0 := (hA.cell (17 + k)).trans (arr_get (l := L) (by rw [LL.out]; omega))
          obtain ⟨x, hx⟩ : ∃ x, L.getD (17 + k) 0 = x := ⟨_, rfl⟩
          rw [hx] at hm c0
          have HX := Lib.hid hm
          clear hm hx
          by_cases h1 : x < 0
          · have hr : R = false := by
              rw [← HR.out]; unfold rightS
              rw [HMEM.out, all_take_false HX.out (by unfold levP; simp; omega)]; rfl
            subst hr
            go_wp2_with fail
            go_ret
            exact ⟨rfl, (by (try rw [hB]); exact bl_)⟩
          · by_cases h2 : 20 < x
            · have hr : R = false := by
                rw [← HR.out]; unfold rightS
                rw [HMEM.out, all_take_false HX.out (by unfold levP; simp; omega)]; rfl
              subst hr
              go_wp2_with fail
              go_ret
              exact ⟨rfl, (by (try rw [hB]); exact bl_)⟩
            · go_wp2_with fail
              go_round
              case rel => exact ⟨k + 1, hlt, by go_num, Lib.hid (by rw [List.take_add_one, HX.out, Option.toList_some, List.all_append, HM.out]; simp [levP]; omega)⟩
              case measure => simp [intOf]; omega
        · obtain rfl : k = 4 := by omega
          have hlev : (levL L).all levP = true := by
            have := HM.out
            rwa [List.take_of_length_le (by rw [L4.out]; omega)] at this
          have hRe : R = (decide (-2097152 ≤ lastL L ∧ lastL L < 2097152) && !(wavL L).any wideP && decide (0 ≤ lostL L) && decide (lostL L ≤ 255)) := by
            rw [← HR.out]; unfold rightS; rw [HMEM.out, hlev, cut22_eq]; simp
          have hhd := fun w => RHeld_any (wavL L) LL.wav.out w
          have c16 := (hA.cell 16).trans (arr_get (l := L) (by rw [LL.out]; omega))
          change w1.cell? ⟨B, 16, none⟩ = some (.int .i64 (lastL L)) at c16
          obtain ⟨x, hx⟩ : ∃ x, lastL L = x := ⟨_, rfl⟩
          obtain ⟨y, hy⟩ : ∃ y, lostL L = y := ⟨_, rfl⟩
          obtain ⟨d, hd⟩ : ∃ d, (wavL L).any wideP = d := ⟨_, rfl⟩
          rw [hx] at hRe c16
          rw [hy] at hRe
          rw [hd] at hRe
          simp only [hd] at hhd
          have HHD := Lib.hid hhd
          have HRE := Lib.hid hRe
          have HY := Lib.hid hy
          clear hlev HM hx hy hd hhd hRe
          rw [show ((4 : Nat) : Int) = 4 from rfl]
          by_cases h1 : -2097152 ≤ x
          · by_cases h2 : x < 2097152
            · go_wp2_with (first | (refine ldp 22 rfl (by rfl) w_Sixteen rfl (by exact bk_) (by assumption) (by omega) ?_) | (refine ldp 27 rfl (by rfl) w_Block rfl (by exact bk_) (by assumption) (by omega) ?_))
              refine (HHD.out _).mono ?_
              rintro e w2 ⟨rfl, hb2⟩
              replace hA := hA.newB hb2
              replace hfar := hfar.trans (hb2.mono (by omega))
              replace hsz := Nat.le_trans hsz hb2.size
              cases d with
              | true =>
                have hr : R = false := by rw [HRE.out]; simp
                subst hr
                go_wp2_with fail
                go_ret
                exact ⟨rfl, (by (try rw [hB]); exact bl_)⟩
              | false =>
                have c37 := (hA.cell 37).trans (arr_get (l := L) (by rw [LL.out]; omega))
                rw [show L.getD 37 0 = y from HY.out] at c37
                clear c16
                by_cases h3 : 0 ≤ y
                · by_cases h4 : y ≤ 255
                  · have hr : R = true := by rw [HRE.out]; simp [h1, h2, h3, h4]
                    subst hr
                    go_wp2_with fail
                    go_ret
                    exact ⟨rfl, (by (try rw [hB]); exact bl_)⟩
                  · have hr : R = false := by rw [HRE.out]; simp [h4]
                    subst hr
                    go_wp2_with fail
                    go_ret
                    exact ⟨retBool (decide_eq_false (by omega)), (by (try rw [hB]); exact bl_)⟩
                · have hr : R = false := by rw [HRE.out]; simp [h3]
                  subst hr
                  go_wp2_with fail
                  go_ret
                  exact ⟨rfl, (by (try rw [hB]); exact bl_)⟩
            · have hr : R = false := by rw [HRE.out]; simp [h2]
              subst hr
              go_wp2_with fail
              go_ret
              exact ⟨rfl, (by (try rw [hB]); exact bl_)⟩
          · have hr : R = false := by rw [HRE.out]; simp [h1]
            subst hr
            go_wp2_with fail
            go_ret
            exact ⟨rfl, (by (try rw [hB]); exact bl_)⟩
end Go.Proofs.YtmfihaaiddolmaaGreatDoor
