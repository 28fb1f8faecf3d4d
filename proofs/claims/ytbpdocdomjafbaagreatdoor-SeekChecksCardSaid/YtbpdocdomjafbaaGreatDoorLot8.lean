/- The walks of spec.Fold and its hearing. The walks of spoollaw20.Of, spoollaw21.Of, few, Same. The walks of entry.Gap and spoollaw21.awake. The walks of spec.Sounds, spec.True and spec.Truths. -/
import Derived.Test.YtbpdocdomjafbaaGreatDoorLot7
import Derived.Deep.RegionHeldLaw
import Derived.Laws.StructEq
import Derived.Test.YtbpdocdomjafbaaGreatDoorLot6
set_option linter.unusedSimpArgs false
set_option linter.unusedVariables false
namespace Go.Proofs.YtbpdocdomjafbaaGreatDoor
open Go.RowKit

theorem info_Block : (Tryz.prog.info? 30).map (fun i => (i.zero, i.size, i.bytes)) = some (some (.agg #[.int .i64 0, .int .i64 0, .int .i64 0, .int .i64 0, .int .i64 0, .int .i64 0, .int .i64 0, .int .i64 0, .int .i64 0, .int .i64 0, .int .i64 0, .int .i64 0, .int .i64 0, .int .i64 0, .int .i64 0, .int .i64 0]), 16, 128) := by kernel_rfl
theorem info_Entry : (Tryz.prog.info? 36).map (fun i => (i.zero, i.size, i.bytes)) = some (some (.agg #[.int .i64 0, .int .u32 0, .string ⟨#[]⟩]), 3, 32) := by kernel_rfl
theorem flatB_one (l : List (List Int)) : ∀ u ∈ l.flatMap intsV, u.oneCell' = true := by
  intro u hu
  obtain ⟨b, _, hb⟩ := List.mem_flatMap.1 hu
  exact ints_one b u hb
/-- A load of what lies in the midst of a block. -/
theorem ldr {ops : Array Oper} {rest : List Oper} {op : Oper} {a : Act} {w : World} {Q : Exit → Act → World → Prop} (ty : TypeId) {x : Operand} (ho : op.op = .load ty x) (hwd : Region.wanted op (yielded ops a.tmps) = true) {n : Nat} (hW : Whole ty n)
    {b o : Nat} (hx : a.eval x = .pointer (some ⟨b, o, none⟩)) {cs : Array Value} (hb : w.rangeAt b o cs.toList) (hs : cs.size = n) (h : wpList Tryz.prog ops Q rest (a.put op.dst (.agg cs)) w) : wpList Tryz.prog ops Q (op :: rest) a w :=
  wpList_step fun _ hK => by
    rw [if_pos hwd]
    obtain ⟨d, hu, hd, hi⟩ := hW
    exact wp_load_mid ty x ho b o hx cs.toList d hb hu hd (by rw [hi, Array.length_toList, hs]) (by simpa using hK _ _ h)
/-- What the hearing leaves. -/
def Heard (gs go base : Nat) (L : List Int) (l : List (List Int)) (e : Ending) (w w' : World) : Prop :=
  ∃ v, e = .returned (.tuple #[]) ∧ Blk w' gs (arrV L) 33 ∧ Blk w' go #[v] 40 ∧ OW w' base w'.heap.size 30 16 v l.length (l.flatMap intsV) ∧ Kept (fun k => k = gs ∨ k = go ∨ base ≤ k) w w'
set_option maxRecDepth 100000 in
set_option maxHeartbeats 4000000 in
theorem hear_any (gs go base : Nat) (h1 : 0 < gs) (h2 : 0 < go) (h12 : gs ≠ go) (h3 : gs < base) (h4 : go < base) (L : List Int) (hL : L.length = 38) (e : Ent) (l : List (List Int)) (hl : l.length ≤ 1000) (v : Value) (w : World) (hW : BandsW w)
    (hS : Blk w gs (arrV L) 33) (hO : Blk w go #[v] 40) (hR : OW w base w.heap.size 30 16 v l.length (l.flatMap intsV)) (hb : base ≤ w.heap.size) :
    Calls Tryz.prog 38 #[.agg (entV e), .pointer (some ⟨gs, 0, none⟩), .pointer (some ⟨go, 0, none⟩)] w fun r w' => Heard gs go base (stepS L e) (l ++ stepO L e) r w w' := by
  obtain ⟨k, sp, s⟩ := e
  have hBW : Blk w 0 bandC 128 := hW
  have hst := fun w hW => Step_any L hL ⟨k, sp, s⟩ w hW
  have LS := Len.mk (stepS_len hL ⟨k, sp, s⟩)
  have hle := stepO_le L ⟨k, sp, s⟩
  obtain ⟨O, hO2⟩ : ∃ O, stepO L ⟨k, sp, s⟩ = O := ⟨_, rfl⟩
  obtain ⟨S', hS2⟩ : ∃ S', stepS L ⟨k, sp, s⟩ = S' := ⟨_, rfl⟩
  simp only [hO2, hS2] at hst LS hle ⊢
  have HST := Lib.hid hst
  have LL := Len.mk hL
  clear hst hO2 hS2 hL hW
  have hfar := Kept.refl (fun k => k = gs ∨ k = go ∨ base ≤ k) w
  have hsz : w.heap.size ≤ w.heap.size := Nat.le_refl _
  obtain ⟨B, hB⟩ : ∃ B, w.heap.size = B := ⟨_, rfl⟩
  rw [hB] at hb hR
  go_enter Tryz.func38, Tryz.ntmps38
  go_upto_region 1 with (fail)
  refine wp_gen (fun W => Blk W (0) (bandC) 128 ∧ Blk W (gs) (arrV L) 33 ∧ Blk W (go) (#[v]) 40 ∧ OW W (base) (B) (30) (16) (v) (l.length) (l.flatMap intsV) ∧ Blk W (B) (entV ⟨k, sp, s⟩) 36 ∧ Kept (fun k => k = gs ∨ k = go ∨ base ≤ k) w W ∧ B + 1 ≤ W.heap.size) ⟨bk_, bk_, bk_, ow_, bk_, kp_, sz_⟩ ?_
  clear hBW hS hO hR hfar hsz
  rintro w1 ⟨hBW, hS, hO, hR, hE, hfar, hsz⟩
  go_wp2_with (first | (refine st 36 rfl (by rfl) w_Entry rfl rfl bk_ zz_ zz_ one_ ?_) | (refine ld 36 rfl (by rfl) w_Entry rfl bk_ zz_ ?_) | (refine bd 33 rfl (by rfl) rfl state_zs ?_) | (refine bd 30 rfl (by rfl) rfl block_zs ?_) | (refine ld 33 rfl (by rfl) w_State rfl bk_ lz_ ?_) | (refine ld 30 rfl (by rfl) w_Block rfl bk_ lz_ ?_) | (refine ldp 30 rfl (by rfl) w_Block rfl bk_ ln_ (by omega) ?_) | (refine ld 31 rfl (by rfl) w_Four rfl bk_ lz_ ?_) | (refine ldp 31 rfl (by rfl) w_Four rfl bk_ ln_ (by omega) ?_) | (refine st 33 rfl (by rfl) w_State rfl rfl bk_ lz_ lz_ one_ ?_) | (refine st 30 rfl (by rfl) w_Block rfl rfl bk_ lz_ lz_ one_ ?_) | (refine st 31 rfl (by rfl) w_Four rfl rfl bk_ lz_ lz_ one_ ?_))
  refine (HST.out _ hBW).mono ?_
  rintro r w2 ⟨v2, rfl, hR2, hb2⟩
  replace hBW := hBW.newB hb2
  replace hS := hS.newB hb2
  replace hO := hO.newB hb2
  replace hR := hR.newB hb2
  replace hE := hE.newB hb2
  replace hfar := hfar.thenBelow hb2
  replace hsz := Nat.le_trans hsz hb2.size
  obtain ⟨g, hg⟩ : ∃ g, w2.heap.size = g := ⟨_, rfl⟩
  have hBg : B + 1 ≤ g := by omega
  obtain ⟨p2, c2, rfl, hQ⟩ := SL.own hR2
  clear hR2
  rw [hg] at hQ
  go_upto_region 2 with (first | (refine st 36 rfl (by rfl) w_Entry rfl rfl bk_ zz_ zz_ one_ ?_) | (refine ld 36 rfl (by rfl) w_Entry rfl bk_ zz_ ?_) | (refine bd 33 rfl (by rfl) rfl state_zs ?_) | (refine bd 30 rfl (by rfl) rfl block_zs ?_) | (refine ld 33 rfl (by rfl) w_State rfl bk_ lz_ ?_) | (refine ld 30 rfl (by rfl) w_Block rfl bk_ lz_ ?_) | (refine ldp 30 rfl (by rfl) w_Block rfl bk_ ln_ (by omega) ?_) | (refine ld 31 rfl (by rfl) w_Four rfl bk_ lz_ ?_) | (refine ldp 31 rfl (by rfl) w_Four rfl bk_ ln_ (by omega) ?_) | (refine st 33 rfl (by rfl) w_State rfl rfl bk_ lz_ lz_ one_ ?_) | (refine st 30 rfl (by rfl) w_Block rfl rfl bk_ lz_ lz_ one_ ?_) | (refine st 31 rfl (by rfl) w_Four rfl rfl bk_ lz_ lz_ one_ ?_))
  refine wp_gen (fun W => Blk W (0) (bandC) 128 ∧ Blk W (gs) (arrV L) 33 ∧ Blk W (go) (#[v]) 40 ∧ OW W (base) (B) (30) (16) (v) (l.length) (l.flatMap intsV) ∧ Blk W (B) (entV ⟨k, sp, s⟩) 36 ∧ SL W (w1.heap.size) (g) (16) (p2) (O.length) (c2) (O.flatMap intsV) ∧ Blk W (g) (arrV S') 33 ∧ Kept (fun k => k = gs ∨ k = go ∨ base ≤ k) w W ∧ g + 1 ≤ W.heap.size) ⟨bk_, bk_, bk_, ow_, bk_, sl_, bk_, kp_, sz_⟩ ?_
  clear hBW hS hO hR hE hQ hfar hsz
  rintro w3 ⟨hBW, hS, hO, hR, hE, hQ, hN, hfar, hsz⟩
  obtain ⟨i0, hi, hz0, hz1, hz2⟩ := info_parts info_Block
  have hvb : ∀ k, v.ownBlock = some k → base ≤ k ∧ k < B := fun k hk => ⟨(World.ownsRow.lt hR.1 k hk).1, hR.2.1 k hk⟩
  have HVB := Lib.hid hvb
  clear hvb
  have c0 := hO.drew.cell 0
  simp only [List.getElem?_toArray, List.getElem?_cons_zero] at c0
  refine wp_region_held_drew (S := fun W => Blk W (g) (arrV S') 33) (by kernel_rfl) (hN.drew) (fun hH => ?_)
  refine wpAnyH_take (i := 1) (oi := { dst := some 13, op := Op.move (Operand.tmp 4), type := 40, pos := "spec.go:40", after := _, guard := none }) (v := _) rfl (by kernel_rfl) (by kernel_rfl) (by kernel_rfl) (fun _ _ _ h => h) (.inl ⟨by rfl, fun w hS => by (go_simp; try rfl)⟩) hH ?_
  try simp only [Act.put, List.setIfInBounds_toArray, List.set_cons_zero, List.set_cons_succ]
  refine wpAnyH_take (i := 3) (oi := { dst := some 15, op := Op.load 33 (Operand.tmp 5), type := 33, pos := "spec.go:40", after := _, guard := none }) (v := .agg (arrV S')) rfl (by kernel_rfl) (by kernel_rfl) (by kernel_rfl) (fun _ _ _ h => h) (yieldsIf_ld (by rfl) 33 rfl w_State rfl (fun _ hS => hS) zz_) hH ?_
  try simp only [Act.put, List.setIfInBounds_toArray, List.set_cons_zero, List.set_cons_succ]
  refine wpAnyH_ready (rs := [0]) (by kernel_rfl) (by simp) ?_
  refine AllReadyH.cons (o := { dst := some 12, op := Op.load 40 (Operand.tmp 2), type := 40, pos := "spec.go:40", after := _, guard := none }) rfl (fun K hK => ?_) AllReadyH.nil
  rw [if_pos (by rfl)]
  go_simp
  refine hK.out _ _ bk_ (fun hH => ?_)
  clear hK K
  try simp only [Act.put, List.setIfInBounds_toArray, List.set_cons_zero, List.set_cons_succ]
  refine wpAnyH_ready (rs := [2]) (by kernel_rfl) (by simp) ?_
  refine AllReadyH.cons (o := { dst := some 14, op := Op.call { callee := Callee.builtin Builtin.append, args := #[Operand.tmp 12, Operand.tmp 13], argTypes := #[40, 40] }, type := 40, pos := "spec.go:40", after := _, guard := none }) rfl (fun K hK => ?_) AllReadyH.nil
  rw [if_pos (by rfl)]
  refine wp_append_sl 40 rfl rfl base 30 i0 (.agg #[.int .i64 0, .int .i64 0, .int .i64 0, .int .i64 0, .int .i64 0, .int .i64 0, .int .i64 0, .int .i64 0, .int .i64 0, .int .i64 0, .int .i64 0, .int .i64 0, .int .i64 0, .int .i64 0, .int .i64 0, .int .i64 0]) 16 128 Tryz.underlying40 hi hz0 hz1 hz2 rfl (by omega) rfl (own_drew hR.1) rfl hQ.drew (flatB_one _) (by unfold maxLen; omega) (by omega) (by rw [World.size_drew]; omega) (fun v' w4 hown hgr _ => ?_)
  obtain ⟨p3, c3, rfl, hQ3⟩ := SL.own hown
  have hS4 := hS.drew.kept hgr (fun e => by have := HVB.out _ e.symm; omega)
  have hO4 := hO.drew.kept hgr (fun e => by have := HVB.out _ e.symm; omega)
  have hfar4 : Kept (fun k => k = gs ∨ k = go ∨ base ≤ k) w w4 := hfar.drew.grown hgr (fun k hk => by have := HVB.out k hk; omega)
  have d0 := hO4.cell 0
  simp only [List.getElem?_toArray, List.getElem?_cons_zero] at d0
  have e0 := hO4.frozen 0
  have hs4 := hgr.size
  simp only [World.size_drew] at hs4
  refine hK.out _ _ (hH.kept hgr (fun e => by have := HVB.out _ e.symm; omega)) (fun hH => ?_)
  clear hK K
  try simp only [Act.put, List.setIfInBounds_toArray, List.set_cons_zero, List.set_cons_succ]
  refine wpAnyH_ready (rs := [4]) (by kernel_rfl) (by simp) ?_
  refine AllReadyH.cons (o := { dst := none, op := Op.store 40 (Operand.tmp 2) (Operand.tmp 14), type := 0, pos := "spec.go:40", after := _, guard := none }) rfl (fun K hK => ?_) AllReadyH.nil
  rw [if_pos (by rfl)]
  go_simp
  refine hK.out _ _ bk_ (fun hH => ?_)
  clear hK K
  try simp only [Act.put]
  refine wpAnyH_ready (rs := [5]) (by kernel_rfl) (by simp) ?_
  refine AllReadyH.cons (o := { dst := none, op := Op.store 33 (Operand.tmp 1) (Operand.tmp 15), type := 0, pos := "spec.go:40", after := _, guard := none }) rfl (fun K hK => ?_) AllReadyH.nil
  rw [if_pos (by rfl)]
  refine wp_st 33 rfl w_State rfl rfl bk_ zz_ zz_ one_ ?_
  refine hK.out _ _ bk_ (fun hH => ?_)
  clear hK K
  try simp only [Act.put]
  refine wpAnyH_done (by kernel_rfl) ?_ _
  go_wp2_with fail
  go_end0
  have hfin : w4.ownsRow base 30 16 (.slice p3 (l.length + O.length) c3) (l ++ O).length ((l ++ O).flatMap intsV) := by rw [List.length_append, List.flatMap_append]; exact hown
  exact ⟨_, rfl, by exact bk_, by exact bk_, OW.mk0 (own_setRow (own_setCell hfin (by simp only []; omega) _) (by omega) _), by exact kp_⟩
/-- A slice of entries that is read. -/
def ES (W : World) (lo hi : Nat) (p : Option Addr) (cap : Nat) (l : List Ent) : Prop := SL W lo hi 3 p l.length cap (l.flatMap fun e => (entV e).toList)
theorem ent_len (l : List Ent) : ∀ e ∈ l, ((entV e).toList).length = 3 := fun _ _ => rfl
theorem ES.get {W : World} {lo hi : Nat} {p : Option Addr} {cap : Nat} {l : List Ent} (h : ES W lo hi p cap l) {i : Nat} {e : Ent} (he : l[i]? = some e) : ∃ b o, p = some ⟨b, o, none⟩ ∧ lo ≤ b ∧ b < hi ∧ W.rangeAt b (o + i * 3) (entV e).toList := by
  have hi : i < l.length := (List.getElem?_eq_some_iff.1 he).1
  obtain ⟨b, o, hp, h1, h2, h3⟩ := h.form (by omega)
  refine ⟨b, o, hp, h1, h2, fun j u hu => ?_⟩
  have hj : j < 3 := (List.getElem?_eq_some_iff.1 hu).1
  rw [Nat.add_assoc]
  exact h3 _ u ((flat_get _ l (ent_len l) he hj).trans hu)
theorem ES.take {W : World} {lo hi : Nat} {p : Option Addr} {cap : Nat} {l : List Ent} (h : ES W lo hi p cap l) {k : Nat} (hk : k ≤ l.length) : ES W lo hi p cap (l.take k) := by
  have h2 := SL.take h hk
  rw [flat_take _ l (ent_len l)] at h2
  unfold ES
  rwa [List.length_take, Nat.min_eq_left hk]
theorem ES.drop {W : World} {lo hi : Nat} {p : Option Addr} {cap : Nat} {l : List Ent} (h : ES W lo hi p cap l) {k : Nat} (hk : k ≤ l.length) : ES W lo hi (if cap = k then p else p.map (·.add (k * 3))) (cap - k) (l.drop k) := by
  have h2 := SL.drop h hk
  rw [flat_drop _ l (ent_len l)] at h2
  unfold ES
  rwa [List.length_drop]
set_option maxRecDepth 100000 in
set_option maxHeartbeats 4000000 in
theorem Fold_any (L : List Int) (hL : L.length = 38) (l : List Ent) (hl : l.length ≤ 1000) (p : Option Addr) (lo hi cap : Nat) (w : World) (hW : BandsW w) (hE : ES w lo hi p cap l) :
    Calls Tryz.prog 23 #[.agg (arrV L), .slice p l.length cap] w (RetBS w (foldO L l) (foldS L l)) := by
  have hBW : Blk w 0 bandC 128 := hW
  have hB0 := hW.lt
  have hhi := hE.2.2.2.1
  have hcap := hE.2.1
  have hcm := hE.2.2.1
  unfold maxLen at hcm
  have hQ : SL w lo hi 3 p l.length cap (l.flatMap fun e => (entV e).toList) := hE
  obtain ⟨n, hn⟩ : ∃ n, l.length = n := ⟨_, rfl⟩
  rw [hn] at hl hcap ⊢
  have HN := Lib.hid hn
  rw [hn] at hQ
  have LL := Len.mk hL
  clear hW hL hn hE
  obtain ⟨B, hB⟩ : ∃ B, w.heap.size = B := ⟨_, rfl⟩
  rw [hB] at hB0 hhi
  have hfar := Below.refl B w
  have hsz : B ≤ w.heap.size := by omega
  go_enter Tryz.func23, Tryz.ntmps23
  go_upto_region 3 with (fail)
  refine wp_gen (fun W => Blk W (0) (bandC) 128 ∧ SL W (lo) (hi) (3) (p) (n) (cap) (l.flatMap fun e => (entV e).toList) ∧ Blk W (B) (arrV L) 33 ∧ Blk W (B + 1) (arrV (zs 38)) 33 ∧ Blk W (B + 1 + 1) (#[.slice none 0 0]) 40 ∧ Below (B) w W ∧ B + 3 ≤ W.heap.size) ⟨bk_, sl_, bk_, bk_, bk_, bl_, sz_⟩ ?_
  clear hBW hQ hfar hsz
  rintro w1 ⟨hBW, hQ, hS, hR, hO, hfar, hsz⟩
  go_wp2_with fail
  go_loopw [13] (fun i wr => ∃ (k : Nat) (v : Value), k ≤ n ∧ i = .int .i64 k ∧ Blk wr 0 bandC 128 ∧ SL wr lo hi 3 p n cap (l.flatMap fun e => (entV e).toList) ∧ Blk wr B (arrV (foldS L (l.take k))) 33 ∧ Blk wr (B + 1) (arrV (zs 38)) 33 ∧ Blk wr (B + 1 + 1) #[v] 40 ∧ OW wr (B + 3) wr.heap.size 30 16 v (foldO L (l.take k)).length ((foldO L (l.take k)).flatMap intsV) ∧ Below B w wr ∧ B + 3 ≤ wr.heap.size) (fun i _ => n - (intOf i).toNat)
  case atStart => exact ⟨0, _, by omega, rfl, hBW, hQ, hS, hR, hO, OW.nil _ _ _ _ _ (Nat.le_refl _), hfar, hsz⟩
  case round =>
    clear hBW hQ hS hR hO hfar hsz
    obtain ⟨k, v, hk, rfl, hBW, hQ, hS, hR, hO, hOW, hfar, hsz⟩ := hrel
    by_cases hlt : k < n
    · have hkl : k < l.length := by rw [HN.out]; exact hlt
      obtain ⟨e, he⟩ : ∃ e, l[k] = e := ⟨_, rfl⟩
      have hget : l[k]? = some e := by rw [List.getElem?_eq_getElem hkl, he]
      have hES : ES wr lo hi p cap l := by unfold ES; rw [HN.out]; exact hQ
      obtain ⟨b, o, rfl, hb1, hb2, hr⟩ := hES.get hget
      have hS1 : foldS L (l.take (k + 1)) = stepS (foldS L (l.take k)) e := by rw [List.take_add_one, hget, Option.toList_some, foldS_app]; rfl
      have hO1 : foldO L (l.take (k + 1)) = foldO L (l.take k) ++ stepO (foldS L (l.take k)) e := by rw [List.take_add_one, hget, Option.toList_some, foldO_app, foldO, foldO, List.append_nil]
      have hle := foldO_le L (l.take k)
      rw [List.length_take, HN.out] at hle
      have LS := Len.mk (foldS_len LL.out (l.take k))
      obtain ⟨M, hM⟩ : ∃ M, foldS L (l.take k) = M := ⟨_, rfl⟩
      obtain ⟨Z, hZ⟩ : ∃ Z, foldO L (l.take k) = Z := ⟨_, rfl⟩
      rw [hM] at hS1 hO1 hS LS
      rw [hZ] at hO1 hOW hle
      have HS1 := Lib.hid hS1
      have HO1 := Lib.hid hO1
      clear hM hZ hS1 hO1 hkl he hget hES
      obtain ⟨g, hg⟩ : ∃ g, wr.heap.size = g := ⟨_, rfl⟩
      rw [hg] at hOW
      have hBg : B + 3 ≤ g := by omega
      go_upto_region 6 with (first | (refine ldr 36 rfl (by rfl) w_Entry rfl (by assumption) (by rfl) ?_) | (first | (refine st 36 rfl (by rfl) w_Entry rfl rfl bk_ zz_ zz_ one_ ?_) | (refine ld 36 rfl (by rfl) w_Entry rfl bk_ zz_ ?_) | (refine bd 33 rfl (by rfl) rfl state_zs ?_) | (refine bd 30 rfl (by rfl) rfl block_zs ?_) | (refine ld 33 rfl (by rfl) w_State rfl bk_ lz_ ?_) | (refine ld 30 rfl (by rfl) w_Block rfl bk_ lz_ ?_) | (refine ldp 30 rfl (by rfl) w_Block rfl bk_ ln_ (by omega) ?_) | (refine ld 31 rfl (by rfl) w_Four rfl bk_ lz_ ?_) | (refine ldp 31 rfl (by rfl) w_Four rfl bk_ ln_ (by omega) ?_) | (refine st 33 rfl (by rfl) w_State rfl rfl bk_ lz_ lz_ one_ ?_) | (refine st 30 rfl (by rfl) w_Block rfl rfl bk_ lz_ lz_ one_ ?_) | (refine st 31 rfl (by rfl) w_Four rfl rfl bk_ lz_ lz_ one_ ?_)))
      refine wp_gen (fun W => Blk W (0) (bandC) 128 ∧ SL W (lo) (hi) (3) (some ⟨b, o, none⟩) (n) (cap) (l.flatMap fun e => (entV e).toList) ∧ Blk W (B) (arrV M) 33 ∧ Blk W (B + 1) (arrV (zs 38)) 33 ∧ Blk W (B + 1 + 1) (#[v]) 40 ∧ OW W (B + 3) (g) (30) (16) (v) (Z.length) (Z.flatMap intsV) ∧ Blk W (g) (entV e) 36 ∧ Below (B) w W ∧ g + 1 ≤ W.heap.size) ⟨bk_, sl_, bk_, bk_, bk_, ow_, bk_, bl_, sz_⟩ ?_
      clear hBW hQ hS hR hO hOW hfar hsz
      rintro w2 ⟨hBW, hQ, hS, hR, hO, hOW, hE, hfar, hsz⟩
      go_wp2_with (first | (refine st 36 rfl (by rfl) w_Entry rfl rfl bk_ zz_ zz_ one_ ?_) | (refine ld 36 rfl (by rfl) w_Entry rfl bk_ zz_ ?_) | (refine bd 33 rfl (by rfl) rfl state_zs ?_) | (refine bd 30 rfl (by rfl) rfl block_zs ?_) | (refine ld 33 rfl (by rfl) w_State rfl bk_ lz_ ?_) | (refine ld 30 rfl (by rfl) w_Block rfl bk_ lz_ ?_) | (refine ldp 30 rfl (by rfl) w_Block rfl bk_ ln_ (by omega) ?_) | (refine ld 31 rfl (by rfl) w_Four rfl bk_ lz_ ?_) | (refine ldp 31 rfl (by rfl) w_Four rfl bk_ ln_ (by omega) ?_) | (refine st 33 rfl (by rfl) w_State rfl rfl bk_ lz_ lz_ one_ ?_) | (refine st 30 rfl (by rfl) w_Block rfl rfl bk_ lz_ lz_ one_ ?_) | (refine st 31 rfl (by rfl) w_Four rfl rfl bk_ lz_ lz_ one_ ?_))
      refine (hear_any B (B + 1 + 1) (B + 3) (by omega) (by omega) (by omega) (by omega) (by omega) M LS.out e Z (by omega) v _ hBW hS hO (hOW.up (Nat.le_refl _) (by omega) (Nat.le_refl _)) (by omega)).mono ?_
      rintro r w3 ⟨v2, rfl, hS2, hO2, hOW2, hk2⟩
      have hBW2 := hBW.keep hk2 (by omega)
      have hR2 := hR.keep hk2 (by omega)
      have hQ2 := hQ.keep hk2 (fun k hk => by omega)
      have hf2 : Below B w w3 := hfar.trans (hk2.below (fun k hk => by omega) (by omega))
      have hs2 := hk2.size
      go_wp2_with fail
      go_roundw
      case rel => exact ⟨k + 1, v2, hlt, by go_num, hBW2, hQ2, by rw [HS1.out]; exact hS2, hR2, hO2, by rw [HO1.out]; exact hOW2, hf2, by omega⟩
      case measure => simp [intOf]; omega
    · obtain rfl : k = n := by omega
      have ht : l.take k = l := by rw [← HN.out]; exact List.take_length
      rw [ht] at hS hOW
      have LF := Len.mk (foldS_len LL.out l)
      obtain ⟨M, hM⟩ : ∃ M, foldS L l = M := ⟨_, rfl⟩
      obtain ⟨Z, hZ⟩ : ∃ Z, foldO L l = Z := ⟨_, rfl⟩
      rw [hM] at hS LF
      rw [hZ] at hOW
      have HM := Lib.hid hM
      have HZ := Lib.hid hZ
      clear hM hZ ht
      go_upto_region 8 with (fail)
      have c0 := hO.drew.cell 0
      simp only [List.getElem?_toArray, List.getElem?_cons_zero] at c0
      refine wp_region_held_drew (S := fun W => Blk W (B) (arrV M) 33) (by kernel_rfl) (hS.drew) (fun hH => ?_)
      refine wpAnyH_take (i := 1) (oi := { dst := some 22, op := Op.load 33 (Operand.tmp 2), type := 33, pos := "spec.go:45", after := _, guard := none }) (v := .agg (arrV M)) rfl (by kernel_rfl) (by kernel_rfl) (by kernel_rfl) (fun _ _ _ h => h) (yieldsIf_ld (by rfl) 33 rfl w_State rfl (fun _ hS => hS) zz_) hH ?_
      try simp only [Act.put, List.setIfInBounds_toArray, List.set_cons_zero, List.set_cons_succ]
      refine wpAnyH_ready (rs := [0]) (by kernel_rfl) (by simp) ?_
      refine AllReadyH.cons (o := { dst := some 21, op := Op.load 40 (Operand.tmp 6), type := 40, pos := "spec.go:45", after := _, guard := none }) rfl (fun K hK => ?_) AllReadyH.nil
      rw [if_pos (by rfl)]
      go_simp
      refine hK.out _ _ bk_ (fun hH => ?_)
      clear hK K
      try simp only [Act.put, List.setIfInBounds_toArray, List.set_cons_zero, List.set_cons_succ]
      refine wpAnyH_take (i := 2) (oi := { dst := some 4, op := Op.assign (Operand.tmp 21), type := 40, pos := "spec.go:45", after := _, guard := none }) (v := _) rfl (by kernel_rfl) (by kernel_rfl) (by kernel_rfl) (fun _ _ _ h => h) (.inl ⟨by rfl, fun w hS => by (go_simp; try rfl)⟩) hH ?_
      try simp only [Act.put, List.setIfInBounds_toArray, List.set_cons_zero, List.set_cons_succ]
      refine wpAnyH_ready (rs := [3]) (by kernel_rfl) (by simp) ?_
      refine AllReadyH.cons (o := { dst := none, op := Op.store 33 (Operand.tmp 5) (Operand.tmp 22), type := 0, pos := "spec.go:45", after := _, guard := none }) rfl (fun K hK => ?_) AllReadyH.nil
      rw [if_pos (by rfl)]
      refine wp_st 33 rfl w_State rfl rfl bk_ zz_ zz_ one_ ?_
      refine hK.out _ _ bk_ (fun hH => ?_)
      clear hK K
      try simp only [Act.put]
      refine wpAnyH_done (by kernel_rfl) ?_ _
      go_wp2_with fail
      exact bodyPost_ret (v := .tuple #[v, .agg (arrV M)]) (res_tc Tryz.results23 rfl rfl w_State (by exact bk_) LF.sz) rfl ⟨v, by rw [HM.out], by rw [HZ.out]; exact own_up (own_setRow (own_drew hOW.1) (by omega) _) (by omega), (by (try rw [hB]); exact bl_)⟩
end Go.Proofs.YtbpdocdomjafbaaGreatDoor

namespace Go.Proofs.YtbpdocdomjafbaaGreatDoor
open Go.RowKit

/-- An entry whose numbers are what they may be. -/
def EntOk (e : Ent) : Prop := (-9223372036854775808 ≤ e.kind ∧ e.kind ≤ 9223372036854775807) ∧ (0 ≤ e.stamp ∧ e.stamp ≤ 4294967295) ∧ e.data.size ≤ 9223372036854775807
/-- A slice of entries that came in. -/
def EntIn (W : World) (p : Option Addr) (cap : Nat) (l : List Ent) : Prop :=
  l.length ≤ cap ∧ cap ≤ 9223372036854775807 ∧ ∀ (i : Nat) (e : Ent), l[i]? = some e → ∃ a, p = some a ∧ a.block < W.heap.size ∧ W.cell? (a.add (i * 3)) = some (.int .i64 e.kind) ∧ W.cell? ⟨(a.add (i * 3)).block, (a.add (i * 3)).off + 1, none⟩ = some (.int .u32 e.stamp) ∧ W.cell? ⟨(a.add (i * 3)).block, (a.add (i * 3)).off + 2, none⟩ = some (.string e.data) ∧ EntOk e
theorem addr_block (a : Addr) (n : Nat) : (a.add n).block = a.block := by unfold Addr.add; split <;> rfl
theorem EntIn.below {W W' : World} {p : Option Addr} {cap : Nat} {l : List Ent} (h : EntIn W p cap l) {B : Nat} (hB : B = W.heap.size) (hb : Below B W W') : EntIn W' p cap l := by
  subst hB
  obtain ⟨h1, h2, h3⟩ := h
  refine ⟨h1, h2, fun i e he => ?_⟩
  obtain ⟨a, hp, hl, c0, c1, c2, ho⟩ := h3 i e he
  exact ⟨a, hp, by have := hb.size; omega, (hb.cell (by rw [addr_block]; exact hl)).trans c0, (hb.cell (by simp only [addr_block]; exact hl)).trans c1, (hb.cell (by simp only [addr_block]; exact hl)).trans c2, ho⟩
set_option maxRecDepth 100000 in
set_option maxHeartbeats 1000000 in
theorem Of20_any (e : Ent) (w : World) : Calls Tryz.prog 14 #[.agg (entV e)] w fun r w' => r = .returned (.agg (entV e)) ∧ Below w.heap.size w w' := by
  obtain ⟨k, sp, s⟩ := e
  obtain ⟨B, hB⟩ : ∃ B, w.heap.size = B := ⟨_, rfl⟩
  have hfar := Below.refl B w
  have hsz : B ≤ w.heap.size := by omega
  go_enter Tryz.func14, Tryz.ntmps14
  go_upto_region 1 with (fail)
  refine wp_gen (fun W => Blk W (B) (entV ⟨k, sp, s⟩) 49 ∧ Blk W (B + 1) (#[.int .i64 0, .int .u32 0, .string ⟨#[]⟩]) 36 ∧ Below (B) w W ∧ B + 2 ≤ W.heap.size) ⟨bk_, bk_, bl_, sz_⟩ ?_
  clear hfar hsz
  rintro w1 ⟨hA, hR, hfar, hsz⟩
  have c0 := hA.cell 0
  have c1 := hA.cell 1
  have c2 := hA.cell 2
  simp only [List.getElem?_toArray, List.getElem?_cons_zero, List.getElem?_cons_succ] at c0 c1 c2
  go_wp2_with (first | (refine st 36 rfl (by rfl) w_Entry rfl rfl bk_ zz_ zz_ one_ ?_) | (refine ld 36 rfl (by rfl) w_Entry rfl bk_ zz_ ?_) | (refine bd 33 rfl (by rfl) rfl state_zs ?_) | (refine bd 30 rfl (by rfl) rfl block_zs ?_) | (refine ld 33 rfl (by rfl) w_State rfl bk_ lz_ ?_) | (refine ld 30 rfl (by rfl) w_Block rfl bk_ lz_ ?_) | (refine ldp 30 rfl (by rfl) w_Block rfl bk_ ln_ (by omega) ?_) | (refine ld 31 rfl (by rfl) w_Four rfl bk_ lz_ ?_) | (refine ldp 31 rfl (by rfl) w_Four rfl bk_ ln_ (by omega) ?_) | (refine st 33 rfl (by rfl) w_State rfl rfl bk_ lz_ lz_ one_ ?_) | (refine st 30 rfl (by rfl) w_Block rfl rfl bk_ lz_ lz_ one_ ?_) | (refine st 31 rfl (by rfl) w_Four rfl rfl bk_ lz_ lz_ one_ ?_))
  exact bodyPost_ret (v := .agg (entV ⟨k, sp, s⟩)) (res_c Tryz.results14 rfl w_Entry (by exact bk_) rfl) rfl ⟨rfl, (by (try rw [hB]); exact bl_)⟩
def fewE (l : List Ent) : Bool := (l.take 26).all (fun e => decide (e.data.size ≤ 300)) && decide (l.length ≤ 25)
theorem fewE_no {l : List Ent} {k : Nat} {e : Ent} (he : l[k]? = some e) (hk : k ≤ 25) (h : ¬ e.data.size ≤ 300) : fewE l = false := by
  unfold fewE
  rw [Bool.and_eq_false_iff]
  left
  rw [List.all_eq_false]
  refine ⟨e, List.mem_of_getElem? (i := k) ?_, by simpa using h⟩
  rw [List.getElem?_take, if_pos (by omega)]; exact he
theorem flatE_one (l : List Ent) : ∀ u ∈ l.flatMap (fun e => (entV e).toList), u.oneCell' = true := by
  intro u hu
  obtain ⟨b, _, hb⟩ := List.mem_flatMap.1 hu
  simp only [List.mem_cons, List.not_mem_nil, or_false] at hb
  rcases hb with rfl | rfl | rfl <;> rfl
/-- A result that is a slice of entries. -/
def RetES (w : World) (l : List Ent) (e : Ending) (w' : World) : Prop :=
  ∃ v, e = .returned v ∧ OW w' w.heap.size w'.heap.size 36 3 v l.length (l.flatMap fun e => (entV e).toList) ∧ Below w.heap.size w w'
set_option maxRecDepth 100000 in
set_option maxHeartbeats 4000000 in
theorem Of21_any (l : List Ent) (hl : l.length ≤ 1000) (p : Option Addr) (cap : Nat) (w : World) (hE : EntIn w p cap l) : Calls Tryz.prog 6 #[.slice p l.length cap] w (RetES w l) := by
  obtain ⟨i0, hi, hz0, hz1, hz2⟩ := info_parts info_Entry
  obtain ⟨n, hn⟩ : ∃ n, l.length = n := ⟨_, rfl⟩
  have HN := Lib.hid hn
  have hc1 := hE.1
  have hc2 := hE.2.1
  rw [hn] at hl hc1 ⊢
  obtain ⟨B, hB⟩ : ∃ B, w.heap.size = B := ⟨_, rfl⟩
  have HE := Lib.hid hE
  clear hE hn
  go_enter Tryz.func6, Tryz.ntmps6
  go_wp2
  go_loopw [3, 4] (fun v i wr => ∃ k : Nat, k ≤ n ∧ i = .int .i64 k ∧ OW wr B wr.heap.size 36 3 v k ((l.take k).flatMap fun e => (entV e).toList) ∧ Below B w wr ∧ B ≤ wr.heap.size) (fun _ i _ => n - (intOf i).toNat)
  case atStart => exact ⟨0, by omega, rfl, OW.nil _ _ _ _ _ (Nat.le_refl _), Below.refl _ _, by omega⟩
  case round =>
    obtain ⟨k, hk, rfl, hR, hfar, hsz⟩ := hrel
    by_cases hlt : k < n
    · have hkl : k < l.length := by rw [HN.out]; exact hlt
      obtain ⟨e, he⟩ : ∃ e, l[k]? = some e := ⟨_, List.getElem?_eq_getElem hkl⟩
      obtain ⟨a, rfl, hab, c0, c1, c2, ho⟩ := (HE.out.below hB.symm hfar).2.2 k e he
      have HGE := Lib.hid he
      clear he hkl
      go_wp2_with fail
      refine (Of20_any e _).mono ?_
      rintro r w2 ⟨rfl, hb2⟩
      have hR2 := hR.newB hb2
      have hf2 := hfar.trans (hb2.mono hsz)
      have hs2 : B ≤ w2.heap.size := by have := hb2.size; omega
      clear hR hfar hsz hb2 c0 c1 c2
      have hN : Blk (w2.alloc (.cells (entV e) 36)) w2.heap.size (entV e) 36 := Blk.newAt rfl
      have hRa := hR2.alloc (.cells (entV e) 36)
      have hsl := SL.blk hN (n := 1) (size := 3) rfl (by unfold maxLen; omega)
      have hvb : ∀ j, u3.ownBlock = some j → B ≤ j := fun j hj => (World.ownsRow.lt hR2.1 j hj).1
      have HVB := Lib.hid hvb
      clear hvb
      go_wp2_with (first | (refine bs1 26 rfl (by rfl) rfl Tryz.underlying26 el_Entry (by omega) (by omega) (by rfl) ?_) | (refine ap 26 rfl (by rfl) rfl B 36 i0 (.agg #[.int .i64 0, .int .u32 0, .string ⟨#[]⟩]) 3 32 Tryz.underlying26 hi hz0 hz1 hz2 rfl (by omega) rfl hRa.1 rfl hsl (fun u hu => flatE_one [e] u (by simpa using hu)) (by unfold maxLen; omega) (by omega) (by rw [World.size_alloc]; omega) ?_; intro v' w3 hown hgr _))
      have hf3 : Below B w w3 := (hf2.alloc hs2 _).grown hgr (by rw [World.size_alloc]; omega) (fun j hj => HVB.out j hj)
      have hs3 := hgr.size
      rw [World.size_alloc] at hs3
      go_roundw
      case rel => exact ⟨k + 1, hlt, by go_num, by rw [List.take_add_one, HGE.out, Option.toList_some, List.flatMap_append, List.flatMap_singleton]; exact OW.mk0 hown, hf3, by omega⟩
      case measure => simp [intOf]; omega
    · obtain rfl : k = n := by omega
      have ht : l.take k = l := by rw [← HN.out]; exact List.take_length
      rw [ht] at hR
      go_wp2_with fail
      go_ret
      exact ⟨u3, rfl, by rw [hB, HN.out]; exact hR, by rw [hB]; exact hfar⟩
theorem yieldsIf_neq {ops : Array Oper} {S : World → Prop} {op : Oper} {a : Act} (hw : Region.wanted op (yielded ops a.tmps) = true) (t : TypeId) {t2 : TypeId} {x y : Operand} (ho : op.op = .binOp .neq t x y t2)
    {xs ys : Array Value} (hx : a.eval x = .agg xs) (hy : a.eval y = .agg ys) (hg : Tryz.prog.eqGuardType Tryz.prog.depth t = false) {b : Bool} (he : ∀ w, (Op.equalIn 10000 t (.agg xs) (.agg ys)).run Tryz.prog w = .ok b w) : YieldsIf Tryz.prog ops S op (.bool (!b)) a :=
  .inl ⟨hw, fun w _ => by
    unfold execOp
    simp only [ho, hx, hy, Sem.run_bind, run_eqGuard_agg w .neq t x y xs ys hg, Result.andThen_ok, run_neq_struct, he]
    rfl⟩
theorem yieldsIf_eql {ops : Array Oper} {S : World → Prop} {op : Oper} {a : Act} (hw : Region.wanted op (yielded ops a.tmps) = true) (t : TypeId) {t2 : TypeId} {x y : Operand} (ho : op.op = .binOp .eql t x y t2)
    {xs ys : Array Value} (hx : a.eval x = .agg xs) (hy : a.eval y = .agg ys) (hg : Tryz.prog.eqGuardType Tryz.prog.depth t = false) {b : Bool} (he : ∀ w, (Op.equalIn 10000 t (.agg xs) (.agg ys)).run Tryz.prog w = .ok b w) : YieldsIf Tryz.prog ops S op (.bool b) a :=
  .inl ⟨hw, fun w _ => by
    unfold execOp
    simp only [ho, hx, hy, Sem.run_bind, run_eqGuard_agg w .eql t x y xs ys hg, Result.andThen_ok, run_eql_struct, he]
    rfl⟩
theorem eg_Block : Tryz.prog.eqGuardType Tryz.prog.depth 30 = false := by kernel_rfl
theorem eg_State : Tryz.prog.eqGuardType Tryz.prog.depth 33 = false := by kernel_rfl
theorem eq_block_self {b : List Int} (h : b.length = 16) (w : World) : (Op.equalIn 10000 30 (.agg (arrV b)) (.agg (arrV b))).run Tryz.prog w = .ok true w := by
  have := eq_block b b h h w
  rwa [beq_self_eq_true] at this
/-- A slice of blocks that is read. -/
def BS (W : World) (lo hi : Nat) (p : Option Addr) (cap : Nat) (A : List (List Int)) : Prop := SL W lo hi 16 p A.length cap (A.flatMap intsV)
theorem BS.get {W : World} {lo hi : Nat} {p : Option Addr} {cap : Nat} {A : List (List Int)} (h : BS W lo hi p cap A) (hA : ∀ b ∈ A, b.length = 16) {i : Nat} {b : List Int} (he : A[i]? = some b) : ∃ g o, p = some ⟨g, o, none⟩ ∧ lo ≤ g ∧ g < hi ∧ W.rangeAt g (o + i * 16) (intsV b) := by
  have hi : i < A.length := (List.getElem?_eq_some_iff.1 he).1
  obtain ⟨g, o, hp, h1, h2, h3⟩ := h.form (by omega)
  refine ⟨g, o, hp, h1, h2, fun j u hu => ?_⟩
  have hb := hA b (List.mem_of_getElem? he)
  have hj : j < 16 := by have := (List.getElem?_eq_some_iff.1 hu).1; rw [List.length_map, hb] at this; exact this
  rw [Nat.add_assoc]
  exact h3 _ u ((flat_get _ A (fun b hb => by rw [List.length_map]; exact hA b hb) he hj).trans hu)
theorem range_below {W W' : World} {g o n : Nat} {cs : List Value} (h : W.rangeAt g o cs) (hb : Below n W W') (hg : g < n) : W'.rangeAt g o cs := fun j v hv => (hb.cell (p := ⟨g, o + j, none⟩) hg).trans (h j v hv)
set_option maxRecDepth 100000 in
set_option maxHeartbeats 1600000 in
theorem Same_any (A : List (List Int)) (hA : ∀ b ∈ A, b.length = 16) (hl : A.length ≤ 1000) (lo1 hi1 lo2 hi2 : Nat) (p1 p2 : Option Addr) (c1 c2 : Nat) (w : World) (h1 : BS w lo1 hi1 p1 c1 A) (h2 : BS w lo2 hi2 p2 c2 A) :
    Calls Tryz.prog 11 #[.slice p1 A.length c1, .slice p2 A.length c2] w fun r w' => r = .returned (.int .i64 1) ∧ Below w.heap.size w w' := by
  have q1 := h1.2.1
  have q2 := h2.2.1
  have q3 := h1.2.2.1
  have q4 := h2.2.2.1
  unfold maxLen at q3 q4
  obtain ⟨n, hn⟩ : ∃ n, A.length = n := ⟨_, rfl⟩
  have HN := Lib.hid hn
  have HA := Lib.hid hA
  have H1 := Lib.hid h1
  have H2 := Lib.hid h2
  rw [hn] at hl q1 q2 ⊢
  clear hA h1 h2 hn
  go_enter Tryz.func11, Tryz.ntmps11
  go_wp2
  go_loopw [5] (fun i wr => ∃ k : Nat, k ≤ n ∧ i = .int .i64 k ∧ Below w.heap.size w wr) (fun i _ => n - (intOf i).toNat)
  case atStart => exact ⟨0, by omega, rfl, Below.refl _ _⟩
  case round =>
    obtain ⟨k, hk, rfl, hfar⟩ := hrel
    by_cases hlt : k < n
    · have hkl : k < A.length := by rw [HN.out]; exact hlt
      obtain ⟨b, he⟩ : ∃ b, A[k]? = some b := ⟨_, List.getElem?_eq_getElem hkl⟩
      obtain ⟨g1, o1, rfl, -, g1lt, r1⟩ := H1.out.get HA.out he
      obtain ⟨g2, o2, rfl, -, g2lt, r2⟩ := H2.out.get HA.out he
      have s1 := H1.out.2.2.2.1
      have s2 := H2.out.2.2.2.1
      have t1 := range_below r1 hfar (by omega)
      have t2 := range_below r2 hfar (by omega)
      have hb := HA.out b (List.mem_of_getElem? he)
      have ib : (Tryz.prog.info? 30).map (·.size) = some (intsV b).length := by rw [List.length_map, hb]; exact blockInfo
      have HB := Lib.hid hb
      clear he hkl r1 r2 hb
      go_upto_region 6 with (fail)
      refine wp_region_held_drew (S := fun W => W.rangeAt g1 (o1 + k * 16) (intsV b) ∧ W.rangeAt g2 (o2 + k * 16) (intsV b)) (by kernel_rfl) (⟨t1, t2⟩) (fun hH => ?_)
      refine wpAnyH_take (i := 0) (oi := { dst := some 17, op := Op.move (Operand.tmp 0), type := 40, pos := "law.go:44", after := _, guard := none }) (v := _) rfl (by kernel_rfl) (by kernel_rfl) (by kernel_rfl) (fun _ _ _ h => h) (.inl ⟨by rfl, fun w hS => by (go_simp; try rfl)⟩) hH ?_
      try simp only [Act.put, List.setIfInBounds_toArray, List.set_cons_zero, List.set_cons_succ]
      refine wpAnyH_take (i := 1) (oi := { dst := some 18, op := Op.move (Operand.tmp 5), type := 3, pos := "law.go:44", after := _, guard := none }) (v := _) rfl (by kernel_rfl) (by kernel_rfl) (by kernel_rfl) (fun _ _ _ h => h) (.inl ⟨by rfl, fun w hS => by (go_simp; try rfl)⟩) hH ?_
      try simp only [Act.put, List.setIfInBounds_toArray, List.set_cons_zero, List.set_cons_succ]
      refine wpAnyH_take (i := 2) (oi := { dst := some 19, op := Op.indexAddr 40 (Operand.tmp 17) (Operand.tmp 18), type := 0, pos := "law.go:44", after := _, guard := none }) (v := _) rfl (by kernel_rfl) (by kernel_rfl) (by kernel_rfl) (fun _ _ _ h => h) (.inl ⟨by rfl, fun w hS => by (go_simp; try rfl)⟩) hH ?_
      try simp only [Act.put, List.setIfInBounds_toArray, List.set_cons_zero, List.set_cons_succ]
      refine wpAnyH_take (i := 3) (oi := { dst := some 20, op := Op.load 30 (Operand.tmp 19), type := 30, pos := "law.go:44", after := _, guard := none }) (v := .agg (arrV b)) rfl (by kernel_rfl) (by kernel_rfl) (by kernel_rfl) (fun _ _ _ h => h) (yieldsIf_load_mid (by rfl) 30 _ rfl _ _ rfl (intsV b) _ (fun _ h => h.1) Tryz.underlying30 rfl ib) hH ?_
      try simp only [Act.put, List.setIfInBounds_toArray, List.set_cons_zero, List.set_cons_succ]
      refine wpAnyH_take (i := 4) (oi := { dst := some 21, op := Op.move (Operand.tmp 1), type := 40, pos := "law.go:44", after := _, guard := none }) (v := _) rfl (by kernel_rfl) (by kernel_rfl) (by kernel_rfl) (fun _ _ _ h => h) (.inl ⟨by rfl, fun w hS => by (go_simp; try rfl)⟩) hH ?_
      try simp only [Act.put, List.setIfInBounds_toArray, List.set_cons_zero, List.set_cons_succ]
      refine wpAnyH_take (i := 5) (oi := { dst := some 22, op := Op.move (Operand.tmp 5), type := 3, pos := "law.go:44", after := _, guard := none }) (v := _) rfl (by kernel_rfl) (by kernel_rfl) (by kernel_rfl) (fun _ _ _ h => h) (.inl ⟨by rfl, fun w hS => by (go_simp; try rfl)⟩) hH ?_
      try simp only [Act.put, List.setIfInBounds_toArray, List.set_cons_zero, List.set_cons_succ]
      refine wpAnyH_take (i := 6) (oi := { dst := some 23, op := Op.indexAddr 40 (Operand.tmp 21) (Operand.tmp 22), type := 0, pos := "law.go:44", after := _, guard := none }) (v := _) rfl (by kernel_rfl) (by kernel_rfl) (by kernel_rfl) (fun _ _ _ h => h) (.inl ⟨by rfl, fun w hS => by (go_simp; try rfl)⟩) hH ?_
      try simp only [Act.put, List.setIfInBounds_toArray, List.set_cons_zero, List.set_cons_succ]
      refine wpAnyH_take (i := 7) (oi := { dst := some 24, op := Op.load 30 (Operand.tmp 23), type := 30, pos := "law.go:44", after := _, guard := none }) (v := .agg (arrV b)) rfl (by kernel_rfl) (by kernel_rfl) (by kernel_rfl) (fun _ _ _ h => h) (yieldsIf_load_mid (by rfl) 30 _ rfl _ _ rfl (intsV b) _ (fun _ h => h.2) Tryz.underlying30 rfl ib) hH ?_
      try simp only [Act.put, List.setIfInBounds_toArray, List.set_cons_zero, List.set_cons_succ]
      refine wpAnyH_take (i := 8) (oi := { dst := some 25, op := Op.binOp BinOp.neq 30 (Operand.tmp 20) (Operand.tmp 24) 30, type := 4, pos := "law.go:44", after := _, guard := none }) (v := .bool false) rfl (by kernel_rfl) (by kernel_rfl) (by kernel_rfl) (fun _ _ _ h => h) (yieldsIf_neq (b := true) (by rfl) 30 rfl rfl rfl eg_Block (eq_block_self HB.out)) hH ?_
      try simp only [Act.put, List.setIfInBounds_toArray, List.set_cons_zero, List.set_cons_succ]
      refine wpAnyH_done (by kernel_rfl) ?_ _
      go_wp2_with fail
      go_roundw
      case rel => exact ⟨k + 1, by omega, by go_num, hfar.drew⟩
      case measure => simp [intOf]; omega
    · obtain rfl : k = n := by omega
      go_wp2_with fail
      go_ret
      exact ⟨rfl, hfar⟩
end Go.Proofs.YtbpdocdomjafbaaGreatDoor

namespace Go.Proofs.YtbpdocdomjafbaaGreatDoor
open Go.RowKit

def gapE (sp : Int) : Ent := ⟨2, sp, ⟨#[]⟩⟩
set_option maxRecDepth 100000 in
set_option maxHeartbeats 1000000 in
theorem EGap_any (sp : Int) (w : World) : Calls Tryz.prog 13 #[.int .u32 sp] w fun r w' => r = .returned (.agg (entV (gapE sp))) ∧ Below w.heap.size w w' := by
  obtain ⟨B, hB⟩ : ∃ B, w.heap.size = B := ⟨_, rfl⟩
  have hfar := Below.refl B w
  have hsz : B ≤ w.heap.size := by omega
  go_enter Tryz.func13, Tryz.ntmps13
  go_upto_region 1 with (fail)
  refine wp_gen (fun W => Blk W (B) (#[.int .i64 0, .int .u32 0, .string ⟨#[]⟩]) 36 ∧ Below (B) w W ∧ B + 1 ≤ W.heap.size) ⟨bk_, bl_, sz_⟩ ?_
  clear hfar hsz
  rintro w1 ⟨hR, hfar, hsz⟩
  go_wp2_with (first | (refine st 36 rfl (by rfl) w_Entry rfl rfl bk_ zz_ zz_ one_ ?_) | (refine ld 36 rfl (by rfl) w_Entry rfl bk_ zz_ ?_) | (refine bd 33 rfl (by rfl) rfl state_zs ?_) | (refine bd 30 rfl (by rfl) rfl block_zs ?_) | (refine ld 33 rfl (by rfl) w_State rfl bk_ lz_ ?_) | (refine ld 30 rfl (by rfl) w_Block rfl bk_ lz_ ?_) | (refine ldp 30 rfl (by rfl) w_Block rfl bk_ ln_ (by omega) ?_) | (refine ld 31 rfl (by rfl) w_Four rfl bk_ lz_ ?_) | (refine ldp 31 rfl (by rfl) w_Four rfl bk_ ln_ (by omega) ?_) | (refine st 33 rfl (by rfl) w_State rfl rfl bk_ lz_ lz_ one_ ?_) | (refine st 30 rfl (by rfl) w_Block rfl rfl bk_ lz_ lz_ one_ ?_) | (refine st 31 rfl (by rfl) w_Four rfl rfl bk_ lz_ lz_ one_ ?_))
  exact bodyPost_ret (v := .agg #[.int .i64 2, .int .u32 sp, .string ⟨#[]⟩]) (res_c Tryz.results13 rfl w_Entry (by exact bk_) rfl) rfl ⟨rfl, (by (try rw [hB]); exact bl_)⟩
def L7 : List Int := List.replicate 16 0 ++ [7] ++ List.replicate 21 0
theorem L7_built : Tryz.prog.built 33 [(1, .int .i64 7)] = some (arrV L7) := by kernel_rfl
theorem L7_right : rightS L7 = true := by decide +kernel
theorem L7_len : L7.length = 38 := rfl
theorem gapE_right (sp : Int) : rightE (gapE sp) = true := rfl
theorem gap_step {L : List Int} (h : rightS L = true) (sp : Int) : stepO L (gapE sp) = [loseO L] ∧ stepS L (gapE sp) = List.replicate 38 0 := by
  unfold stepO stepS
  rw [gapE_right, h]
  exact ⟨rfl, rfl⟩
theorem SL.of_blk {W : World} {b size n : Nat} {cs : Array Value} {t : TypeId} (h : Blk W b cs t) (hs : cs.size = n * size) (hn : n ≤ maxLen) : SL W b (b + 1) size (some ⟨b, 0, none⟩) n n cs.toList := SL.blk h hs hn
theorem eq_state_self {L : List Int} (h : Len L 38) (w : World) : (Op.equalIn 10000 33 (.agg (arrV L)) (.agg (arrV L))).run Tryz.prog w = .ok true w := eq_state L h.out w
end Go.Proofs.YtbpdocdomjafbaaGreatDoor

namespace Go.Proofs.YtbpdocdomjafbaaGreatDoor
open Go.RowKit

abbrev flE (l : List Ent) : List Value := l.flatMap fun e => (entV e).toList
end Go.Proofs.YtbpdocdomjafbaaGreatDoor
