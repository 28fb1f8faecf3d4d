/- A recorder without a disk as it lies in memory. -/
import Derived.Test.YtkoljgmapclhkaaGreatDoorSpecMod
import Derived.Test.YtkoljgmapclhkaaGreatDoorLot15
import Derived.Test.YtkoljgmapclhkaaGreatDoorLot11
import Derived.Test.YtkoljgmapclhkaaGreatDoorLot13
import Derived.Maps.AppendAt
set_option linter.unusedSimpArgs false
set_option linter.unusedVariables false
namespace Go.Proofs.YtkoljgmapclhkaaGreatDoor
open Go.RowKit

theorem w_Model : Whole 83 105 := ⟨_, Tryz.underlying83, rfl, by kernel_rfl⟩
theorem w_Reply : Whole 46 2 := ⟨_, Tryz.underlying46, rfl, by kernel_rfl⟩
theorem w_Mact : Whole 50 3 := ⟨_, Tryz.underlying50, rfl, by kernel_rfl⟩
/-- Cells set one by one in the midst of a block. -/
theorem Blk.setCells : ∀ (vs : List Value) {W : World} {b o : Nat} {l : List Value} {t : TypeId}, Blk W b l.toArray t → o + vs.length ≤ l.length → Blk (W.setCells b o vs) b (l.take o ++ vs ++ l.drop (o + vs.length)).toArray t := by
  intro vs
  induction vs with
  | nil => intro W b o l t h _; simpa [World.setCells] using h
  | cons u r ih =>
    intro W b o l t h hl
    rw [List.length_cons] at hl
    have h1 : Blk (W.setCell ⟨b, o, none⟩ u) b (l.set o u).toArray t := by have := h.set o u; rwa [List.setIfInBounds_toArray] at this
    have h2 := ih (o := o + 1) h1 (by rw [List.length_set]; omega)
    refine h2.mk_eq ?_
    have e : l.set o u = l.take o ++ u :: l.drop (o + 1) := by rw [List.set_eq_take_append_cons_drop, if_pos (by omega)]
    have e1 : (l.set o u).take (o + 1) = l.take o ++ [u] := by
      rw [e, List.take_append, List.length_take, Nat.min_eq_left (by omega), List.take_take, Nat.min_eq_right (by omega), show o + 1 - o = 1 by omega]; rfl
    have e2 : (l.set o u).drop (o + 1 + r.length) = l.drop (o + (u :: r).length) := by
      rw [List.drop_set_of_lt (by omega), List.length_cons]; congr 1; omega
    rw [e1, e2]
    simp
theorem Kept.setCells {S : Nat → Prop} {w : World} {g : Nat} : ∀ (vs : List Value) {w' : World} (o : Nat), Kept S w w' → S g ∨ w.heap.size ≤ g → Kept S w (w'.setCells g o vs) := by
  intro vs
  induction vs with
  | nil => intro w' o h _; exact h
  | cons u r ih => intro w' o h hg; exact ih (o + 1) (h.setCell (p := ⟨g, o, none⟩) hg u) hg
theorem size_setCells (g : Nat) : ∀ (vs : List Value) (w : World) (o : Nat), (w.setCells g o vs).heap.size = w.heap.size := by
  intro vs
  induction vs with
  | nil => intro w o; rfl
  | cons u r ih => intro w o; rw [World.setCells, ih, World.size_setCell]
/-- A whole stored into the midst of a block. -/
theorem stm {ops : Array Oper} {rest : List Oper} {op : Oper} {a : Act} {w : World} {Q : Exit → Act → World → Prop} (ty : TypeId) {x y : Operand} (ho : op.op = .store ty x y) (hwd : Region.wanted op (yielded ops a.tmps) = true) {n : Nat} (hW : Whole ty n)
    {b o : Nat} (hx : a.eval x = .pointer (some ⟨b, o, none⟩)) {new : Array Value} (hy : a.eval y = .agg new) {cs : Array Value} {t : TypeId} (hb : Blk w b cs t) (hs : o + n ≤ cs.size) (hn : new.size = n) (h1 : new.all (·.oneCell') = true)
    (h : wpList Tryz.prog ops Q rest (a.put op.dst undef) (w.setCells b o new.toList)) : wpList Tryz.prog ops Q (op :: rest) a w :=
  wpList_step fun K hK => by
    rw [if_pos hwd]
    obtain ⟨d, hu, hd, hi⟩ := hW
    refine wp_store_mid ty x y ho b o new hx hy (fun j hj => ?_) (by rw [hi, hn]) h1 (hK _ _ h)
    rw [hb.cell, hb.frozen]
    exact ⟨by rw [Array.getElem?_eq_getElem (by omega)]; rfl, rfl⟩
theorem wp_stm {op : Oper} {a : Act} {w : World} {K : Act → World → Prop} {Q : Exit → Act → World → Prop} (ty : TypeId) {x y : Operand} (ho : op.op = .store ty x y) {n : Nat} (hW : Whole ty n)
    {b o : Nat} (hx : a.eval x = .pointer (some ⟨b, o, none⟩)) {new : Array Value} (hy : a.eval y = .agg new) {cs : Array Value} {t : TypeId} (hb : Blk w b cs t) (hs : o + n ≤ cs.size) (hn : new.size = n) (h1 : new.all (·.oneCell') = true)
    (h : K (a.put op.dst undef) (w.setCells b o new.toList)) : op.wp Tryz.prog a w K Q := by
  obtain ⟨d, hu, hd, hi⟩ := hW
  refine wp_store_mid ty x y ho b o new hx hy (fun j hj => ?_) (by rw [hi, hn]) h1 h
  rw [hb.cell, hb.frozen]
  exact ⟨by rw [Array.getElem?_eq_getElem (by omega)]; rfl, rfl⟩
def tailM (M : Mst) : List Value := [.bool M.run, .bool M.fro, .int .i64 M.now, .int .i64 M.syn, .int .i64 M.sin, .int .i64 M.fuse]
def headM (M : Mst) (v : Value) : List Value := [.int .i64 M.sz, .int .i64 M.sy, .int .i64 M.ck, .int .i64 M.pages, .int .i64 M.next, v]
/-- The cells of a recorder. -/
def modL (M : Mst) (v : Value) : List Value := headM M v ++ (intsV M.st ++ (intsV M.e.l ++ tailM M))
def modA (M : Mst) (v : Value) : Array Value := (modL M v).toArray
structure MB (W : World) (g : Nat) (M : Mst) (v : Value) : Prop where
  blk : Blk W g (modA M v) 83
  own : W.ownsRow (g + 1) 92 3 v M.ents.length (flE M.ents)
  l38 : M.st.length = 38
  l55 : M.e.l.length = 55
theorem modL_len {M : Mst} {v : Value} (h : M.st.length = 38) (h2 : M.e.l.length = 55) : (modL M v).length = 105 := by
  unfold modL headM tailM; simp only [List.length_append, List.length_map, List.length_cons, List.length_nil, h, h2]
theorem modL_head (M : Mst) (v : Value) {k : Nat} (hk : k < 6) : (modL M v)[k]? = (headM M v)[k]? := by
  unfold modL; rw [List.getElem?_append_left (by exact hk)]
theorem modL_st {M : Mst} {v : Value} (h : M.st.length = 38) {k : Nat} (hk : k < 38) : (modL M v)[6 + k]? = (intsV M.st)[k]? := by
  have hl : (headM M v).length = 6 := rfl
  unfold modL
  rw [List.getElem?_append_right (by omega), hl, show 6 + k - 6 = k by omega, List.getElem?_append_left (by rw [List.length_map, h]; exact hk)]
theorem modL_e {M : Mst} {v : Value} (h : M.st.length = 38) (h2 : M.e.l.length = 55) {k : Nat} (hk : k < 55) : (modL M v)[44 + k]? = (intsV M.e.l)[k]? := by
  have hl : (headM M v).length = 6 := rfl
  unfold modL
  rw [List.getElem?_append_right (by omega), hl, List.getElem?_append_right (by rw [List.length_map, h]; omega), List.length_map, h, show 44 + k - 6 - 38 = k by omega, List.getElem?_append_left (by rw [List.length_map, h2]; exact hk)]
theorem modL_tail {M : Mst} {v : Value} (h : M.st.length = 38) (h2 : M.e.l.length = 55) (k : Nat) : (modL M v)[99 + k]? = (tailM M)[k]? := by
  have hl : (headM M v).length = 6 := rfl
  unfold modL
  rw [List.getElem?_append_right (by omega), hl, List.getElem?_append_right (by rw [List.length_map, h]; omega), List.length_map, h, List.getElem?_append_right (by rw [List.length_map, h2]; omega), List.length_map, h2, show 99 + k - 6 - 38 - 55 = k by omega]
theorem modL_set {M : Mst} {v : Value} (h : M.st.length = 38) (h2 : M.e.l.length = 55) (k : Nat) (u : Value) : (modL M v).set (99 + k) u = headM M v ++ (intsV M.st ++ (intsV M.e.l ++ (tailM M).set k u)) := by
  have hl : (headM M v).length = 6 := rfl
  unfold modL
  rw [List.set_append_right _ _ (by omega), hl, List.set_append_right _ _ (by rw [List.length_map, h]; omega), List.length_map, h, List.set_append_right _ _ (by rw [List.length_map, h2]; omega), List.length_map, h2, show 99 + k - 6 - 38 - 55 = k by omega]
namespace MB
variable {W W' : World} {g : Nat} {M : Mst} {v : Value}
theorem lt (h : MB W g M v) : g < W.heap.size := h.blk.lt
theorem olt (h : MB W g M v) : ∀ k, v.ownBlock = some k → g < k ∧ k < W.heap.size := fun k hk => World.ownsRow.lt h.own k hk
/-- What the single cells hold. -/
theorem cells (h : MB W g M v) : (W.cell? ⟨g, 0, none⟩ = some (.int .i64 M.sz) ∧ W.cell? ⟨g, 1, none⟩ = some (.int .i64 M.sy) ∧ W.cell? ⟨g, 2, none⟩ = some (.int .i64 M.ck) ∧ W.cell? ⟨g, 3, none⟩ = some (.int .i64 M.pages) ∧ W.cell? ⟨g, 4, none⟩ = some (.int .i64 M.next) ∧ W.cell? ⟨g, 5, none⟩ = some v) ∧
    W.cell? ⟨g, 99, none⟩ = some (.bool M.run) ∧ W.cell? ⟨g, 100, none⟩ = some (.bool M.fro) ∧ W.cell? ⟨g, 101, none⟩ = some (.int .i64 M.now) ∧ W.cell? ⟨g, 102, none⟩ = some (.int .i64 M.syn) ∧ W.cell? ⟨g, 103, none⟩ = some (.int .i64 M.sin) ∧ W.cell? ⟨g, 104, none⟩ = some (.int .i64 M.fuse) := by
  have hb := fun i => h.blk.cell i
  have e : ∀ i : Nat, (modA M v)[i]? = (modL M v)[i]? := fun i => List.getElem?_toArray
  have hd := fun k hk => (e k).trans (modL_head M v (k := k) hk)
  have ht := fun k => (e (99 + k)).trans (modL_tail (v := v) h.l38 h.l55 k)
  exact ⟨⟨(hb 0).trans (hd 0 (by omega)), (hb 1).trans (hd 1 (by omega)), (hb 2).trans (hd 2 (by omega)), (hb 3).trans (hd 3 (by omega)), (hb 4).trans (hd 4 (by omega)), (hb 5).trans (hd 5 (by omega))⟩,
    (hb 99).trans (ht 0), (hb 100).trans (ht 1), (hb 101).trans (ht 2), (hb 102).trans (ht 3), (hb 103).trans (ht 4), (hb 104).trans (ht 5)⟩
theorem frz (h : MB W g M v) (i : Nat) : W.frozen? ⟨g, i, none⟩ = false := h.blk.frozen i
theorem atSt (h : MB W g M v) : W.rangeAt g 6 (intsV M.st) := fun j u hu => by
  have hj : j < 38 := by have := (List.getElem?_eq_some_iff.1 hu).1; rwa [List.length_map, h.l38] at this
  rw [h.blk.cell, modA, List.getElem?_toArray, modL_st h.l38 hj]; exact hu
theorem atE (h : MB W g M v) : W.rangeAt g 44 (intsV M.e.l) := fun j u hu => by
  have hj : j < 55 := by have := (List.getElem?_eq_some_iff.1 hu).1; rwa [List.length_map, h.l55] at this
  rw [h.blk.cell, modA, List.getElem?_toArray, modL_e h.l38 h.l55 hj]; exact hu
theorem size (h : MB W g M v) : (modA M v).size = 105 := by unfold modA; rw [List.size_toArray]; exact modL_len h.l38 h.l55
/-- Kept, whatever else turns. -/
theorem keep {S : Nat → Prop} (h : MB W g M v) (hk : Kept S W W') (hg : ¬ S g) (hv : ∀ k, v.ownBlock = some k → ¬ S k) : MB W' g M v := by
  refine ⟨h.blk.keep hk hg, ⟨h.own.1, ?_⟩, h.l38, h.l55⟩
  rcases h.own.2 with hl | ⟨b, cap, cur, rfl, hb, hc, rest⟩
  · exact .inl hl
  · have hlt := (Array.getElem?_eq_some_iff.1 hc).1
    exact .inr ⟨b, cap, cur, rfl, hb, (hk.block b hlt (hv b rfl)).trans hc, rest⟩
theorem newB (h : MB W g M v) (hb : Below W.heap.size W W') : MB W' g M v := h.keep (S := fun _ => False) (Kept.of_below hb) id (fun _ _ => id)
theorem drew (h : MB W g M v) : MB W.drew g M v := ⟨h.blk, h.own, h.l38, h.l55⟩
theorem drewN (h : MB W g M v) (n : Nat) : MB (W.drewN n) g M v := ⟨h.blk, h.own, h.l38, h.l55⟩
theorem alloc (h : MB W g M v) (o : Obj) : MB (W.alloc o) g M v := h.newB ((Below.refl _ _).alloc (Nat.le_refl _) o)
theorem far (h : MB W g M v) {b : Nat} (hb : W.heap.size ≤ b) (p : Addr) (hp : p.block = b) (u : Value) : MB (W.setCell p u) g M v := h.newB ((Below.refl _ _).setCell (by rw [hp]; exact hb) u)
theorem setRow (h : MB W g M v) {b : Nat} (hb : b ≠ g) (hv : ∀ k, v.ownBlock = some k → k ≠ b) (new : Array Value) : MB (W.setRow b new) g M v :=
  h.keep (S := fun k => k = b) (Kept.setRow (S := fun k => k = b) (Kept.refl _ _) (.inl rfl) new) (fun e => hb e.symm) hv
/-- One of the last six cells set. -/
theorem setT (h : MB W g M v) (k : Nat) (u : Value) {N : Mst} (h1 : headM M v = headM N v) (h2 : M.st = N.st) (h3 : M.e.l = N.e.l) (h4 : (tailM M).set k u = tailM N) (h5 : M.ents = N.ents) : MB (W.setCell ⟨g, 99 + k, none⟩ u) g N v := by
  refine ⟨?_, ?_, h2 ▸ h.l38, h3 ▸ h.l55⟩
  · refine (h.blk.set (99 + k) u).mk_eq ?_
    unfold modA
    rw [List.setIfInBounds_toArray, modL_set h.l38 h.l55, h1, h2, h3, h4]; rfl
  · rw [← h5]; exact own_setCell h.own (by show g < g + 1; omega) u
theorem setRun (h : MB W g M v) (b : Bool) : MB (W.setCell ⟨g, 99, none⟩ (.bool b)) g { M with run := b } v := h.setT 0 (.bool b) rfl rfl rfl rfl rfl
theorem setFro (h : MB W g M v) (b : Bool) : MB (W.setCell ⟨g, 100, none⟩ (.bool b)) g { M with fro := b } v := h.setT 1 (.bool b) rfl rfl rfl rfl rfl
theorem setNow (h : MB W g M v) (x : Int) : MB (W.setCell ⟨g, 101, none⟩ (.int .i64 x)) g { M with now := x } v := h.setT 2 (.int .i64 x) rfl rfl rfl rfl rfl
theorem setSyn (h : MB W g M v) (x : Int) : MB (W.setCell ⟨g, 102, none⟩ (.int .i64 x)) g { M with syn := x } v := h.setT 3 (.int .i64 x) rfl rfl rfl rfl rfl
theorem setSin (h : MB W g M v) (x : Int) : MB (W.setCell ⟨g, 103, none⟩ (.int .i64 x)) g { M with sin := x } v := h.setT 4 (.int .i64 x) rfl rfl rfl rfl rfl
theorem setFuse (h : MB W g M v) (x : Int) : MB (W.setCell ⟨g, 104, none⟩ (.int .i64 x)) g { M with fuse := x } v := h.setT 5 (.int .i64 x) rfl rfl rfl rfl rfl
theorem setNext (h : MB W g M v) {x : Int} {n : Nat} (hx : x = n) : MB (W.setCell ⟨g, 4, none⟩ (.int .i64 x)) g { M with next := n } v := by
  subst hx
  refine ⟨?_, own_setCell h.own (by show g < g + 1; omega) _, h.l38, h.l55⟩
  refine (h.blk.set 4 (.int .i64 n)).mk_eq ?_
  unfold modA
  rw [List.setIfInBounds_toArray]; rfl
/-- The entries, one more. -/
theorem setEnts (h : Blk W g (modA M v) 83) (l38 : M.st.length = 38) (l55 : M.e.l.length = 55) {xs : List Ent} {v' : Value} (ho : W.ownsRow (g + 1) 92 3 v' xs.length (flE xs)) : MB (W.setCell ⟨g, 5, none⟩ v') g { M with ents := xs } v' := by
  refine ⟨?_, own_setCell ho (by show g < g + 1; omega) _, l38, l55⟩
  refine (h.set 5 v').mk_eq ?_
  unfold modA
  rw [List.setIfInBounds_toArray]; rfl
theorem setSt (h : MB W g M v) {L : List Int} (hL : L.length = 38) : MB (W.setCells g 6 (intsV L)) g { M with st := L } v := by
  have hk := Kept.setCells (S := fun k => k = g) (intsV L) 6 (Kept.refl _ W) (.inl rfl)
  refine ⟨?_, ?_, hL, h.l55⟩
  · have hl : (intsV L).length = 38 := by rw [List.length_map, hL]
    have hh : (headM M v).length = 6 := rfl
    have hs : (intsV M.st).length = 38 := by rw [List.length_map, h.l38]
    refine (Blk.setCells (intsV L) (l := modL M v) (o := 6) h.blk (by rw [modL_len h.l38 h.l55, hl]; omega)).mk_eq ?_
    have e1 : (modL M v).take 6 = headM M v := by unfold modL; rw [List.take_left' hh]
    have e2 : (modL M v).drop (6 + (intsV L).length) = intsV M.e.l ++ tailM M := by
      rw [hl, ← List.drop_drop]
      unfold modL
      rw [List.drop_left' hh, List.drop_left' hs]
    rw [e1, e2]
    unfold modA modL
    rw [List.append_assoc]; rfl
  · exact own_keep h.own hk (fun k hk => by subst hk; exact .inl (Nat.lt_succ_self _))
theorem setE (h : MB W g M v) {e : ESt} (he : e.l.length = 55) : MB (W.setCells g 44 (intsV e.l)) g { M with e := e } v := by
  have hk := Kept.setCells (S := fun k => k = g) (intsV e.l) 44 (Kept.refl _ W) (.inl rfl)
  refine ⟨?_, ?_, h.l38, he⟩
  · have hl : (intsV e.l).length = 55 := by rw [List.length_map, he]
    have hh : (headM M v ++ intsV M.st).length = 44 := by rw [List.length_append, List.length_map, h.l38]; rfl
    have hs : (intsV M.e.l).length = 55 := by rw [List.length_map, h.l55]
    refine (Blk.setCells (intsV e.l) (l := modL M v) (o := 44) h.blk (by rw [modL_len h.l38 h.l55, hl]; omega)).mk_eq ?_
    have e0 : modL M v = (headM M v ++ intsV M.st) ++ (intsV M.e.l ++ tailM M) := by unfold modL; rw [List.append_assoc]
    have e1 : (modL M v).take 44 = headM M v ++ intsV M.st := by rw [e0, List.take_left' hh]
    have e2 : (modL M v).drop (44 + (intsV e.l).length) = tailM M := by
      rw [hl, ← List.drop_drop, e0, List.drop_left' hh, List.drop_left' hs]
    rw [e1, e2]
    unfold modA modL
    rw [List.append_assoc, List.append_assoc]; rfl
  · exact own_keep h.own hk (fun k hk => by subst hk; exact .inl (Nat.lt_succ_self _))
end MB
/-- What an act may turn. -/
structure Trn (g : Nat) (v v' : Value) (w w' : World) : Prop where
  kept : Kept (fun k => k = g ∨ v.ownBlock = some k) w w'
  row : ∀ k, v'.ownBlock = some k → v.ownBlock = some k ∨ w.heap.size ≤ k
namespace Trn
variable {g : Nat} {v v' v'' : Value} {w w' w'' : World}
theorem refl (g : Nat) (v : Value) (w : World) : Trn g v v w w := ⟨Kept.refl _ _, fun _ h => .inl h⟩
theorem trans (h : Trn g v v' w w') (k : Trn g v' v'' w' w'') : Trn g v v'' w w'' :=
  ⟨h.kept.andThen k.kept (fun i hi => by
    rcases hi with rfl | hi
    · exact .inl (.inl rfl)
    · rcases h.row i hi with h1 | h1
      · exact .inl (.inr h1)
      · exact .inr h1), fun i hi => by
    rcases k.row i hi with h1 | h1
    · exact h.row i h1
    · exact .inr (Nat.le_trans h.kept.size h1)⟩
theorem thenB (h : Trn g v v' w w') (k : Below w'.heap.size w' w'') : Trn g v v' w w'' := ⟨h.kept.thenBelow k, h.row⟩
theorem ofB (g : Nat) (v : Value) (k : Below w.heap.size w w') : Trn g v v w w' := ⟨Kept.of_below k, fun _ h => .inl h⟩
theorem here (h : Trn g v v' w w') (p : Addr) (hp : p.block = g) (u : Value) : Trn g v v' w (w'.setCell p u) := ⟨h.kept.setCell (.inl (.inl hp)) u, h.row⟩
theorem heres (h : Trn g v v' w w') (o : Nat) (vs : List Value) : Trn g v v' w (w'.setCells g o vs) := ⟨Kept.setCells vs o h.kept (.inl (.inl rfl)), h.row⟩
theorem drew (h : Trn g v v' w w') : Trn g v v' w w'.drew := ⟨h.kept.drew, h.row⟩
theorem alloc (h : Trn g v v' w w') (o : Obj) : Trn g v v' w (w'.alloc o) := ⟨h.kept.alloc o, h.row⟩
theorem size (h : Trn g v v' w w') : w.heap.size ≤ w'.heap.size := h.kept.size
theorem far (h : Trn g v v' w w') {b : Nat} (hb : w.heap.size ≤ b) (new : Array Value) : Trn g v v' w (w'.setRow b new) := ⟨h.kept.setRow (.inr hb) new, h.row⟩
/-- What lies apart stays. -/
theorem blk (h : Trn g v v' w w') {b : Nat} {cs : Array Value} {t : TypeId} (hb : Blk w b cs t) (hg : b ≠ g) (hv : v.ownBlock ≠ some b) : Blk w' b cs t := hb.keep h.kept (fun e => e.elim hg hv)
theorem below (h : Trn g v v' w w') {M : Mst} (hM : MB w g M v) {n : Nat} (hn : n ≤ g) : Below n w w' :=
  h.kept.below (fun k hk => by
    rcases hk with rfl | hk
    · exact hn
    · have := (hM.olt k hk).1; omega) (by have := hM.lt; omega)
end Trn
/-- A value's row lies ahead of a block. -/
structure VB (v : Value) (B : Nat) : Prop where
  out : ∀ k, v.ownBlock = some k → k < B
theorem MB.vb {W : World} {g : Nat} {M : Mst} {v : Value} (h : MB W g M v) {B : Nat} (hB : W.heap.size = B) : VB v B := ⟨fun k hk => by have := (h.olt k hk).2; omega⟩
theorem VB.le {v : Value} {B C : Nat} (h : VB v B) (hC : B ≤ C) : VB v C := ⟨fun k hk => by have := h.out k hk; omega⟩
theorem MB.setRowF {W : World} {g : Nat} {M : Mst} {v : Value} (h : MB W g M v) {b B : Nat} (hv : VB v B) (hb : B ≤ b) (hg : b ≠ g) (new : Array Value) : MB (W.setRow b new) g M v :=
  h.setRow hg (fun k hk => by have := hv.out k hk; omega) new
theorem mb_ {W : World} {g : Nat} {M : Mst} {v : Value} (h : MB W g M v := by repeat' first | (with_reducible first | assumption | apply MB.drew | apply MB.drewN | apply MB.alloc) | ((with_reducible apply MB.setRowF); rotate_left; (with_reducible assumption); omega; omega) | ((with_reducible apply MB.newB); rotate_left; (with_reducible assumption))) : MB W g M v := h
theorem kq_ {S : Nat → Prop} {a w : World} (h : Kept S a w := by repeat' first | (with_reducible first | assumption | exact Kept.refl _ _ | apply Kept.drew | apply Kept.drewN) | ((with_reducible apply Kept.setRow); rotate_left; (right; omega)) | ((with_reducible apply Kept.setCell); rotate_left; (first | exact .inl (.inl rfl) | (right; omega))) | (with_reducible apply Kept.alloc) | ((with_reducible apply Kept.thenBelow); rotate_left; (with_reducible assumption))) : Kept S a w := h
/-- The table lies apart. -/
theorem mb_bands {w : World} {g : Nat} {M : Mst} {v : Value} (h : MB w g M v) (hW : BandsW w) : 0 < g ∧ v.ownBlock ≠ some 0 := by
  refine ⟨Nat.pos_of_ne_zero fun e => ?_, fun e => by have := (h.olt 0 e).1; omega⟩
  subst e
  have h1 := h.blk
  have h2 : Blk w 0 bandC 164 := hW
  have h3 := Option.some.inj (h1.symm.trans h2)
  injection h3 with _ h5
  exact absurd h5 (by decide)
/-- What an act that answers an error and no sound leaves. -/
def RetR (w : World) (g : Nat) (v : Value) (p : Mst × Int) (e : Ending) (w' : World) : Prop :=
  ∃ v', e = .returned (.agg #[.int .i64 p.2, .slice none 0 0]) ∧ MB w' g p.1 v' ∧ Trn g v v' w w'
def RetE (w : World) (g : Nat) (v : Value) (p : Mst × Int) (e : Ending) (w' : World) : Prop :=
  ∃ v', e = .returned (.int .i64 p.2) ∧ MB w' g p.1 v' ∧ Trn g v v' w w'
end Go.Proofs.YtkoljgmapclhkaaGreatDoor
