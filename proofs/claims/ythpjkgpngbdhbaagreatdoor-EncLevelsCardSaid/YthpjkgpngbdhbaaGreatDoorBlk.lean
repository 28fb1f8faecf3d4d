/- Slices of blocks that are read; wholes compared. -/
import Derived.Test.YthpjkgpngbdhbaaGreatDoorLot6
import Derived.Deep.RegionHeldLaw
import Derived.Laws.StructEq
set_option linter.unusedSimpArgs false
set_option linter.unusedVariables false
namespace Go.Proofs.YthpjkgpngbdhbaaGreatDoor
open Go.RowKit

theorem info_Block : (Tryz.prog.info? 32).map (fun i => (i.zero, i.size, i.bytes)) = some (some (.agg #[.int .i64 0, .int .i64 0, .int .i64 0, .int .i64 0, .int .i64 0, .int .i64 0, .int .i64 0, .int .i64 0, .int .i64 0, .int .i64 0, .int .i64 0, .int .i64 0, .int .i64 0, .int .i64 0, .int .i64 0, .int .i64 0]), 16, 128) := by kernel_rfl
theorem flatB_one (l : List (List Int)) : ∀ u ∈ l.flatMap intsV, u.oneCell' = true := by
  intro u hu
  obtain ⟨b, _, hb⟩ := List.mem_flatMap.1 hu
  exact ints_one b u hb
/-- A load of what lies in the midst of a block. -/
theorem ldr {ops : Array Oper} {rest : List Oper} {op : Oper} {a : Act} {w : World} {Q : Exit → Act → World → Prop} (ty : TypeId) {x : Operand} (ho : op.op = .load ty x) (hwd : Region.wanted op (yielded ops a.tmps) = true) {n : Nat} (hW : Whole ty n)
    {b o : Nat} (hx : a.eval x = .pointer (some ⟨b, o, none⟩)) {cs : Array Value} (hb : w.rangeAt b o cs.toList) (hs : cs.size = n) (h : wpList Tryz.prog ops Q rest (a.put op.dst (.agg cs)) w) : wpList Tryz.prog ops Q (op :: rest) a w :=
  wpList_step fun _ hK => by
    rw [if_pos hwd]
    obtain ⟨d, hu, hd, hi⟩ := hW
    exact wp_load_mid ty x ho b o hx cs.toList d hb hu hd (by rw [hi, Array.length_toList, hs]) (by simpa using hK _ _ h)
theorem yieldsIf_neq {ops : Array Oper} {S : World → Prop} {op : Oper} {a : Act} (hw : Region.wanted op (yielded ops a.tmps) = true) (t : TypeId) {t2 : TypeId} {x y : Operand} (ho : op.op = .binOp .neq t x y t2)
    {xs ys : Array Value} (hx : a.eval x = .agg xs) (hy : a.eval y = .agg ys) (hg : Tryz.prog.eqGuardType Tryz.prog.depth t = false) {b : Bool} (he : ∀ w, (Op.equalIn 10000 t (.agg xs) (.agg ys)).run Tryz.prog w = .ok b w) : YieldsIf Tryz.prog ops S op (.bool (!b)) a :=
  .inl ⟨hw, fun w _ => by
    unfold execOp
    simp only [ho, hx, hy, Sem.run_bind, run_eqGuard_agg w .neq t x y xs ys hg, Result.andThen_ok, run_neq_struct, he]
    rfl⟩
theorem yieldsIf_eql {ops : Array Oper} {S : World → Prop} {op : Oper} {a : Act} (hw : Region.wanted op (yielded ops a.tmps) = true) (t : TypeId) {t2 : TypeId} {x y : Operand} (ho : op.op = .binOp .eql t x y t2)
    {xs ys : Array Value} (hx : a.eval x = .agg xs) (hy : a.eval y = .agg ys) (hg : Tryz.prog.eqGuardType Tryz.prog.depth t = false) {b : Bool} (he : ∀ w, (Op.equalIn 10000 t (.agg xs) (.agg ys)).run Tryz.prog w = .ok b w) : YieldsIf Tryz.prog ops S op (.bool b) a :=
  .inl ⟨hw, fun w _ => by
    unfold execOp
    simp only [ho, hx, hy, Sem.run_bind, run_eqGuard_agg w .eql t x y xs ys hg, Result.andThen_ok, run_eql_struct, he]
    rfl⟩
theorem eg_Block : Tryz.prog.eqGuardType Tryz.prog.depth 32 = false := by kernel_rfl
theorem eg_State : Tryz.prog.eqGuardType Tryz.prog.depth 34 = false := by kernel_rfl
theorem eq_block_self {b : List Int} (h : b.length = 16) (w : World) : (Op.equalIn 10000 32 (.agg (arrV b)) (.agg (arrV b))).run Tryz.prog w = .ok true w := by
  have := eq_block b b h h w
  rwa [beq_self_eq_true] at this
/-- A slice of blocks that is read. -/
def BS (W : World) (lo hi : Nat) (p : Option Addr) (cap : Nat) (A : List (List Int)) : Prop := SL W lo hi 16 p A.length cap (A.flatMap intsV)
theorem BS.get {W : World} {lo hi : Nat} {p : Option Addr} {cap : Nat} {A : List (List Int)} (h : BS W lo hi p cap A) (hA : ∀ b ∈ A, b.length = 16) {i : Nat} {b : List Int} (he : A[i]? = some b) : ∃ g o, p = some ⟨g, o, none⟩ ∧ lo ≤ g ∧ g < hi ∧ W.rangeAt g (o + i * 16) (intsV b) := by
  have hi : i < A.length := (List.getElem?_eq_some_iff.1 he).1
  obtain ⟨g, o, hp, h1, h2, h3⟩ := h.form (by omega)
  refine ⟨g, o, hp, h1, h2, fun j u hu => ?_⟩
  have hb := hA b (List.mem_of_getElem? he)
  have hj : j < 16 := by have := (List.getElem?_eq_some_iff.1 hu).1; rw [List.length_map, hb] at this; exact this
  rw [Nat.add_assoc]
  exact h3 _ u ((flat_get _ A (fun b hb => by rw [List.length_map]; exact hA b hb) he hj).trans hu)
theorem range_below {W W' : World} {g o n : Nat} {cs : List Value} (h : W.rangeAt g o cs) (hb : Below n W W') (hg : g < n) : W'.rangeAt g o cs := fun j v hv => (hb.cell (p := ⟨g, o + j, none⟩) hg).trans (h j v hv)
/-- A block that lies apart from a row is kept by an append to that row. -/
theorem Blk.apart {W W' : World} {base hi size n b : Nat} {e t : TypeId} {v : Value} {xs : List Value} {cs : Array Value} (h : Blk W b cs t) (ho : OW W base hi e size v n xs) (hg : W.grownBy W' v.ownBlock) (hb : b < base ∨ hi ≤ b) : Blk W' b cs t :=
  h.kept hg (fun e => by have h1 := (World.ownsRow.lt ho.1 b e.symm).1; have h2 := ho.2.1 b e.symm; omega)
/-- A load of what lies in the midst of a block. -/
theorem wp_ldr {op : Oper} {a : Act} {w : World} {K : Act → World → Prop} {Q : Exit → Act → World → Prop} (ty : TypeId) {x : Operand} (ho : op.op = .load ty x) {n : Nat} (hW : Whole ty n)
    {b o : Nat} (hx : a.eval x = .pointer (some ⟨b, o, none⟩)) {cs : Array Value} (hb : w.rangeAt b o cs.toList) (hs : cs.size = n) (h : K (a.put op.dst (.agg cs)) w) : op.wp Tryz.prog a w K Q := by
  obtain ⟨d, hu, hd, hi⟩ := hW
  exact wp_load_mid ty x ho b o hx cs.toList d hb hu hd (by rw [hi, Array.length_toList, hs]) (by simpa using h)
theorem yieldsIf_ldr {ops : Array Oper} {S : World → Prop} {op : Oper} {a : Act} (hw : Region.wanted op (yielded ops a.tmps) = true) (ty : TypeId) {x : Operand} (ho : op.op = .load ty x) {n : Nat} (hW : Whole ty n)
    {b o : Nat} (hx : a.eval x = .pointer (some ⟨b, o, none⟩)) {cs : Array Value} (hb : ∀ w, S w → w.rangeAt b o cs.toList) (hs : cs.size = n) : YieldsIf Tryz.prog ops S op (.agg cs) a := by
  obtain ⟨d, hu, hd, hi⟩ := hW
  have h := yieldsIf_load_mid (P := Tryz.prog) (ops := ops) (S := S) hw ty x ho b o hx cs.toList d hb hu hd (by rw [hi, Array.length_toList, hs])
  simpa using h
end Go.Proofs.YthpjkgpngbdhbaaGreatDoor
