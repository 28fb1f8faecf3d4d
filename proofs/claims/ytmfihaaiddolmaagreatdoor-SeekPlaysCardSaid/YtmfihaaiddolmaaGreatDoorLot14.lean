/- What the laws of entries share: slices cut, Fold of parts. Appends whose worlds are told by what is kept. -/
import Derived.Test.YtmfihaaiddolmaaGreatDoorLot8
set_option linter.unusedSimpArgs false
set_option linter.unusedVariables false
namespace Go.Proofs.YtmfihaaiddolmaaGreatDoor
open Go.RowKit

section
variable {ops : Array Oper} {S : World → Prop} {op : Oper} {a : Act}
theorem sliced0 (p : Option Addr) (k cap s : Nat) : sliced p 0 k cap s = .slice p k cap := by
  unfold sliced
  cases p with
  | none => simp
  | some a => simp [Addr.add]
theorem yieldsIf_slh (hw : Region.wanted op (yielded ops a.tmps) = true) (t : TypeId) {x y : Operand} (ho : op.op = .slice t x none (some y) none) {p : Option Addr} {n cap : Nat} (hx : a.eval x = .slice p n cap) {k : Nat} (hy : a.eval y = .int .i64 (k : Nat))
    {e : TypeId} {s : Nat} (ht : Tryz.prog.underlying t = some (.slice e)) (hs : ∀ w, (sizeOf e).run Tryz.prog w = .ok s w) (hk : k ≤ cap) : YieldsIf Tryz.prog ops S op (.slice p k cap) a :=
  .inl ⟨hw, fun w _ => by
    have he : Tryz.prog.elem t = e := by unfold Program.elem; rw [ht]
    have ht2 : Tryz.prog.underlying t = some (.slice (Tryz.prog.elem t)) := by rw [he]; exact ht
    unfold execOp
    simp only [ho, hx, hy, Option.map_some, Option.map_none, Sem.run_bind]
    rw [run_sliceAt_slice w t _ _ _ _ ht2, run_slice_h w t p n cap ht2 .i64 k (by omega) (by omega), he, hs]
    simp [Result.andThen, sliced0]⟩
theorem yieldsIf_sll (hw : Region.wanted op (yielded ops a.tmps) = true) (t : TypeId) {x y : Operand} (ho : op.op = .slice t x (some y) none none) {p : Option Addr} {n cap : Nat} (hx : a.eval x = .slice p n cap) {k : Nat} (hy : a.eval y = .int .i64 (k : Nat))
    {e : TypeId} {s : Nat} (ht : Tryz.prog.underlying t = some (.slice e)) (hs : ∀ w, (sizeOf e).run Tryz.prog w = .ok s w) (hk : k ≤ n) {p' : Option Addr} (hp : (if cap = k then p else p.map (·.add (k * s))) = p') : YieldsIf Tryz.prog ops S op (.slice p' (n - k) (cap - k)) a :=
  .inl ⟨hw, fun w _ => by
    have he : Tryz.prog.elem t = e := by unfold Program.elem; rw [ht]
    have ht2 : Tryz.prog.underlying t = some (.slice (Tryz.prog.elem t)) := by rw [he]; exact ht
    unfold execOp
    simp only [ho, hx, hy, Option.map_some, Option.map_none, Sem.run_bind]
    rw [run_sliceAt_slice w t _ _ _ _ ht2, run_slice_l w t p n cap ht2 .i64 k (by omega) (by omega), he, hs]
    simp [Result.andThen, sliced, ← hp]⟩
end
def RetBN (w : World) (n : Nat) (xs : List Value) (L : List Int) (e : Ending) (w' : World) : Prop :=
  ∃ v, e = .returned (.tuple #[v, .agg (arrV L)]) ∧ w'.ownsRow w.heap.size 27 16 v n xs ∧ Below w.heap.size w w'
theorem toBN {f : FuncId} {args : Array Value} {w : World} {l : List (List Int)} {L : List Int} (h : Calls Tryz.prog f args w (RetBS w l L)) : Calls Tryz.prog f args w (RetBN w l.length (l.flatMap intsV) L) := h
theorem Fold_cut {L : List Int} (hL : Len L 38) {l : List Ent} {n : Nat} (hn : l.length = n) (h25 : n ≤ 1000) {k : Nat} (hk : k ≤ n) {p : Option Addr} {lo hi cap : Nat} {w : World} (hW : BandsW w) (hs : SL w lo hi 3 p n cap (flE l)) :
    Calls Tryz.prog 17 #[.agg (arrV L), .slice p k cap] w (RetBS w (foldO L (l.take k)) (foldS L (l.take k))) := by
  subst hn
  have hes : ES w lo hi p cap l := hs
  have h := Fold_any L hL.out (l.take k) (by rw [List.length_take]; omega) p lo hi cap w hW (hes.take hk)
  rwa [List.length_take, Nat.min_eq_left hk] at h
theorem Fold_all {L : List Int} (hL : Len L 38) {l : List Ent} {n : Nat} (hn : l.length = n) (h25 : n ≤ 1000) {p : Option Addr} {lo hi cap : Nat} {w : World} (hW : BandsW w) (hs : SL w lo hi 3 p n cap (flE l)) :
    Calls Tryz.prog 17 #[.agg (arrV L), .slice p n cap] w (RetBS w (foldO L l) (foldS L l)) := by
  subst hn
  exact Fold_any L hL.out l h25 p lo hi cap w hW hs
theorem Fold_rest {L : List Int} (hL : Len L 38) {l : List Ent} {n : Nat} (hn : l.length = n) (h25 : n ≤ 1000) {k : Nat} (hk : k ≤ n) {p p' : Option Addr} {lo hi cap : Nat} (hp : (if cap = k then p else p.map (·.add (k * 3))) = p') {w : World} (hW : BandsW w) (hs : SL w lo hi 3 p n cap (flE l)) :
    Calls Tryz.prog 17 #[.agg (arrV L), .slice p' (n - k) (cap - k)] w (RetBS w (foldO L (l.drop k)) (foldS L (l.drop k))) := by
  subst hn
  subst hp
  have hes : ES w lo hi p cap l := hs
  have h := Fold_any L hL.out (l.drop k) (by rw [List.length_drop]; omega) _ lo hi (cap - k) w hW (hes.drop hk)
  rwa [List.length_drop] at h
theorem few_len {l : List Ent} (h : fewE l = true) : l.length ≤ 25 := by
  unfold fewE at h
  simp only [Bool.and_eq_true, decide_eq_true_eq] at h
  exact h.2
theorem yieldsIf_sllm {ops : Array Oper} {S : World → Prop} {op : Oper} {a : Act} (hw : Region.wanted op (yielded ops a.tmps) = true) (t : TypeId) {x y : Operand} (ho : op.op = .slice t x (some y) none none) {p : Option Addr} {n cap : Nat} (hx : a.eval x = .slice p n cap) {k : Nat} (hy : a.eval y = .int .i64 (k : Nat))
    {e : TypeId} {s : Nat} (ht : Tryz.prog.underlying t = some (.slice e)) (hs : ∀ w, (sizeOf e).run Tryz.prog w = .ok s w) (hk : k ≤ n) {p' : Option Addr} (hp : (if cap = k then p else p.map (·.add (k * s))) = p') {m : Nat} (hm : n - k = m) : YieldsIf Tryz.prog ops S op (.slice p' m (cap - k)) a := by
  subst hm
  exact yieldsIf_sll hw t ho hx hy ht hs hk hp
theorem bs_drop {W : World} {lo hi cap i m : Nat} {p p' : Option Addr} {A C : List (List Int)} (h : SL W lo hi 16 p (i + m) cap (A.flatMap intsV)) (hA : ∀ b ∈ A, b.length = 16) (hd : A.drop i = C) (hp : (if cap = i then p else p.map (·.add (i * 16))) = p') : SL W lo hi 16 p' m (cap - i) (C.flatMap intsV) := by
  have h2 := SL.drop h (k := i) (by omega)
  rw [flat_drop _ A (fun b hb => by rw [List.length_map]; exact hA b hb), hd, hp, Nat.add_sub_cancel_left] at h2
  exact h2
theorem yieldsIf_slx {ops : Array Oper} {S : World → Prop} {op : Oper} {a : Act} (hw : Region.wanted op (yielded ops a.tmps) = true) (t : TypeId) {x y z : Operand} (ho : op.op = .slice t x (some y) (some z) none) {p : Option Addr} {n cap : Nat} (hx : a.eval x = .slice p n cap) {k : Nat} (hy : a.eval y = .int .i64 (k : Nat)) {i : Nat} (hz : a.eval z = .int .i64 (i : Nat))
    {e : TypeId} {s : Nat} (ht : Tryz.prog.underlying t = some (.slice e)) (hs : ∀ w, (sizeOf e).run Tryz.prog w = .ok s w) (hk : k ≤ i) (hi : i ≤ cap) {p' : Option Addr} (hp : (if cap = k then p else p.map (·.add (k * s))) = p') {m : Nat} (hm : i - k = m) : YieldsIf Tryz.prog ops S op (.slice p' m (cap - k)) a :=
  .inl ⟨hw, fun w _ => by
    have he : Tryz.prog.elem t = e := by unfold Program.elem; rw [ht]
    have ht2 : Tryz.prog.underlying t = some (.slice (Tryz.prog.elem t)) := by rw [he]; exact ht
    unfold execOp
    simp only [ho, hx, hy, hz, Option.map_some, Option.map_none, Sem.run_bind]
    rw [run_sliceAt_slice w t _ _ _ _ ht2, run_slice_lh w t p n cap ht2 .i64 .i64 k i (by omega) (by omega) (by omega), he, hs]
    simp [Result.andThen, sliced, ← hp, hm]⟩
theorem es_mid {W : World} {lo hi cap n : Nat} {p : Option Addr} {l : List Ent} (h : SL W lo hi 3 p n cap (flE l)) (hn : l.length = n) {k i m : Nat} (hk : k ≤ i) (hi2 : i ≤ n) {p' : Option Addr} (hp : (if cap = k then p else p.map (·.add (k * 3))) = p') (hm : i - k = m) : SL W lo hi 3 p' m (cap - k) (flE ((l.take i).drop k)) := by
  subst hn
  have hes : ES W lo hi p cap l := h
  have h2 := (hes.take hi2).drop (k := k) (by rw [List.length_take]; omega)
  unfold ES at h2
  rwa [hp, List.length_drop, List.length_take, Nat.min_eq_left hi2, hm] at h2
theorem es_rest {W : World} {lo hi cap n : Nat} {p : Option Addr} {l : List Ent} (h : SL W lo hi 3 p n cap (flE l)) (hn : l.length = n) {k m : Nat} (hk : k ≤ n) {p' : Option Addr} (hp : (if cap = k then p else p.map (·.add (k * 3))) = p') (hm : n - k = m) : SL W lo hi 3 p' m (cap - k) (flE (l.drop k)) := by
  subst hn
  have hes : ES W lo hi p cap l := h
  have h2 := hes.drop hk
  unfold ES at h2
  rwa [hp, List.length_drop, hm] at h2
theorem es_take {W : World} {lo hi cap n : Nat} {p : Option Addr} {l : List Ent} (h : SL W lo hi 3 p n cap (flE l)) (hn : l.length = n) {k : Nat} (hk : k ≤ n) : SL W lo hi 3 p k cap (flE (l.take k)) := by
  subst hn
  have hes : ES W lo hi p cap l := h
  have h2 := hes.take hk
  unfold ES at h2
  rwa [List.length_take, Nat.min_eq_left hk] at h2
end Go.Proofs.YtmfihaaiddolmaaGreatDoor

namespace Go.Proofs.YtmfihaaiddolmaaGreatDoor
open Go.RowKit

theorem run_bs0 {t e : TypeId} {size : Nat} (ht : Tryz.prog.underlying t = some (.slice e)) (he : ElemT e size) (w : World) :
    (Instr.buildSlice t 0 #[]).run Tryz.prog w = .ok (.slice (some ⟨w.heap.size, 0, none⟩) 0 0) (w.alloc (.cells #[] e)) := by
  obtain ⟨hs, z, hz, hzs⟩ := he
  unfold Instr.buildSlice
  simp only [Sem.run_bind, run_underlying ht, Result.andThen_ok, hs, hz, if_neg (show ¬ 0 * size > 2 ^ 24 by omega), if_pos (show 0 * size = 0 by omega)]
  have h0 : ∀ f : Nat → Value, Array.map f (Array.range 0) = #[] := fun f => Array.eq_empty_of_size_eq_zero (by rw [Array.size_map, Array.size_range])
  simp [Instr.fill, newRow, Result.andThen, h0]
/-- An empty slice made. -/
theorem wp_bs0 {op : Oper} {a : Act} {w : World} {K : Act → World → Prop} {Q : Exit → Act → World → Prop} (t : TypeId) (ho : op.op = .buildSlice t 0 #[]) {e : TypeId} (ht : Tryz.prog.underlying t = some (.slice e)) {size : Nat} (he : ElemT e size)
    (h : ∀ v' w', OW w' w.heap.size w'.heap.size e size v' 0 [] → Below w.heap.size w w' → K (a.put op.dst v') w') : op.wp Tryz.prog a w K Q := by
  have hr := run_bs0 ht he w
  unfold Oper.wp execOp
  simp only [ho, List.map_toArray, List.map_nil, Sem.run_bind, hr, Result.andThen_ok]
  exact h _ _ (OW.mk0 (World.ownsRow_lit (base := w.heap.size) w #[] 0 (Nat.le_refl _) (by unfold maxLen; omega) (by simp))) ((Below.refl _ _).alloc (Nat.le_refl _) _)
/-- A slice of one element made. -/
theorem wp_bs1b {op : Oper} {a : Act} {w : World} {K : Act → World → Prop} {Q : Exit → Act → World → Prop} (t : TypeId) {x : Operand} (ho : op.op = .buildSlice t 1 #[(0, x)]) {c : Array Value} (hx : a.eval x = .agg c)
    {e : TypeId} (ht : Tryz.prog.underlying t = some (.slice e)) {size : Nat} (he : ElemT e size) (h0 : 0 < size) (h1 : size ≤ 1000) (hc : c.size = size)
    (h : ∀ b w', b = w.heap.size → Blk w' b c e → Below w.heap.size w w' → b < w'.heap.size → K (a.put op.dst (.slice (some ⟨b, 0, none⟩) 1 1)) w') : op.wp Tryz.prog a w K Q :=
  wp_bs1 t ho hx ht he h0 h1 hc (h _ _ rfl (Blk.newAt rfl) ((Below.refl _ _).alloc (Nat.le_refl _) _) (by rw [World.size_alloc]; omega))
/-- An append to a slice of the call's own. -/
theorem wp_apb {op : Oper} {a : Act} {w : World} {K : Act → World → Prop} {Q : Exit → Act → World → Prop} (t : TypeId) {s x : Operand} {ts : Array TypeId}
    (ho : op.op = .call { callee := .builtin .append, args := #[s, x], argTypes := ts }) (hts : ts = #[t, t])
    (e : TypeId) (i : TypeInfo) (z : Value) (size bytes : Nat) (ht : Tryz.prog.underlying t = some (.slice e)) (hi : Tryz.prog.info? e = some i) (hz : i.zero = some z)
    (hsize : i.size = size) (hby : i.bytes = bytes) (hzs : z.cells.size = size) (hsz : 0 < size)
    {v : Value} {n : Nat} {xs : List Value} (hv : a.eval s = v) {base hi0 : Nat} (hown : OW w base hi0 e size v n xs) (N : Nat) (hN : N ≤ base) (hNw : base ≤ w.heap.size) {lo hi2 m c : Nat} {p : Option Addr} {news : List Value} (hx : a.eval x = .slice p m c) (hs : SL w lo hi2 size p m c news) (h1 : ∀ u ∈ news, u.oneCell' = true)
    (h63 : n + m ≤ maxLen) (hbytes : (n + m) * bytes ≤ 140737488355328)
    (h : ∀ v' w', OW w' base w'.heap.size e size v' (n + m) (xs ++ news) → w.grownBy w' v.ownBlock → Below N w w' → K (a.put op.dst v') w') : op.wp Tryz.prog a w K Q :=
  wp_append_sl t ho hts base e i z size bytes ht hi hz hsize hby hzs hsz hv hown.1 hx hs h1 h63 hbytes hNw fun v' w' h2 h3 _ =>
    h v' w' (OW.mk0 h2) h3 ((Below.refl N w).grown h3 (by omega) (fun k hk => by have := (World.ownsRow.lt hown.1 k hk).1; omega))
/-- A block that lies apart from a row is kept by an append to that row. -/
theorem Blk.apart {W W' : World} {base hi size n b : Nat} {e t : TypeId} {v : Value} {xs : List Value} {cs : Array Value} (h : Blk W b cs t) (ho : OW W base hi e size v n xs) (hg : W.grownBy W' v.ownBlock) (hb : b < base ∨ hi ≤ b) : Blk W' b cs t :=
  h.kept hg (fun e => by have h1 := (World.ownsRow.lt ho.1 b e.symm).1; have h2 := ho.2.1 b e.symm; omega)
/-- A load of what lies in the midst of a block. -/
theorem wp_ldr {op : Oper} {a : Act} {w : World} {K : Act → World → Prop} {Q : Exit → Act → World → Prop} (ty : TypeId) {x : Operand} (ho : op.op = .load ty x) {n : Nat} (hW : Whole ty n)
    {b o : Nat} (hx : a.eval x = .pointer (some ⟨b, o, none⟩)) {cs : Array Value} (hb : w.rangeAt b o cs.toList) (hs : cs.size = n) (h : K (a.put op.dst (.agg cs)) w) : op.wp Tryz.prog a w K Q := by
  obtain ⟨d, hu, hd, hi⟩ := hW
  exact wp_load_mid ty x ho b o hx cs.toList d hb hu hd (by rw [hi, Array.length_toList, hs]) (by simpa using h)
theorem yieldsIf_ldr {ops : Array Oper} {S : World → Prop} {op : Oper} {a : Act} (hw : Region.wanted op (yielded ops a.tmps) = true) (ty : TypeId) {x : Operand} (ho : op.op = .load ty x) {n : Nat} (hW : Whole ty n)
    {b o : Nat} (hx : a.eval x = .pointer (some ⟨b, o, none⟩)) {cs : Array Value} (hb : ∀ w, S w → w.rangeAt b o cs.toList) (hs : cs.size = n) : YieldsIf Tryz.prog ops S op (.agg cs) a := by
  obtain ⟨d, hu, hd, hi⟩ := hW
  have h := yieldsIf_load_mid (P := Tryz.prog) (ops := ops) (S := S) hw ty x ho b o hx cs.toList d hb hu hd (by rw [hi, Array.length_toList, hs])
  simpa using h
theorem i64_wrap_id {x : Int} (h0 : -9223372036854775808 ≤ x) (h1 : x ≤ 9223372036854775807) : IntKind.i64.wrap x = x := IntWalk.i64_in _ (by omega)
theorem mod_natA (i : Int) (n : Nat) : ∃ k : Nat, i % ((n : Int) + 1) = k ∧ k ≤ n := by
  have h1 := Int.emod_nonneg i (show ((n : Int) + 1) ≠ 0 by omega)
  have h2 := Int.emod_lt_of_pos i (show 0 < (n : Int) + 1 by omega)
  exact ⟨(i % ((n : Int) + 1)).toNat, by omega, by omega⟩
end Go.Proofs.YtmfihaaiddolmaaGreatDoor
