/- What the laws of entries share: slices cut, Fold of parts. -/
import Derived.Test.YtbpdocdomjafbaaGreatDoorLot8
set_option linter.unusedSimpArgs false
set_option linter.unusedVariables false
namespace Go.Proofs.YtbpdocdomjafbaaGreatDoor
open Go.RowKit

section
variable {ops : Array Oper} {S : World → Prop} {op : Oper} {a : Act}
theorem sliced0 (p : Option Addr) (k cap s : Nat) : sliced p 0 k cap s = .slice p k cap := by
  unfold sliced
  cases p with
  | none => simp
  | some a => simp [Addr.add]
theorem yieldsIf_slh (hw : Region.wanted op (yielded ops a.tmps) = true) (t : TypeId) {x y : Operand} (ho : op.op = .slice t x none (some y) none) {p : Option Addr} {n cap : Nat} (hx : a.eval x = .slice p n cap) {k : Nat} (hy : a.eval y = .int .i64 (k : Nat))
    {e : TypeId} {s : Nat} (ht : Tryz.prog.underlying t = some (.slice e)) (hs : ∀ w, (sizeOf e).run Tryz.prog w = .ok s w) (hk : k ≤ cap) : YieldsIf Tryz.prog ops S op (.slice p k cap) a :=
  .inl ⟨hw, fun w _ => by
    have he : Tryz.prog.elem t = e := by unfold Program.elem; rw [ht]
    have ht2 : Tryz.prog.underlying t = some (.slice (Tryz.prog.elem t)) := by rw [he]; exact ht
    unfold execOp
    simp only [ho, hx, hy, Option.map_some, Option.map_none, Sem.run_bind]
    rw [run_sliceAt_slice w t _ _ _ _ ht2, run_slice_h w t p n cap ht2 .i64 k (by omega) (by omega), he, hs]
    simp [Result.andThen, sliced0]⟩
theorem yieldsIf_sll (hw : Region.wanted op (yielded ops a.tmps) = true) (t : TypeId) {x y : Operand} (ho : op.op = .slice t x (some y) none none) {p : Option Addr} {n cap : Nat} (hx : a.eval x = .slice p n cap) {k : Nat} (hy : a.eval y = .int .i64 (k : Nat))
    {e : TypeId} {s : Nat} (ht : Tryz.prog.underlying t = some (.slice e)) (hs : ∀ w, (sizeOf e).run Tryz.prog w = .ok s w) (hk : k ≤ n) {p' : Option Addr} (hp : (if cap = k then p else p.map (·.add (k * s))) = p') : YieldsIf Tryz.prog ops S op (.slice p' (n - k) (cap - k)) a :=
  .inl ⟨hw, fun w _ => by
    have he : Tryz.prog.elem t = e := by unfold Program.elem; rw [ht]
    have ht2 : Tryz.prog.underlying t = some (.slice (Tryz.prog.elem t)) := by rw [he]; exact ht
    unfold execOp
    simp only [ho, hx, hy, Option.map_some, Option.map_none, Sem.run_bind]
    rw [run_sliceAt_slice w t _ _ _ _ ht2, run_slice_l w t p n cap ht2 .i64 k (by omega) (by omega), he, hs]
    simp [Result.andThen, sliced, ← hp]⟩
end
def RetBN (w : World) (n : Nat) (xs : List Value) (L : List Int) (e : Ending) (w' : World) : Prop :=
  ∃ v, e = .returned (.tuple #[v, .agg (arrV L)]) ∧ w'.ownsRow w.heap.size 30 16 v n xs ∧ Below w.heap.size w w'
theorem toBN {f : FuncId} {args : Array Value} {w : World} {l : List (List Int)} {L : List Int} (h : Calls Tryz.prog f args w (RetBS w l L)) : Calls Tryz.prog f args w (RetBN w l.length (l.flatMap intsV) L) := h
theorem Fold_cut {L : List Int} (hL : Len L 38) {l : List Ent} {n : Nat} (hn : l.length = n) (h25 : n ≤ 1000) {k : Nat} (hk : k ≤ n) {p : Option Addr} {lo hi cap : Nat} {w : World} (hW : BandsW w) (hs : SL w lo hi 3 p n cap (flE l)) :
    Calls Tryz.prog 23 #[.agg (arrV L), .slice p k cap] w (RetBS w (foldO L (l.take k)) (foldS L (l.take k))) := by
  subst hn
  have hes : ES w lo hi p cap l := hs
  have h := Fold_any L hL.out (l.take k) (by rw [List.length_take]; omega) p lo hi cap w hW (hes.take hk)
  rwa [List.length_take, Nat.min_eq_left hk] at h
theorem Fold_all {L : List Int} (hL : Len L 38) {l : List Ent} {n : Nat} (hn : l.length = n) (h25 : n ≤ 1000) {p : Option Addr} {lo hi cap : Nat} {w : World} (hW : BandsW w) (hs : SL w lo hi 3 p n cap (flE l)) :
    Calls Tryz.prog 23 #[.agg (arrV L), .slice p n cap] w (RetBS w (foldO L l) (foldS L l)) := by
  subst hn
  exact Fold_any L hL.out l h25 p lo hi cap w hW hs
theorem Fold_rest {L : List Int} (hL : Len L 38) {l : List Ent} {n : Nat} (hn : l.length = n) (h25 : n ≤ 1000) {k : Nat} (hk : k ≤ n) {p p' : Option Addr} {lo hi cap : Nat} (hp : (if cap = k then p else p.map (·.add (k * 3))) = p') {w : World} (hW : BandsW w) (hs : SL w lo hi 3 p n cap (flE l)) :
    Calls Tryz.prog 23 #[.agg (arrV L), .slice p' (n - k) (cap - k)] w (RetBS w (foldO L (l.drop k)) (foldS L (l.drop k))) := by
  subst hn
  subst hp
  have hes : ES w lo hi p cap l := hs
  have h := Fold_any L hL.out (l.drop k) (by rw [List.length_drop]; omega) _ lo hi (cap - k) w hW (hes.drop hk)
  rwa [List.length_drop] at h
theorem few_len {l : List Ent} (h : fewE l = true) : l.length ≤ 25 := by
  unfold fewE at h
  simp only [Bool.and_eq_true, decide_eq_true_eq] at h
  exact h.2
theorem yieldsIf_sllm {ops : Array Oper} {S : World → Prop} {op : Oper} {a : Act} (hw : Region.wanted op (yielded ops a.tmps) = true) (t : TypeId) {x y : Operand} (ho : op.op = .slice t x (some y) none none) {p : Option Addr} {n cap : Nat} (hx : a.eval x = .slice p n cap) {k : Nat} (hy : a.eval y = .int .i64 (k : Nat))
    {e : TypeId} {s : Nat} (ht : Tryz.prog.underlying t = some (.slice e)) (hs : ∀ w, (sizeOf e).run Tryz.prog w = .ok s w) (hk : k ≤ n) {p' : Option Addr} (hp : (if cap = k then p else p.map (·.add (k * s))) = p') {m : Nat} (hm : n - k = m) : YieldsIf Tryz.prog ops S op (.slice p' m (cap - k)) a := by
  subst hm
  exact yieldsIf_sll hw t ho hx hy ht hs hk hp
theorem bs_drop {W : World} {lo hi cap i m : Nat} {p p' : Option Addr} {A C : List (List Int)} (h : SL W lo hi 16 p (i + m) cap (A.flatMap intsV)) (hA : ∀ b ∈ A, b.length = 16) (hd : A.drop i = C) (hp : (if cap = i then p else p.map (·.add (i * 16))) = p') : SL W lo hi 16 p' m (cap - i) (C.flatMap intsV) := by
  have h2 := SL.drop h (k := i) (by omega)
  rw [flat_drop _ A (fun b hb => by rw [List.length_map]; exact hA b hb), hd, hp, Nat.add_sub_cancel_left] at h2
  exact h2
theorem yieldsIf_slx {ops : Array Oper} {S : World → Prop} {op : Oper} {a : Act} (hw : Region.wanted op (yielded ops a.tmps) = true) (t : TypeId) {x y z : Operand} (ho : op.op = .slice t x (some y) (some z) none) {p : Option Addr} {n cap : Nat} (hx : a.eval x = .slice p n cap) {k : Nat} (hy : a.eval y = .int .i64 (k : Nat)) {i : Nat} (hz : a.eval z = .int .i64 (i : Nat))
    {e : TypeId} {s : Nat} (ht : Tryz.prog.underlying t = some (.slice e)) (hs : ∀ w, (sizeOf e).run Tryz.prog w = .ok s w) (hk : k ≤ i) (hi : i ≤ cap) {p' : Option Addr} (hp : (if cap = k then p else p.map (·.add (k * s))) = p') {m : Nat} (hm : i - k = m) : YieldsIf Tryz.prog ops S op (.slice p' m (cap - k)) a :=
  .inl ⟨hw, fun w _ => by
    have he : Tryz.prog.elem t = e := by unfold Program.elem; rw [ht]
    have ht2 : Tryz.prog.underlying t = some (.slice (Tryz.prog.elem t)) := by rw [he]; exact ht
    unfold execOp
    simp only [ho, hx, hy, hz, Option.map_some, Option.map_none, Sem.run_bind]
    rw [run_sliceAt_slice w t _ _ _ _ ht2, run_slice_lh w t p n cap ht2 .i64 .i64 k i (by omega) (by omega) (by omega), he, hs]
    simp [Result.andThen, sliced, ← hp, hm]⟩
theorem es_mid {W : World} {lo hi cap n : Nat} {p : Option Addr} {l : List Ent} (h : SL W lo hi 3 p n cap (flE l)) (hn : l.length = n) {k i m : Nat} (hk : k ≤ i) (hi2 : i ≤ n) {p' : Option Addr} (hp : (if cap = k then p else p.map (·.add (k * 3))) = p') (hm : i - k = m) : SL W lo hi 3 p' m (cap - k) (flE ((l.take i).drop k)) := by
  subst hn
  have hes : ES W lo hi p cap l := h
  have h2 := (hes.take hi2).drop (k := k) (by rw [List.length_take]; omega)
  unfold ES at h2
  rwa [hp, List.length_drop, List.length_take, Nat.min_eq_left hi2, hm] at h2
theorem es_rest {W : World} {lo hi cap n : Nat} {p : Option Addr} {l : List Ent} (h : SL W lo hi 3 p n cap (flE l)) (hn : l.length = n) {k m : Nat} (hk : k ≤ n) {p' : Option Addr} (hp : (if cap = k then p else p.map (·.add (k * 3))) = p') (hm : n - k = m) : SL W lo hi 3 p' m (cap - k) (flE (l.drop k)) := by
  subst hn
  have hes : ES W lo hi p cap l := h
  have h2 := hes.drop hk
  unfold ES at h2
  rwa [hp, List.length_drop, hm] at h2
theorem es_take {W : World} {lo hi cap n : Nat} {p : Option Addr} {l : List Ent} (h : SL W lo hi 3 p n cap (flE l)) (hn : l.length = n) {k : Nat} (hk : k ≤ n) : SL W lo hi 3 p k cap (flE (l.take k)) := by
  subst hn
  have hes : ES W lo hi p cap l := h
  have h2 := hes.take hk
  unfold ES at h2
  rwa [List.length_take, Nat.min_eq_left hk] at h2
end Go.Proofs.YtbpdocdomjafbaaGreatDoor
