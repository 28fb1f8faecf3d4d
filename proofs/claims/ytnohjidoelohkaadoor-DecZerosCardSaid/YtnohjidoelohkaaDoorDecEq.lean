/- Frames, levels and states compared. -/
import Derived.Test.YtnohjidoelohkaaDoorDecX
import Derived.ChangeKeysEq
namespace Go.Proofs.YtnohjidoelohkaaDoor
open Go.RowKit

theorem run_part_int (l : List Int) (i : Nat) (h : i < l.length) (w : World) : (part 3 (arrV l) (i * 1)).run Tryd.prog w = .ok (.int .i64 (l.getD i 0)) w := by
  have h2 : (isAgg 3).run Tryd.prog w = .ok false w := by kernel_rfl
  simp [part, h2, List.getElem?_eq_getElem h]
theorem eqItems_ints (d : Nat) (xs ys : List Int) (w : World) : ∀ is : List Nat, (∀ i ∈ is, i < xs.length ∧ i < ys.length) → (Op.eqItems (d + 1) 3 1 (arrV xs) (arrV ys) is).run Tryd.prog w = .ok (is.all fun i => xs.getD i 0 == ys.getD i 0) w := by
  intro is
  induction is with
  | nil => intro _; simp [Op.eqItems]
  | cons i is ih =>
    intro h
    have hi := h i List.mem_cons_self
    have hr := ih (fun j hj => h j (List.mem_cons_of_mem _ hj))
    simp only [Op.eqItems, Sem.run_bind, run_part_int xs i hi.1 w, run_part_int ys i hi.2 w, Result.andThen_ok, run_equalIn_int w d 3 .i64 .i64 _ _ Tryd.underlying3, List.all_cons]
    cases xs.getD i 0 == ys.getD i 0 with
    | false => simp
    | true => simpa using hr
theorem all_getD {xs ys : List Int} (h : xs.length = ys.length) : ((List.range xs.length).all fun i => xs.getD i 0 == ys.getD i 0) = (xs == ys) := by
  rw [Bool.eq_iff_iff, List.all_eq_true, beq_iff_eq]
  refine ⟨fun ha => ?_, fun e => by subst e; simp⟩
  apply List.ext_getElem h
  intro i h1 h2
  have := ha i (List.mem_range.2 h1)
  simpa [List.getD_eq_getElem?_getD, List.getElem?_eq_getElem h1, List.getElem?_eq_getElem h2] using this
set_option maxRecDepth 100000 in
theorem eq_ints (d : Nat) {t : TypeId} {n : Nat} (xs ys : List Int) (hx : xs.length = n) (hy : ys.length = n) (hu : Tryd.prog.underlying t = some (.array n 3)) (w : World) :
    (Op.equalIn (d + 2) t (.agg (arrV xs)) (.agg (arrV ys))).run Tryd.prog w = .ok (xs == ys) w := by
  obtain ⟨i, hi⟩ : ∃ i, Tryd.prog.info? 3 = some i := ⟨_, rfl⟩
  have hc : Tryd.prog.cellsOf 3 = 1 := by kernel_rfl
  rw [run_equalIn_array w (d + 1) _ _ hu hi, hc, eqItems_ints d xs ys w _ (fun i hi => by have := List.mem_range.1 hi; omega), ← all_getD (by omega), hx]
set_option maxRecDepth 100000 in
theorem eq_block (xs ys : List Int) (hx : xs.length = 16) (hy : ys.length = 16) (w : World) : (Op.equalIn 10000 27 (.agg (arrV xs)) (.agg (arrV ys))).run Tryd.prog w = .ok (xs == ys) w := eq_ints 9998 xs ys hx hy Tryd.underlying27 w
set_option maxRecDepth 100000 in
theorem eq_four (xs ys : List Int) (hx : xs.length = 4) (hy : ys.length = 4) (w : World) : (Op.equalIn 10000 23 (.agg (arrV xs)) (.agg (arrV ys))).run Tryd.prog w = .ok (xs == ys) w := eq_ints 9998 xs ys hx hy Tryd.underlying23 w
set_option maxRecDepth 100000 in
theorem run_part_arr (t : TypeId) (l : List Int) (o n : Nat) (w : World) (ha : (isAgg t).run Tryd.prog w = .ok true w) (hs : (sizeOf t).run Tryd.prog w = .ok n w) : (part t (arrV l) o).run Tryd.prog w = .ok (.agg (arrV ((l.drop o).take n))) w := by
  simp only [part, Sem.run_bind, ha, hs, Result.andThen_ok, if_true, Sem.run_pure]
  congr 2
  simp [List.extract_eq_take_drop]
theorem run_part_one (l : List Int) (o : Nat) (h : o < l.length) (w : World) : (part 3 (arrV l) o).run Tryd.prog w = .ok (.int .i64 (l.getD o 0)) w := by
  have := run_part_int l o h w
  rwa [Nat.mul_one] at this
theorem eqFields_step {d : Nat} {xs ys : Array Value} {f : Field} {fs : List Field} {w : World} {a b : Value} (hn : f.name ≠ "_") (ha : (part f.type xs f.offset).run Tryd.prog w = .ok a w) (hb : (part f.type ys f.offset).run Tryd.prog w = .ok b w)
    (hr : (Op.equalIn d f.type a b).run Tryd.prog w = .ok true w) : (Op.eqFields d xs ys (f :: fs)).run Tryd.prog w = (Op.eqFields d xs ys fs).run Tryd.prog w := by
  rw [Op.eqFields, if_pos hn]
  simp only [Sem.run_bind, ha, hb, hr, Result.andThen_ok, Bool.not_true, Bool.false_eq_true, if_false]
set_option maxRecDepth 100000 in
theorem eq_state_d (d : Nat) (L : List Int) (h : L.length = 38) (w : World) : (Op.equalIn (d + 3) 29 (.agg (arrV L)) (.agg (arrV L))).run Tryd.prog w = .ok true w := by
  have ht : Tryd.prog.underlying 29 = some (.struct (Tryd.prog.fieldsOf 29)) := by kernel_rfl
  have hp : Tryd.prog.stoodInHeld 29 = false := by kernel_rfl
  have a16 : (isAgg 27).run Tryd.prog w = .ok true w := by kernel_rfl
  have a4 : (isAgg 23).run Tryd.prog w = .ok true w := by kernel_rfl
  have s16 : (sizeOf 27).run Tryd.prog w = .ok 16 w := by kernel_rfl
  have s4 : (sizeOf 23).run Tryd.prog w = .ok 4 w := by kernel_rfl
  have e0 : ((L.drop 0).take 16).length = 16 := by rw [List.length_take, List.length_drop, h]; rfl
  have e2 : ((L.drop 17).take 4).length = 4 := by rw [List.length_take, List.length_drop, h]; rfl
  have e3 : ((L.drop 21).take 16).length = 16 := by rw [List.length_take, List.length_drop, h]; rfl
  rw [run_equalIn_struct w (d + 2) _ _ _ ht hp]
  have q0 := eq_ints d _ _ e0 e0 Tryd.underlying27 w
  have q2 := eq_ints d _ _ e2 e2 Tryd.underlying23 w
  have q3 := eq_ints d _ _ e3 e3 Tryd.underlying27 w
  have p0 := run_part_arr 27 L 0 16 w a16 s16
  have p2 := run_part_arr 23 L 17 4 w a4 s4
  have p3 := run_part_arr 27 L 21 16 w a16 s16
  have p1 := run_part_one L 16 (by omega) w
  have p4 := run_part_one L 37 (by omega) w
  simp only [beq_self_eq_true] at q0 q2 q3
  have n0 : ("Mem" : String) ≠ "_" := by decide +kernel
  have n1 : ("Last" : String) ≠ "_" := by decide +kernel
  have n2 : ("Levels" : String) ≠ "_" := by decide +kernel
  have n3 : ("Waves" : String) ≠ "_" := by decide +kernel
  have n4 : ("Lost" : String) ≠ "_" := by decide +kernel
  simp only [Program.fieldsOf, Tryd.underlying29]
  have r1 := run_equalIn_int w (d + 1) 3 .i64 .i64 (L.getD 16 0) (L.getD 16 0) Tryd.underlying3
  have r4 := run_equalIn_int w (d + 1) 3 .i64 .i64 (L.getD 37 0) (L.getD 37 0) Tryd.underlying3
  rw [beq_self_eq_true] at r1 r4
  refine Eq.trans (eqFields_step (a := .agg (arrV ((L.drop 0).take 16))) (b := .agg (arrV ((L.drop 0).take 16))) ?_ ?_ ?_ ?_) ?_
  · exact n0
  · exact p0
  · exact p0
  · exact q0
  refine Eq.trans (eqFields_step (a := .int .i64 (L.getD 16 0)) (b := .int .i64 (L.getD 16 0)) ?_ ?_ ?_ ?_) ?_
  · exact n1
  · exact p1
  · exact p1
  · exact r1
  refine Eq.trans (eqFields_step (a := .agg (arrV ((L.drop 17).take 4))) (b := .agg (arrV ((L.drop 17).take 4))) ?_ ?_ ?_ ?_) ?_
  · exact n2
  · exact p2
  · exact p2
  · exact q2
  refine Eq.trans (eqFields_step (a := .agg (arrV ((L.drop 21).take 16))) (b := .agg (arrV ((L.drop 21).take 16))) ?_ ?_ ?_ ?_) ?_
  · exact n3
  · exact p3
  · exact p3
  · exact q3
  refine Eq.trans (eqFields_step (a := .int .i64 (L.getD 37 0)) (b := .int .i64 (L.getD 37 0)) ?_ ?_ ?_ ?_) ?_
  · exact n4
  · exact p4
  · exact p4
  · exact r4
  simp [Op.eqFields]
set_option maxRecDepth 100000 in
theorem eq_state (L : List Int) (h : L.length = 38) (w : World) : (Op.equalIn 10000 29 (.agg (arrV L)) (.agg (arrV L))).run Tryd.prog w = .ok true w := eq_state_d 9997 L h w
end Go.Proofs.YtnohjidoelohkaaDoor
