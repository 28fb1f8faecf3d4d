/- The walks of spec.True and spec.Truths. -/
import Derived.Test.YtmfihaaiddolmaaGreatDoorLot8
set_option linter.unusedSimpArgs false
set_option linter.unusedVariables false
namespace Go.Proofs.YtmfihaaiddolmaaGreatDoor
open Go.RowKit

theorem eqFields_if {d : Nat} {xs ys : Array Value} {f : Field} {fs : List Field} {w : World} {a b : Value} {c : Bool} (hn : f.name ≠ "_") (ha : (part f.type xs f.offset).run Tryz.prog w = .ok a w) (hb : (part f.type ys f.offset).run Tryz.prog w = .ok b w)
    (hr : (Op.equalIn d f.type a b).run Tryz.prog w = .ok c w) : (Op.eqFields d xs ys (f :: fs)).run Tryz.prog w = if c then (Op.eqFields d xs ys fs).run Tryz.prog w else .ok false w := by
  rw [Op.eqFields, if_pos hn]
  simp only [Sem.run_bind, ha, hb, hr, Result.andThen_ok]
  cases c <;> simp
theorem parts_eq {L M : List Int} (h : L.length = 38) (h2 : M.length = 38) : (L == M) = ((L.drop 0).take 16 == (M.drop 0).take 16 && (L.getD 16 0 == M.getD 16 0 && ((L.drop 17).take 4 == (M.drop 17).take 4 && ((L.drop 21).take 16 == (M.drop 21).take 16 && L.getD 37 0 == M.getD 37 0)))) := by
  rw [Bool.eq_iff_iff]
  simp only [Bool.and_eq_true, beq_iff_eq]
  refine ⟨fun e => by subst e; simp, fun ⟨e0, e1, e2, e3, e4⟩ => ?_⟩
  apply List.ext_getElem (by omega)
  intro i hi hj
  have at0 : ∀ (o n : Nat), (L.drop o).take n = (M.drop o).take n → o ≤ i → i < o + n → L[i]? = M[i]? := by
    intro o n e h3 h4
    have := congrArg (·[i - o]?) e
    simp only [List.getElem?_take, List.getElem?_drop, show i - o < n by omega, if_true, show o + (i - o) = i by omega] at this
    exact this
  have at1 : ∀ (o : Nat), L.getD o 0 = M.getD o 0 → i = o → L[i]? = M[i]? := by
    intro o e h3
    subst h3
    rw [List.getD_eq_getElem?_getD, List.getD_eq_getElem?_getD, List.getElem?_eq_getElem hi, List.getElem?_eq_getElem hj] at e
    rw [List.getElem?_eq_getElem hi, List.getElem?_eq_getElem hj]
    simpa using e
  have hg : L[i]? = M[i]? := by
    by_cases a : i < 16
    · exact at0 0 16 e0 (by omega) (by omega)
    · by_cases b : i = 16
      · exact at1 16 e1 b
      · by_cases c : i < 21
        · exact at0 17 4 e2 (by omega) (by omega)
        · by_cases d : i < 37
          · exact at0 21 16 e3 (by omega) (by omega)
          · exact at1 37 e4 (by omega)
  rw [List.getElem?_eq_getElem hi, List.getElem?_eq_getElem hj] at hg
  exact Option.some.inj hg
set_option maxRecDepth 100000 in
theorem eq_state_d2 (d : Nat) (L M : List Int) (h : L.length = 38) (h2 : M.length = 38) (w : World) : (Op.equalIn (d + 3) 35 (.agg (arrV L)) (.agg (arrV M))).run Tryz.prog w = .ok (L == M) w := by
  have ht : Tryz.prog.underlying 35 = some (.struct (Tryz.prog.fieldsOf 35)) := by kernel_rfl
  have hp : Tryz.prog.stoodInHeld 35 = false := by kernel_rfl
  have a16 : (isAgg 27).run Tryz.prog w = .ok true w := by kernel_rfl
  have a4 : (isAgg 23).run Tryz.prog w = .ok true w := by kernel_rfl
  have s16 : (sizeOf 27).run Tryz.prog w = .ok 16 w := by kernel_rfl
  have s4 : (sizeOf 23).run Tryz.prog w = .ok 4 w := by kernel_rfl
  have l0 : ∀ {X : List Int}, X.length = 38 → ((X.drop 0).take 16).length = 16 := fun h => by rw [List.length_take, List.length_drop, h]; rfl
  have l2 : ∀ {X : List Int}, X.length = 38 → ((X.drop 17).take 4).length = 4 := fun h => by rw [List.length_take, List.length_drop, h]; rfl
  have l3 : ∀ {X : List Int}, X.length = 38 → ((X.drop 21).take 16).length = 16 := fun h => by rw [List.length_take, List.length_drop, h]; rfl
  rw [run_equalIn_struct w (d + 2) _ _ _ ht hp]
  have q0 := eq_ints d _ _ (l0 h) (l0 h2) Tryz.underlying27 w
  have q2 := eq_ints d _ _ (l2 h) (l2 h2) Tryz.underlying23 w
  have q3 := eq_ints d _ _ (l3 h) (l3 h2) Tryz.underlying27 w
  have n0 : ("Mem" : String) ≠ "_" := by decide +kernel
  have n1 : ("Last" : String) ≠ "_" := by decide +kernel
  have n2 : ("Levels" : String) ≠ "_" := by decide +kernel
  have n3 : ("Waves" : String) ≠ "_" := by decide +kernel
  have n4 : ("Lost" : String) ≠ "_" := by decide +kernel
  simp only [Program.fieldsOf, Tryz.underlying35]
  have r1 := run_equalIn_int w (d + 1) 3 .i64 .i64 (L.getD 16 0) (M.getD 16 0) Tryz.underlying3
  have r4 := run_equalIn_int w (d + 1) 3 .i64 .i64 (L.getD 37 0) (M.getD 37 0) Tryz.underlying3
  rw [parts_eq h h2]
  refine Eq.trans (eqFields_if (a := .agg (arrV ((L.drop 0).take 16))) (b := .agg (arrV ((M.drop 0).take 16))) n0 (run_part_arr 27 L 0 16 w a16 s16) (run_part_arr 27 M 0 16 w a16 s16) q0) ?_
  cases ((L.drop 0).take 16 == (M.drop 0).take 16) with
  | false => rfl
  | true =>
    rw [if_pos rfl]
    refine Eq.trans (eqFields_if (a := .int .i64 (L.getD 16 0)) (b := .int .i64 (M.getD 16 0)) n1 (run_part_one L 16 (by omega) w) (run_part_one M 16 (by omega) w) r1) ?_
    cases (L.getD 16 0 == M.getD 16 0) with
    | false => rfl
    | true =>
      rw [if_pos rfl]
      refine Eq.trans (eqFields_if (a := .agg (arrV ((L.drop 17).take 4))) (b := .agg (arrV ((M.drop 17).take 4))) n2 (run_part_arr 23 L 17 4 w a4 s4) (run_part_arr 23 M 17 4 w a4 s4) q2) ?_
      cases ((L.drop 17).take 4 == (M.drop 17).take 4) with
      | false => rfl
      | true =>
        rw [if_pos rfl]
        refine Eq.trans (eqFields_if (a := .agg (arrV ((L.drop 21).take 16))) (b := .agg (arrV ((M.drop 21).take 16))) n3 (run_part_arr 27 L 21 16 w a16 s16) (run_part_arr 27 M 21 16 w a16 s16) q3) ?_
        cases ((L.drop 21).take 16 == (M.drop 21).take 16) with
        | false => rfl
        | true =>
          rw [if_pos rfl]
          refine Eq.trans (eqFields_if (a := .int .i64 (L.getD 37 0)) (b := .int .i64 (M.getD 37 0)) n4 (run_part_one L 37 (by omega) w) (run_part_one M 37 (by omega) w) r4) ?_
          cases (L.getD 37 0 == M.getD 37 0) with
          | false => rfl
          | true =>
            rw [if_pos rfl]
            simp [Op.eqFields]
theorem eq_states {L M : List Int} (h : Len L 38) (h2 : Len M 38) (w : World) : (Op.equalIn 10000 35 (.agg (arrV L)) (.agg (arrV M))).run Tryz.prog w = .ok (L == M) w := eq_state_d2 9997 L M h.out h2.out w
end Go.Proofs.YtmfihaaiddolmaaGreatDoor
