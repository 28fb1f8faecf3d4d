/- What the rows of layer 13 share: states and levels that came in; the world in which level.first is laid. -/
import Derived.Test.YthpjkgpngbdhbaaGreatDoorLawBase
import Derived.Test.YthpjkgpngbdhbaaGreatDoorLot2
import Derived.Test.YthpjkgpngbdhbaaGreatDoorCards
import Derived.Test.YthpjkgpngbdhbaaGreatDoorTie
import Derived.OpenShut
import Derived.ChangeArms
import Derived.Deep.DeepHandedRow
import Derived.Lib.LaidTab
import Derived.Deep.Slices
import Derived.ChangeSame
set_option linter.unusedSimpArgs false
set_option linter.unusedVariables false
namespace Go.Proofs.YthpjkgpngbdhbaaGreatDoor
open Go.ChangeShapes Go.WideShapes Go.ChangeAt Go.RowKit
section
variable {H : Type} {enc : TypeId × Value → H} {W : World} {base : Nat}
def In64 (z : Int) : Prop := -9223372036854775808 ≤ z ∧ z ≤ 9223372036854775807
theorem ints_of_arr {sp : Nat → Bool} {held : Bool} {b fuel : Nat} {t : TypeId} {n : Nat} {cs : List Value} {x : DataW H × List MemPlace} (ht : Tryz.prog.underlying t = some (.array n 3)) (hct : Tryz.prog.cellsOf t = n)
    (h : DataW.trod enc Tryz.prog W b sp held fuel t cs = some x) : ∃ l : List Int, l.length = n ∧ cs = intsV l ∧ ∀ z ∈ l, In64 z := by
  obtain ⟨xs, m, _, _, hl, hxl, hi⟩ := DataW.trod_array ht h
  have hce : Tryz.prog.cellsOf 3 = 1 := by kernel_rfl
  rw [hct] at hl
  have each : ∀ i, i < n → ∃ z, cs[i]? = some (.int .i64 z) ∧ In64 z := fun i hin => by
    have h1 := hi i hin
    rw [hce, Nat.mul_one, List.getElem?_eq_getElem (by omega)] at h1
    obtain ⟨z, e1, _, w1⟩ := DataW.trod_int Tryz.underlying3 h1
    refine ⟨z, ?_, wf_i64 w1⟩
    have h2 := congrArg (·[0]?) e1
    simpa [List.getElem?_take, List.getElem?_drop] using h2
  let F : Nat → Int := fun i => if hh : i < n then (each i hh).choose else 0
  refine ⟨(List.range n).map F, by simp, ?_, fun z hz => ?_⟩
  · apply List.ext_getElem?
    intro i
    by_cases hin : i < n
    · rw [(each i hin).choose_spec.1]
      simp [F, hin]
    · rw [List.getElem?_eq_none (by omega), List.getElem?_eq_none (by simp; omega)]
  · obtain ⟨i, hi2, rfl⟩ := List.mem_map.1 hz
    have hin := List.mem_range.1 hi2
    simp only [F, dif_pos hin]
    exact (each i hin).choose_spec.2
theorem cells_four : Tryz.prog.cellsOf 23 = 4 := by kernel_rfl
theorem cells_sixteen : Tryz.prog.cellsOf 22 = 16 := by kernel_rfl
set_option maxRecDepth 100000 in
theorem okWide_arr {r : Reach} {b : Nat} {t e : TypeId} {n : Nat} {v : Value} (ht : Tryz.prog.underlying t = some (.array n e)) (h : Value.okWide Tryz.prog W r b t v) : ∃ cs, v = .agg cs ∧ cs.size = Tryz.prog.cellsOf t := by
  unfold Value.okWide at h
  rw [ht] at h
  obtain ⟨cs, hv, hs, _⟩ := h
  exact ⟨cs, hv, hs⟩
set_option maxRecDepth 100000 in
theorem open_four {v : Value} {d : DataW H} {ps : List MemPlace} (hval : Value.okWide Tryz.prog W .any base 23 v) (h : DataW.Trod enc Tryz.prog W 0 (fun _ => true) true 23 v d ps) : ∃ l : List Int, l.length = 4 ∧ v = .agg (arrV l) ∧ ∀ z ∈ l, In64 z := by
  obtain ⟨cs, rfl, hs⟩ := okWide_arr Tryz.underlying23 hval
  obtain ⟨fuel, hf⟩ := h
  obtain ⟨l, hl, hc, hw⟩ := ints_of_arr Tryz.underlying23 cells_four hf
  have he : cs = (intsV l).toArray := by rw [← hc]; exact (Array.toArray_toList (xs := cs)).symm
  exact ⟨l, hl, by rw [he], hw⟩
set_option maxRecDepth 100000 in
theorem open_sixteen {v : Value} {d : DataW H} {ps : List MemPlace} (hval : Value.okWide Tryz.prog W .any base 22 v) (h : DataW.Trod enc Tryz.prog W 0 (fun _ => true) true 22 v d ps) : ∃ l : List Int, l.length = 16 ∧ v = .agg (arrV l) ∧ ∀ z ∈ l, In64 z := by
  obtain ⟨cs, rfl, hs⟩ := okWide_arr Tryz.underlying22 hval
  obtain ⟨fuel, hf⟩ := h
  obtain ⟨l, hl, hc, hw⟩ := ints_of_arr Tryz.underlying22 cells_sixteen hf
  have he : cs = (intsV l).toArray := by rw [← hc]; exact (Array.toArray_toList (xs := cs)).symm
  exact ⟨l, hl, by rw [he], hw⟩
theorem cat38 {α : Type} (l : List α) (h : l.length = 38) : l = (l.drop 0).take 16 ++ (l.drop 16).take 1 ++ (l.drop 17).take 4 ++ (l.drop 21).take 16 ++ (l.drop 37).take 1 := by
  have e1 : (l.drop 37).take 1 = l.drop 37 := List.take_of_length_le (by rw [List.length_drop]; omega)
  have e2 : (l.drop 21).take 16 ++ l.drop 37 = l.drop 21 := by
    have := List.take_append_drop 16 (l.drop 21); rwa [List.drop_drop] at this
  have e3 : (l.drop 17).take 4 ++ l.drop 21 = l.drop 17 := by
    have := List.take_append_drop 4 (l.drop 17); rwa [List.drop_drop] at this
  have e4 : (l.drop 16).take 1 ++ l.drop 17 = l.drop 16 := by
    have := List.take_append_drop 1 (l.drop 16); rwa [List.drop_drop] at this
  rw [e1, List.append_assoc, e2, List.append_assoc, e3, List.append_assoc, e4, List.drop_zero, List.take_append_drop]
set_option maxRecDepth 100000 in
theorem ints_of_state {sp : Nat → Bool} {held : Bool} {b fuel : Nat} {cs : List Value} {x : DataW H × List MemPlace} (hf : DataW.trod enc Tryz.prog W b sp held fuel 25 cs = some x) : ∃ l : List Int, l.length = 38 ∧ cs = intsV l ∧ ∀ z ∈ l, In64 z := by
  obtain ⟨xs, n, _, _, hl, hxl, hfs⟩ := DataW.trod_struct Tryz.underlying25 hf
  have hc38 : Tryz.prog.cellsOf 25 = 38 := by kernel_rfl
  have hci : Tryz.prog.cellsOf 3 = 1 := by kernel_rfl
  rw [hc38] at hl
  have g : ∀ i, i < 5 → ∃ y, xs[i]? = some y := fun i hi => ⟨_, List.getElem?_eq_getElem (by rw [hxl]; exact hi)⟩
  obtain ⟨y0, g0⟩ := g 0 (by omega)
  obtain ⟨y1, g1⟩ := g 1 (by omega)
  obtain ⟨y2, g2⟩ := g 2 (by omega)
  obtain ⟨y3, g3⟩ := g 3 (by omega)
  obtain ⟨y4, g4⟩ := g 4 (by omega)
  have f0 : DataW.trod enc Tryz.prog W b sp held n 22 ((cs.drop 0).take (Tryz.prog.cellsOf 22)) = some y0 := (hfs 0 _ rfl).trans g0
  rw [cells_sixteen] at f0
  have f1 : DataW.trod enc Tryz.prog W b sp held n 3 ((cs.drop 16).take (Tryz.prog.cellsOf 3)) = some y1 := (hfs 1 _ rfl).trans g1
  rw [hci] at f1
  have f2 : DataW.trod enc Tryz.prog W b sp held n 23 ((cs.drop 17).take (Tryz.prog.cellsOf 23)) = some y2 := (hfs 2 _ rfl).trans g2
  rw [cells_four] at f2
  have f3 : DataW.trod enc Tryz.prog W b sp held n 22 ((cs.drop 21).take (Tryz.prog.cellsOf 22)) = some y3 := (hfs 3 _ rfl).trans g3
  rw [cells_sixteen] at f3
  have f4 : DataW.trod enc Tryz.prog W b sp held n 3 ((cs.drop 37).take (Tryz.prog.cellsOf 3)) = some y4 := (hfs 4 _ rfl).trans g4
  rw [hci] at f4
  obtain ⟨l0, m0, c0, w0⟩ := ints_of_arr Tryz.underlying22 cells_sixteen f0
  obtain ⟨l2, m2, c2, w2⟩ := ints_of_arr Tryz.underlying23 cells_four f2
  obtain ⟨l3, m3, c3, w3⟩ := ints_of_arr Tryz.underlying22 cells_sixteen f3
  obtain ⟨z1, c1, _, w1⟩ := DataW.trod_int Tryz.underlying3 f1
  obtain ⟨z4, c4, _, w4⟩ := DataW.trod_int Tryz.underlying3 f4
  have hcat := cat38 cs hl
  rw [c0, c1, c2, c3, c4] at hcat
  refine ⟨l0 ++ [z1] ++ l2 ++ l3 ++ [z4], by simp [m0, m2, m3], by rw [hcat]; simp [intsV], ?_⟩
  intro z hz
  simp only [List.mem_append, List.mem_singleton] at hz
  rcases hz with (((hz | rfl) | hz) | hz) | rfl
  · exact w0 z hz
  · exact wf_i64 w1
  · exact w2 z hz
  · exact w3 z hz
  · exact wf_i64 w4
set_option maxRecDepth 100000 in
theorem open_state {v : Value} {d : DataW H} {ps : List MemPlace} (hval : Value.okWide Tryz.prog W .any base 25 v) (h : DataW.Trod enc Tryz.prog W 0 (fun _ => true) true 25 v d ps) : ∃ l : List Int, l.length = 38 ∧ v = .agg (arrV l) ∧ ∀ z ∈ l, In64 z := by
  obtain ⟨cs, rfl, hs⟩ := okWide_struct Tryz.underlying25 hval
  obtain ⟨fuel, hf⟩ := h
  obtain ⟨l, hl, hc, hw⟩ := ints_of_state hf
  have he : cs = (intsV l).toArray := by rw [← hc]; exact (Array.toArray_toList (xs := cs)).symm
  exact ⟨l, hl, by rw [he], hw⟩
end
set_option maxRecDepth 100000 in
/-- The bands' table lies in its variable: the row's premise, and the world's shape. -/
theorem bands_of {W : World} (hL : laidMetH Tryz.prog [("spool/level.first", Rows.laid_spool_level_first)] W) (hS : W.ShapedOpen Tryz.prog) : BandsW W := by
  have hg : Tryz.prog.globalNamed "spool/level.first" = some 0 := by kernel_rfl
  have hM : laidMet Tryz.prog [("spool/level.first", Lib.tabData .i64 [0, 2, 4, 8, 16])] W := by
    rw [MakeChecks.laidMetH_plain _ _ _ (by kernel_rfl)] at hL
    exact hL
  have hT := Lib.tabIs_of_head (e := 3) (n := 5) hg (by kernel_rfl) Tryz.underlying133 Tryz.underlying3 (by kernel_rfl) (by kernel_rfl) hM
  obtain ⟨cs, hcs, _, _⟩ := hS.1 0 #[.int .i64 0, .int .i64 0, .int .i64 0, .int .i64 0, .int .i64 0] 133 (by decide +kernel) (by kernel_rfl)
  unfold Lib.TabIs World.var? at hT
  rw [hg] at hT
  simp only [Option.bind_some, hcs, Option.some.injEq] at hT
  unfold BandsW Blk
  rw [hcs, hT]
  rfl
def setTab (cs : Array Value) : Obj → Obj
  | .cells _ t frozen => .cells cs t frozen
  | o => o
/-- A world for the witness: the settled one, the table holding what its initialiser lays. -/
noncomputable def laidWorld (os : Os) : World :=
  { World.holding Tryz.prog os ⟨#[], #[], []⟩ with heap := (World.holding Tryz.prog os ⟨#[], #[], []⟩).heap.modify 0 (setTab #[.int .i64 0, .int .i64 2, .int .i64 4, .int .i64 8, .int .i64 16]) }
end Go.Proofs.YthpjkgpngbdhbaaGreatDoor
