/- What the rows of layer 13 share: states and levels that came in; the world in which level.first is laid. -/
import Derived.Test.YtkoljgmapclhkaaGreatDoorLawBase
import Derived.Test.YtkoljgmapclhkaaGreatDoorLot2
import Derived.Test.YtkoljgmapclhkaaGreatDoorCards
import Derived.Test.YtkoljgmapclhkaaGreatDoorTie
import Derived.OpenShut
import Derived.ChangeArms
import Derived.Deep.DeepHandedRow
import Derived.Lib.LaidTab
import Derived.Deep.Slices
import Derived.ChangeSame
set_option linter.unusedSimpArgs false
set_option linter.unusedVariables false
namespace Go.Proofs.YtkoljgmapclhkaaGreatDoor
open Go.ChangeShapes Go.WideShapes Go.ChangeAt Go.RowKit
section
variable {H : Type} {enc : TypeId × Value → H} {W : World} {base : Nat}
def In64 (z : Int) : Prop := -9223372036854775808 ≤ z ∧ z ≤ 9223372036854775807
theorem ints_of_arr {sp : Nat → Bool} {held : Bool} {b fuel : Nat} {t : TypeId} {n : Nat} {cs : List Value} {x : DataW H × List MemPlace} (ht : Tryz.prog.underlying t = some (.array n 3)) (hct : Tryz.prog.cellsOf t = n)
    (h : DataW.trod enc Tryz.prog W b sp held fuel t cs = some x) : ∃ l : List Int, l.length = n ∧ cs = intsV l ∧ ∀ z ∈ l, In64 z := by
  obtain ⟨xs, m, _, _, hl, hxl, hi⟩ := DataW.trod_array ht h
  have hce : Tryz.prog.cellsOf 3 = 1 := by kernel_rfl
  rw [hct] at hl
  have each : ∀ i, i < n → ∃ z, cs[i]? = some (.int .i64 z) ∧ In64 z := fun i hin => by
    have h1 := hi i hin
    rw [hce, Nat.mul_one, List.getElem?_eq_getElem (by omega)] at h1
    obtain ⟨z, e1, _, w1⟩ := DataW.trod_int Tryz.underlying3 h1
    refine ⟨z, ?_, wf_i64 w1⟩
    have h2 := congrArg (·[0]?) e1
    simpa [List.getElem?_take, List.getElem?_drop] using h2
  let F : Nat → Int := fun i => if hh : i < n then (each i hh).choose else 0
  refine ⟨(List.range n).map F, by simp, ?_, fun z hz => ?_⟩
  · apply List.ext_getElem?
    intro i
    by_cases hin : i < n
    · rw [(each i hin).choose_spec.1]
      simp [F, hin]
    · rw [List.getElem?_eq_none (by omega), List.getElem?_eq_none (by simp; omega)]
  · obtain ⟨i, hi2, rfl⟩ := List.mem_map.1 hz
    have hin := List.mem_range.1 hi2
    simp only [F, dif_pos hin]
    exact (each i hin).choose_spec.2
theorem cells_four : Tryz.prog.cellsOf 27 = 4 := by kernel_rfl
theorem cells_sixteen : Tryz.prog.cellsOf 22 = 16 := by kernel_rfl
set_option maxRecDepth 100000 in
theorem okWide_arr {r : Reach} {b : Nat} {t e : TypeId} {n : Nat} {v : Value} (ht : Tryz.prog.underlying t = some (.array n e)) (h : Value.okWide Tryz.prog W r b t v) : ∃ cs, v = .agg cs ∧ cs.size = Tryz.prog.cellsOf t := by
  unfold Value.okWide at h
  rw [ht] at h
  obtain ⟨cs, hv, hs, _⟩ := h
  exact ⟨cs, hv, hs⟩
set_option maxRecDepth 100000 in
theorem open_four {v : Value} {d : DataW H} {ps : List MemPlace} (hval : Value.okWide Tryz.prog W .any base 27 v) (h : DataW.Trod enc Tryz.prog W 0 (fun _ => true) true 27 v d ps) : ∃ l : List Int, l.length = 4 ∧ v = .agg (arrV l) ∧ ∀ z ∈ l, In64 z := by
  obtain ⟨cs, rfl, hs⟩ := okWide_arr Tryz.underlying27 hval
  obtain ⟨fuel, hf⟩ := h
  obtain ⟨l, hl, hc, hw⟩ := ints_of_arr Tryz.underlying27 cells_four hf
  have he : cs = (intsV l).toArray := by rw [← hc]; exact (Array.toArray_toList (xs := cs)).symm
  exact ⟨l, hl, by rw [he], hw⟩
set_option maxRecDepth 100000 in
theorem open_sixteen {v : Value} {d : DataW H} {ps : List MemPlace} (hval : Value.okWide Tryz.prog W .any base 22 v) (h : DataW.Trod enc Tryz.prog W 0 (fun _ => true) true 22 v d ps) : ∃ l : List Int, l.length = 16 ∧ v = .agg (arrV l) ∧ ∀ z ∈ l, In64 z := by
  obtain ⟨cs, rfl, hs⟩ := okWide_arr Tryz.underlying22 hval
  obtain ⟨fuel, hf⟩ := h
  obtain ⟨l, hl, hc, hw⟩ := ints_of_arr Tryz.underlying22 cells_sixteen hf
  have he : cs = (intsV l).toArray := by rw [← hc]; exact (Array.toArray_toList (xs := cs)).symm
  exact ⟨l, hl, by rw [he], hw⟩
theorem cat38 {α : Type} (l : List α) (h : l.length = 38) : l = (l.drop 0).take 16 ++ (l.drop 16).take 1 ++ (l.drop 17).take 4 ++ (l.drop 21).take 16 ++ (l.drop 37).take 1 := by
  have e1 : (l.drop 37).take 1 = l.drop 37 := List.take_of_length_le (by rw [List.length_drop]; omega)
  have e2 : (l.drop 21).take 16 ++ l.drop 37 = l.drop 21 := by
    have := List.take_append_drop 16 (l.drop 21); rwa [List.drop_drop] at this
  have e3 : (l.drop 17).take 4 ++ l.drop 21 = l.drop 17 := by
    have := List.take_append_drop 4 (l.drop 17); rwa [List.drop_drop] at this
  have e4 : (l.drop 16).take 1 ++ l.drop 17 = l.drop 16 := by
    have := List.take_append_drop 1 (l.drop 16); rwa [List.drop_drop] at this
  rw [e1, List.append_assoc, e2, List.append_assoc, e3, List.append_assoc, e4, List.drop_zero, List.take_append_drop]
end
set_option maxRecDepth 100000 in
/-- The bands' table lies in its variable: the row's premise, and the world's shape. -/
theorem bands_of {W : World} (hL : laidMetH Tryz.prog [("spool/level.first", Rows.laid_spool_level_first)] W) (hS : W.ShapedOpen Tryz.prog) : BandsW W := by
  have hg : Tryz.prog.globalNamed "spool/level.first" = some 0 := by kernel_rfl
  have hM : laidMet Tryz.prog [("spool/level.first", Lib.tabData .i64 [0, 2, 4, 8, 16])] W := by
    rw [MakeChecks.laidMetH_plain _ _ _ (by kernel_rfl)] at hL
    exact hL
  have hT := Lib.tabIs_of_head (e := 3) (n := 5) hg (by kernel_rfl) Tryz.underlying164 Tryz.underlying3 (by kernel_rfl) (by kernel_rfl) hM
  obtain ⟨cs, hcs, _, _⟩ := hS.1 0 #[.int .i64 0, .int .i64 0, .int .i64 0, .int .i64 0, .int .i64 0] 164 (by decide +kernel) (by kernel_rfl)
  unfold Lib.TabIs World.var? at hT
  rw [hg] at hT
  simp only [Option.bind_some, hcs, Option.some.injEq] at hT
  unfold BandsW Blk
  rw [hcs, hT]
  rfl
def setTab (cs : Array Value) : Obj → Obj
  | .cells _ t frozen => .cells cs t frozen
  | o => o
/-- A world for the witness: the settled one, the table holding what its initialiser lays. -/
noncomputable def laidWorld (os : Os) : World :=
  { World.holding Tryz.prog os ⟨#[], #[], []⟩ with heap := (World.holding Tryz.prog os ⟨#[], #[], []⟩).heap.modify 0 (setTab #[.int .i64 0, .int .i64 2, .int .i64 4, .int .i64 8, .int .i64 16]) }
end Go.Proofs.YtkoljgmapclhkaaGreatDoor
