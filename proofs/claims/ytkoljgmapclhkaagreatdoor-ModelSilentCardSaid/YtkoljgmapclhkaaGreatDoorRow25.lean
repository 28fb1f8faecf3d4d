/- What the rows of layer 25 share: the table, and slices of whole numbers that came in. -/
import Derived.Test.YtkoljgmapclhkaaGreatDoorRow13
import Derived.Test.YtkoljgmapclhkaaGreatDoorNum23
import Derived.ChangeSlices
import Derived.LaidSub
import Derived.Lay
set_option linter.unusedSimpArgs false
set_option linter.unusedVariables false
namespace Go.Proofs.YtkoljgmapclhkaaGreatDoor
open Go.ChangeShapes Go.WideShapes Go.ChangeAt Go.RowKit Go.Deep
theorem cell_lt {W : World} {a : Addr} {v : Value} (h : W.cell? a = some v) : a.block < W.heap.size := by
  rcases Nat.lt_or_ge a.block W.heap.size with h1 | h1
  · exact h1
  · simp [World.cell?, Array.getElem?_eq_none h1] at h
theorem bands_in {l : List (String × DataW Unit)} {W : World} (hf : l.filter (fun x => x.1 == "spool/level.first") = [("spool/level.first", Rows.laid_spool_level_first)]) (hL : laidMetH Tryz.prog l W) (hS : W.ShapedOpen Tryz.prog) : BandsW W :=
  bands_of (by rw [← hf]; exact hL.filter _) hS
section
variable {H : Type} {enc : TypeId × Value → H} {W : World} {base : Nat}
set_option maxRecDepth 100000 in
theorem open_nums {t e : TypeId} {k : IntKind} (ht : Tryz.prog.underlying t = some (.slice e)) (he : Tryz.prog.underlying e = some (.int k)) (hc : Tryz.prog.cellsOf e = 1) {v : Value} {d : DataW H} {ps : List MemPlace}
    (hval : Value.okWide Tryz.prog W .any base t v) (h : DataW.Trod enc Tryz.prog W 0 (fun _ => true) true t v d ps) : ∃ zs, NumsIn W k v zs := by
  obtain ⟨a0, len0, cap0, rfl⟩ := okWide_slice ht hval
  obtain ⟨fuel, hf⟩ := h
  rcases open_ints ht he hc hf with ⟨h0, _⟩ | ⟨a, len, cap, zs, hcs, hb, hl, hm, hlen, hx, hi, hw⟩
  · refine ⟨[], none, 0, ?_, Nat.le_refl _, by omega, fun i x hx => by simp at hx⟩
    simpa [Value.cells] using h0
  · have hv : Value.slice a0 len0 cap0 = .slice (some a) len cap := by simpa [Value.cells] using hcs
    rw [hv]
    have hmc : zs.length = cap := by simpa using hlen
    have hz : (zs.take len).length = len := by rw [List.length_take]; omega
    refine ⟨zs.take len, some a, cap, by rw [hz], by rw [hz]; exact hl, by simpa [maxLen] using hm, fun i x hx => ?_⟩
    have hil : i < len := by have := (List.getElem?_eq_some_iff.1 hx).1; omega
    rw [List.getElem?_take_of_lt hil] at hx
    have hiz : i < zs.length := (List.getElem?_eq_some_iff.1 hx).1
    have hcell := hi i hiz
    rw [List.getD_eq_getElem?_getD, hx, Option.getD_some] at hcell
    have hbl := cell_lt hcell
    rw [addr_block] at hbl
    exact ⟨a, rfl, hbl, hcell, hw x (List.mem_of_getElem? hx)⟩
end
end Go.Proofs.YtkoljgmapclhkaaGreatDoor
