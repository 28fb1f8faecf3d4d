/- What the rows of layer 15 share: an encoder, and a slice of arrays, that came in. -/
import Derived.Test.YtkoljgmapclhkaaGreatDoorRow13
import Derived.Test.YtkoljgmapclhkaaGreatDoorLaw15b
import Derived.Deep.Fields
import Derived.LaidSub
import Derived.Lay
set_option linter.unusedSimpArgs false
set_option linter.unusedVariables false
namespace Go.Proofs.YtkoljgmapclhkaaGreatDoor
open Go.ChangeShapes Go.WideShapes Go.ChangeAt Go.RowKit Go.Deep
section
variable {H : Type} {enc : TypeId × Value → H} {W : World} {base : Nat}
set_option maxRecDepth 100000 in
theorem open_sixteens {v : Value} {d : DataW H} {ps : List MemPlace} (hval : Value.okWide Tryz.prog W .any base 38 v) (h : DataW.Trod enc Tryz.prog W 0 (fun _ => true) true 38 v d ps) : ∃ (l : List (List Int)) (p : Option Addr) (cap : Nat), v = .slice p l.length cap ∧ SixIn W p cap l := by
  obtain ⟨a0, len0, cap0, rfl⟩ := okWide_slice Tryz.underlying38 hval
  obtain ⟨fuel, hf⟩ := h
  rcases open_slice Tryz.underlying38 hf with ⟨h0, _⟩ | ⟨a, len, cap, m, n, D, Pl, hcs, hb, hl, hm, hmm, hx, hi⟩
  · refine ⟨[], none, 0, by simpa [Value.cells] using h0, Nat.le_refl _, by omega, fun i e he => by simp at he⟩
  · have hv : Value.slice a0 len0 cap0 = .slice (some a) len cap := by simpa [Value.cells] using hcs
    rw [hv]
    have hmc : m = cap := by simpa using hmm
    have each : ∀ i, i < len → ∃ c : List Int, c.length = 16 ∧ a.block < W.heap.size ∧ ∀ (j : Nat) (x : Int), c[j]? = some x → W.cell? ((a.add (i * 16)).add j) = some (.int .i64 x) := by
      intro i hil
      obtain ⟨cs', hc, ht'⟩ := hi i (by omega)
      rw [cells_sixteen] at hc
      obtain ⟨_, hcl, hat⟩ := World.cells?_some hc
      obtain ⟨l, hl, hci, _⟩ := ints_of_arr Tryz.underlying22 cells_sixteen ht'
      have hget : ∀ (j : Nat) (x : Int), l[j]? = some x → W.cell? ((a.add (i * 16)).add j) = some (.int .i64 x) := fun j x hx => by
        have hj : j < 16 := by have := (List.getElem?_eq_some_iff.1 hx).1; omega
        rw [hat j hj, hci]
        unfold intsV
        rw [List.getElem?_map, hx]; rfl
      refine ⟨l, hl, ?_, hget⟩
      have h0 := hget 0 (l[0]'(by omega)) (List.getElem?_eq_getElem (by omega))
      have hlt : ((a.add (i * 16)).add 0).block < W.heap.size := by
        rcases Nat.lt_or_ge ((a.add (i * 16)).add 0).block W.heap.size with h1 | h1
        · exact h1
        · simp [World.cell?, Array.getElem?_eq_none h1] at h0
      rwa [addr_add2] at hlt
    let F : Nat → List Int := fun i => if hh : i < len then (each i hh).choose else []
    have hlen : ((List.range len).map F).length = len := by simp
    refine ⟨(List.range len).map F, some a, cap, by rw [hlen], by rw [hlen]; exact hl, by simpa [maxLen] using hm, fun i c hc => ?_⟩
    have hil : i < len := by have := (List.getElem?_eq_some_iff.1 hc).1; simpa using this
    have hci : F i = c := by simpa [List.getElem?_map, List.getElem?_range hil] using hc
    have hF : F i = (each i hil).choose := by simp only [F, dif_pos hil]
    rw [← hci, hF]
    obtain ⟨q1, q2, q3⟩ := (each i hil).choose_spec
    exact ⟨q1, a, rfl, q2, q3⟩
end
theorem bands_in {l : List (String × DataW Unit)} {W : World} (hf : l.filter (fun x => x.1 == "spool/level.first") = [("spool/level.first", Rows.laid_spool_level_first)]) (hL : laidMetH Tryz.prog l W) (hS : W.ShapedOpen Tryz.prog) : BandsW W :=
  bands_of (by rw [← hf]; exact hL.filter _) hS
end Go.Proofs.YtkoljgmapclhkaaGreatDoor
