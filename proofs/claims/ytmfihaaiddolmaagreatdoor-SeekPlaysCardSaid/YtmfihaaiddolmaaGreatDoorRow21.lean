/- What the rows of the layers 21 and 23 share: a slice of entries that came in. -/
import Derived.Test.YtmfihaaiddolmaaGreatDoorRow13
import Derived.Test.YtmfihaaiddolmaaGreatDoorLot8
import Derived.Deep.Fields
set_option linter.unusedSimpArgs false
set_option linter.unusedVariables false
namespace Go.Proofs.YtmfihaaiddolmaaGreatDoor
open Go.ChangeShapes Go.WideShapes Go.ChangeAt Go.RowKit Go.Deep
section
variable {H : Type} {enc : TypeId × Value → H} {P : Program} {w : World} {base : Nat} {spare : Nat → Bool} {held : Bool}
theorem open_slice_fields {t e : TypeId} {fs : Array Field} {fuel : Nat} {cs : List Value} {x : DataW H × List MemPlace} (ht : P.underlying t = some (.slice e)) (he : P.underlying e = some (.struct fs))
    (hone : oneCellFields P fs = true) (hC : P.cellsOf e = fs.size) (h : DataW.trod enc P w base spare held fuel t cs = some x) :
    (cs = [.slice none 0 0] ∧ x = (.nil, [])) ∨
    ∃ (a : Addr) (len cap m : Nat) (D : Nat → DataW H) (Pl : Nat → List MemPlace), cs = [.slice (some a) len cap] ∧ base ≤ a.block ∧ len ≤ cap ∧ cap ≤ maxLen ∧ m = (if spare a.block then cap else len) ∧
      x = (.slice ((List.range len).map D) ((List.range (m - len)).map fun j => D (len + j)), MemPlace.row a (m * fs.size) ++ (List.range m).flatMap Pl) ∧
      ∀ i, i < m → ∃ (ys : List (DataW H × List MemPlace)) (n : Nat), D i = .agg (ys.map (·.1)) ∧ Pl i = ys.flatMap (·.2) ∧ ys.length = fs.size ∧
        ∀ (j : Nat) (f : Field), fs[j]? = some f → ∃ (v : Value) (y : DataW H × List MemPlace), w.cell? (a.add (i * fs.size + j)) = some v ∧ ys[j]? = some y ∧ DataW.trod enc P w base spare held n f.type [v] = some y := by
  rcases open_slice ht h with h0 | ⟨a, len, cap, m, n, D, Pl, hcs, hb, hl, hm, hmm, hx, hi⟩
  · exact .inl h0
  · refine .inr ⟨a, len, cap, m, D, Pl, hcs, hb, hl, hm, hmm, by rw [hC] at hx; exact hx, fun i him => ?_⟩
    obtain ⟨cs', hc, ht'⟩ := hi i him
    rw [hC] at hc
    obtain ⟨ys, n', hn', hy, hlen, hyl, hf⟩ := DataW.trod_struct he ht'
    obtain ⟨_, hcl, hat⟩ := World.cells?_some hc
    simp only [Prod.mk.injEq] at hy
    refine ⟨ys, n', hy.1, hy.2, hyl, fun j f hj => ?_⟩
    obtain ⟨ho, hk⟩ := hone_of hone j f hj
    have hjl : j < fs.size := (Array.getElem?_eq_some_iff.1 hj).1
    have hcell := hat j hjl
    have hv : cs'[j]? = some (cs'[j]'(by omega)) := List.getElem?_eq_getElem (by omega)
    have h1 := hf j f hj
    rw [ho, hk] at h1
    have hone' : (cs'.drop j).take 1 = [cs'[j]'(by omega)] := by
      rw [List.drop_eq_getElem_cons (by omega)]
      rfl
    rw [hone'] at h1
    have hys : ys[j]? = some (ys[j]'(by omega)) := List.getElem?_eq_getElem (by omega)
    refine ⟨_, _, ?_, hys, h1.trans hys⟩
    rw [← Go.Deep.add_add, hcell, hv]
end
theorem cell_lt {W : World} {a : Addr} {v : Value} (h : W.cell? a = some v) : a.block < W.heap.size := by
  rcases Nat.lt_or_ge a.block W.heap.size with h1 | h1
  · exact h1
  · simp [World.cell?, Array.getElem?_eq_none h1] at h
section
variable {H : Type} {enc : TypeId × Value → H} {W : World} {base : Nat}
set_option maxRecDepth 100000 in
theorem open_entries {v : Value} {d : DataW H} {ps : List MemPlace} (hval : Value.okWide Tryz.prog W .any base 43 v) (h : DataW.Trod enc Tryz.prog W 0 (fun _ => true) true 43 v d ps) : ∃ (l : List Ent) (p : Option Addr) (cap : Nat), v = .slice p l.length cap ∧ EntIn W p cap l := by
  obtain ⟨a0, len0, cap0, rfl⟩ := okWide_slice Tryz.underlying43 hval
  obtain ⟨fuel, hf⟩ := h
  rcases open_slice_fields Tryz.underlying43 Tryz.underlying58 (by kernel_rfl) (by kernel_rfl) hf with ⟨h0, _⟩ | ⟨a, len, cap, m, D, Pl, hcs, hb, hl, hm, hmm, hx, hi⟩
  · refine ⟨[], none, 0, by simpa [Value.cells] using h0, Nat.le_refl _, by omega, fun i e he => by simp at he⟩
  · have hv : Value.slice a0 len0 cap0 = .slice (some a) len cap := by simpa [Value.cells] using hcs
    rw [hv]
    have hmc : m = cap := by simpa using hmm
    have each : ∀ i, i < len → ∃ c : Ent, a.block < W.heap.size ∧ W.cell? (a.add (i * 3)) = some (.int .i64 c.kind) ∧ W.cell? ⟨(a.add (i * 3)).block, (a.add (i * 3)).off + 1, none⟩ = some (.int .u32 c.stamp) ∧ W.cell? ⟨(a.add (i * 3)).block, (a.add (i * 3)).off + 2, none⟩ = some (.string c.data) ∧ EntOk c := by
      intro i hil
      obtain ⟨ys, n', _, _, _, hfs⟩ := hi i (by omega)
      obtain ⟨v0, y0, c0, _, t0⟩ := hfs 0 _ rfl
      obtain ⟨v1, y1, c1, _, t1⟩ := hfs 1 _ rfl
      obtain ⟨v2, y2, c2, _, t2⟩ := hfs 2 _ rfl
      obtain ⟨n0, e0, _, w0⟩ := DataW.trod_int Tryz.underlying3 t0
      obtain ⟨n1, e1, _, w1⟩ := DataW.trod_int Tryz.underlying56 t1
      obtain ⟨n2, e2, _, w2⟩ := DataW.trod_string Tryz.underlying9 t2
      simp only [List.cons.injEq, and_true] at e0 e1 e2
      subst e0 e1 e2
      have hbl := cell_lt c0
      rw [addr_block] at hbl
      rw [← Go.Deep.add_add] at c1 c2
      refine ⟨⟨n0, n1, n2⟩, hbl, c0, c1, c2, wf_i64 w0, ?_, by unfold maxLen at w2; exact w2⟩
      have := wf_u32 w1
      show 0 ≤ n1 ∧ n1 ≤ 4294967295
      omega
    let F : Nat → Ent := fun i => if hh : i < len then (each i hh).choose else ⟨0, 0, ⟨#[]⟩⟩
    have hlen : ((List.range len).map F).length = len := by simp
    refine ⟨(List.range len).map F, some a, cap, by rw [hlen], by rw [hlen]; exact hl, by simpa [maxLen] using hm, fun i c hc => ?_⟩
    have hil : i < len := by have := (List.getElem?_eq_some_iff.1 hc).1; simpa using this
    have hci : F i = c := by simpa [List.getElem?_map, List.getElem?_range hil] using hc
    have hF : F i = (each i hil).choose := by simp only [F, dif_pos hil]
    rw [← hci, hF]
    exact ⟨a, rfl, (each i hil).choose_spec⟩
end
end Go.Proofs.YtmfihaaiddolmaaGreatDoor
