/- The plain law of zero bytes behind a text. -/
import Derived.Test.YtlhjkichambaoaaDoorSpecRangB
namespace Go.Proofs.YtlhjkichambaoaaDoor.Sp

/-- Two decoders of texts that read alike. -/
structure Like (a b : Dec) : Prop where
  txt : ∀ i, byteAt a.s i = byteAt b.s i
  pos : a.pos = b.pos
  code : a.code = b.code
  rng : a.rng = b.rng
  gone : a.gone = b.gone
theorem like_step {a b : Dec} (h : Like a b) : Like a.step b.step := by
  obtain ⟨h1, h2, h3, h4, h5⟩ := h
  exact ⟨h1, by simp only [Dec.step, h2], by simp only [Dec.step, h1, h2, h3], by simp only [Dec.step, h4], by simp only [Dec.step, h5]⟩
theorem like_norm (k : Nat) : ∀ {a b : Dec}, Like a b → Like (a.norm k) (b.norm k) := by
  induction k with
  | zero => intro a b h; exact h
  | succ k ih =>
    intro a b h
    by_cases hr : a.rng < 16777216
    · rw [Dec.norm_step hr, Dec.norm_step (by rw [← h.rng]; exact hr)]
      exact ih (like_step h)
    · rw [Dec.norm_done (by omega), Dec.norm_done (by rw [← h.rng]; omega)]
      exact h
theorem like_take {a b : Dec} (h : Like a b) (x y t : Int) : Like (a.take x y t) (b.take x y t) := by
  unfold Dec.take
  refine like_norm 3 ⟨h.txt, h.pos, ?_, ?_, h.gone⟩
  · simp only [Dec.raw, h.code, h.rng]
  · simp only [Dec.raw, h.rng]
theorem like_first {s t : ByteArray} (h : ∀ i, byteAt s i = byteAt t i) (k : Nat) : Like (Dec.first s k) (Dec.first t k) := by
  induction k with
  | zero => exact ⟨h, rfl, rfl, rfl, rfl⟩
  | succ k ih =>
    refine ⟨h, ?_, ?_, rfl, rfl⟩
    · simp only [Dec.first, ih.pos]
    · simp only [Dec.first, ih.code, ih.pos, h]
theorem like_place {a b : Dec} (h : Like a b) (t : Int) : a.place t = b.place t := by unfold Dec.place; rw [h.code, h.rng]
theorem like_used {a b : Dec} (h : Like a b) : a.used = b.used := by unfold Dec.used; rw [h.gone, h.rng]
theorem byteAt_zeros (s : ByteArray) (n : Nat) (i : Int) : byteAt (s ++ ⟨(List.replicate n 0).toArray⟩) i = byteAt s i := by
  unfold byteAt
  have hsz : (s ++ ⟨(List.replicate n (0 : UInt8)).toArray⟩).size = s.size + n := by
    rw [ByteArray.size_append]
    congr 1
    show (List.replicate n (0 : UInt8)).toArray.size = n
    simp
  by_cases h1 : i.toNat < s.size
  · rw [dif_pos (by omega), dif_pos h1]
    congr 2
    exact ByteArray.getElem_append_left h1
  · rw [dif_neg h1]
    by_cases h2 : i.toNat < s.size + n
    · rw [dif_pos (by omega)]
      have h3 := ByteArray.getElem_append_right (a := s) (b := ⟨(List.replicate n (0 : UInt8)).toArray⟩) (i := i.toNat) (h := by omega) (by omega)
      rw [h3]
      show (((List.replicate n (0 : UInt8)).toArray[i.toNat - s.size]'(by simp; omega)).toNat : Int) = _
      simp
    · rw [dif_neg (by omega)]
end Go.Proofs.YtlhjkichambaoaaDoor.Sp
