/- Plain laws of packets of zero bytes: no level changes, of no levels nothing is heard. -/
import Derived.Test.YtnohjidoelohkaaDoorDecZ
namespace Go.Proofs.YtnohjidoelohkaaDoor

def zeroB (n : Nat) : ByteArray := ⟨(List.replicate n (0 : UInt8)).toArray⟩
theorem zeroB_size (n : Nat) : (zeroB n).size = n := by
  show (List.replicate n (0 : UInt8)).toArray.size = n
  simp
theorem zeroB_at (n : Nat) (i : Int) : Sp.byteAt (zeroB n) i = 0 := by
  unfold Sp.byteAt
  by_cases h : i.toNat < (zeroB n).size
  · rw [dif_pos h]
    show (((List.replicate n (0 : UInt8)).toArray[i.toNat]'(by have := h; rw [zeroB_size] at this; simpa using this)).toNat : Int) = 0
    simp
  · rw [dif_neg h]
/-- A decoder that has met zeros alone. -/
structure ZeroD (d : Sp.Dec) : Prop where
  code : d.code = 0
  bytes : ∀ i, Sp.byteAt d.s i = 0
theorem zero_first (s : ByteArray) (h : ∀ i, Sp.byteAt s i = 0) (k : Nat) : ZeroD (Sp.Dec.first s k) := by
  induction k with
  | zero => exact ⟨rfl, h⟩
  | succ k ih => exact ⟨by simp only [Sp.Dec.first, ih.code, h]; decide, by simpa [Sp.Dec.first] using h⟩
theorem zero_step {d : Sp.Dec} (h : ZeroD d) : ZeroD d.step := ⟨by simp only [Sp.Dec.step, h.code, h.bytes]; decide, h.bytes⟩
theorem zero_norm (k : Nat) : ∀ {d : Sp.Dec}, ZeroD d → ZeroD (d.norm k) := by
  induction k with
  | zero => intro d h; exact h
  | succ k ih =>
    intro d h
    rw [Sp.Dec.norm]
    split
    · exact ih (zero_step h)
    · exact h
theorem find_0 : Sp.findOf 0 = (0, true) := by decide +kernel
theorem zero_take {d : Sp.Dec} (h : ZeroD d) : ltakeV d = 0 ∧ ZeroD (ltakeD d) := by
  have hp : d.place 32768 = 0 := by unfold Sp.Dec.place; rw [h.code, Int.zero_ediv]; decide
  have hv : ltakeV d = 0 := by unfold ltakeV; rw [hp, find_0]
  refine ⟨hv, ?_⟩
  unfold ltakeD
  rw [hv, show Sp.cellOf 0 = (0, 12568, true) by decide +kernel]
  unfold Sp.Dec.take
  refine zero_norm 3 ⟨?_, h.bytes⟩
  simp [Sp.Dec.raw, h.code]
theorem zero_decN (n k : Nat) : ZeroD (decN (zeroB n) k) := by
  induction k with
  | zero => exact zero_first _ (zeroB_at n) 4
  | succ k ih => exact (zero_take ih).2
theorem zero_levs (n : Nat) {ls : List Int} (h : LevelsOk ls) : levsS (zeroB n) ls = ls := by
  have e : ∀ b < 4, levAt (zeroB n) ls b = ls.getD b 0 := fun b hb => by
    have := h.get hb
    unfold levAt
    rw [(zero_take (zero_decN n b)).1]
    omega
  apply List.ext_getElem
  · simp [levsS, h.1]
  · intro i h1 h2
    have hi : i < 4 := by simpa [levsS] using h1
    simp only [levsS, List.getElem_map, List.getElem_range]
    rw [e i hi, List.getD_eq_getElem?_getD, List.getElem?_eq_getElem h2, Option.getD_some]
theorem pbest_none (ks : List Int) (bits : Int) (n : Nat) : pbest [0, 0, 0, 0] ks bits n = (-1, 0) := by
  have h0 : ∀ b : Nat, ([0, 0, 0, 0] : List Int).getD b 0 = 0 := fun b => by
    match b with
    | 0 => rfl
    | 1 => rfl
    | 2 => rfl
    | 3 => rfl
    | n + 4 => simp
  induction n with
  | zero => rfl
  | succ n ih => rw [pbest_next, ih, pstep, if_pos (.inl (h0 n))]
theorem zeros_ok4 : LevelsOk [0, 0, 0, 0] := ⟨rfl, by decide⟩
theorem zero_pul (n : Nat) : pulS (zeroB n) [0, 0, 0, 0] = [0, 0, 0, 0] := by
  unfold pulS
  rw [zero_levs n zeros_ok4]
  unfold pulses
  rw [pbest_none, if_pos (by decide)]
theorem putL_zeros (o m : Nat) (h : o + m ≤ 16) : putL (List.replicate 16 0) o (List.replicate m 0) = List.replicate 16 0 := by
  unfold putL
  simp only [List.take_replicate, List.drop_replicate, List.length_replicate, List.replicate_append_replicate]
  congr 1
  omega
theorem zero_bands (d : Sp.Dec) (b : Nat) (hb : b ≤ 4) : (bandsS d [0, 0, 0, 0] [0, 0, 0, 0] b).2 = List.replicate 16 0 := by
  induction b with
  | zero => rfl
  | succ b ih =>
    show putL _ _ _ = _
    rw [ih (by omega)]
    have hk : (([0, 0, 0, 0] : List Int).getD b 0).toNat = 0 := by
      have : b = 0 ∨ b = 1 ∨ b = 2 ∨ b = 3 := by omega
      rcases this with rfl | rfl | rfl | rfl <;> rfl
    rw [hk, bandV, if_pos rfl]
    exact putL_zeros _ _ (off_fits b (by omega))
theorem zero_wav (n : Nat) : wavS (zeroB n) [0, 0, 0, 0] = List.replicate 16 0 := by
  unfold wavS
  rw [zero_levs n zeros_ok4, zero_pul]
  exact zero_bands _ 4 (Nat.le_refl _)
theorem rep_getD (n k : Nat) : (List.replicate n (0 : Int)).getD k 0 = 0 := by
  rw [List.getD_eq_getElem?_getD, List.getElem?_replicate]
  split <;> rfl
theorem back_zero : backL (List.replicate 16 0) = List.replicate 32 0 := by
  unfold backL
  rw [if_neg (by decide)]
  have e : ∀ n, back1 (List.replicate 16 0) n = 0 := fun n => by
    unfold back1
    rw [sumF_zero (fun k => by rw [rep_getD]; exact Int.zero_mul _)]
    have h1 : Sp.shiftN 15 0 = 0 := by decide
    have h2 : Sp.shiftN 16 0 = 0 := by decide
    rw [h1, Int.zero_mul, h2]
  apply List.ext_getElem
  · simp
  · intro i h1 h2
    simp only [List.getElem_map, List.getElem_range, List.getElem_replicate]
    exact e i
theorem nextO_zero (L : List Int) (hm : memL L = List.replicate 16 0) (hl : lastL L = 0) : nextO L (List.replicate 16 0) = List.replicate 16 0 := by
  unfold nextO
  rw [back_zero, hm, hl]
  decide +kernel
theorem nextN_zero (L : List Int) (hm : memL L = List.replicate 16 0) (hl : lastL L = 0) : nextN L (List.replicate 16 0) = 0 := by
  unfold nextN
  rw [back_zero, hm, hl]
  decide +kernel
/-- A packet of zeros, from the zero state on. -/
theorem zero_dec (n : Nat) (h0 : 10 ≤ n) (h1 : n ≤ 32) : decE (List.replicate 38 0) (zeroB n) = 0 ∧ decO (List.replicate 38 0) (zeroB n) = List.replicate 16 0 ∧ decSt (List.replicate 38 0) (zeroB n) = List.replicate 38 0 := by
  have hr : rightS (List.replicate 38 0) = true := by decide +kernel
  have he : decE (List.replicate 38 0) (zeroB n) = 0 := by unfold decE; rw [if_pos (by rw [zeroB_size]; exact ⟨h0, h1⟩), hr]; rfl
  have hl : levL (List.replicate 38 0) = [0, 0, 0, 0] := by decide
  have hm : memL (List.replicate 38 0) = List.replicate 16 0 := by decide
  have hla : lastL (List.replicate 38 0) = 0 := by decide
  refine ⟨he, ?_, ?_⟩
  · unfold decO
    rw [he, hl, zero_wav, nextO_zero _ hm hla]
    decide +kernel
  · unfold decSt
    rw [he, hl, zero_wav, zero_levs n zeros_ok4, if_pos rfl]
    unfold nextSt
    rw [nextN_zero _ hm hla, back_zero]
    decide +kernel
end Go.Proofs.YtnohjidoelohkaaDoor
