/- The plain law of the range coder: a decoder of the bytes keeps step with the encoder. -/
import Derived.Test.YtnohjidoelohkaaDoorSpecRangM
namespace Go.Proofs.YtnohjidoelohkaaDoor.Sp

/-- The decoder keeps step with the encoder. -/
structure Sync (s : ByteArray) (e : Enc) (d : Dec) : Prop where
  txt : d.s = s
  pos : d.pos = e.out.length + 4
  rng : d.rng = e.rng
  gone : d.gone = e.gone
  code : d.code = told s (e.out.length + 4) - e.val
/-- The text's number lies in the encoder's range. -/
def Within (s : ByteArray) (e : Enc) : Prop := e.val ≤ told s (e.out.length + 4) ∧ told s (e.out.length + 4) < e.val + e.rng

theorem sync_step {s : ByteArray} {e : Enc} {d : Dec} (h : Sync s e d) (hw : Within s e) (hr : e.rng < 16777216) (h0 : 0 ≤ e.low) (h1 : e.low ≤ 4294967295) : Sync s e.step d.step := by
  have hv := Enc.step_val h0 h1
  have hl : e.step.out.length = e.out.length + 1 := by simp [Enc.step]
  refine ⟨h.txt, ?_, ?_, ?_, ?_⟩
  · rw [hl]; simp only [Dec.step, h.pos]; omega
  · simp only [Dec.step, Enc.step, h.rng]
  · simp only [Dec.step, Enc.step, h.gone]
  · rw [hl, hv, show e.out.length + 1 + 4 = e.out.length + 4 + 1 from rfl, told]
    simp only [Dec.step, h.code, h.txt, h.pos]
    rw [show ((e.out.length : Int) + 4) = ((e.out.length + 4 : Nat) : Int) from by omega]
    have := hw.1
    have := hw.2
    omega
theorem within_step {s : ByteArray} {e : Enc} (h0 : 0 ≤ e.low) (h1 : e.low ≤ 4294967295) (hw : Within s e.step) : Within s e := by
  have hv := Enc.step_val h0 h1
  have hl : e.step.out.length = e.out.length + 1 := by simp [Enc.step]
  have hr : e.step.rng = e.rng * 256 := rfl
  obtain ⟨h2, h3⟩ := hw
  rw [hl, hv, show e.out.length + 1 + 4 = e.out.length + 4 + 1 from rfl, told] at h2 h3
  rw [hr] at h3
  have := byteAt_bd s ((e.out.length + 4 : Nat) : Int)
  exact ⟨by omega, by omega⟩
theorem within_norm (k : Nat) : ∀ {s : ByteArray} {e : Enc} {b : Int}, e.Mid b k → Within s (e.norm k) → Within s e := by
  induction k with
  | zero => intro s e b _ hw; exact hw
  | succ k ih =>
    intro s e b hm hw
    by_cases hr : e.rng < 16777216
    · rw [Enc.norm_step hr] at hw
      exact within_step hm.low0 hm.low1 (ih (Enc.step_mid hm hr) hw)
    · rw [Enc.norm_done (by omega)] at hw
      exact hw
theorem sync_norm (k : Nat) : ∀ {s : ByteArray} {e : Enc} {d : Dec} {b : Int}, e.Mid b k → Sync s e d → Within s (e.norm k) → Within s e ∧ Sync s (e.norm k) (d.norm k) := by
  induction k with
  | zero => intro s e d b _ h hw; exact ⟨hw, h⟩
  | succ k ih =>
    intro s e d b hm h hw
    by_cases hr : e.rng < 16777216
    · rw [Enc.norm_step hr] at hw ⊢
      rw [Dec.norm_step (by rw [h.rng]; exact hr)]
      have hws : Within s e.step := by
        exact within_norm k (Enc.step_mid hm hr) hw
      have hwe := within_step hm.low0 hm.low1 hws
      exact ⟨hwe, (ih (Enc.step_mid hm hr) (sync_step h hwe hr hm.low0 hm.low1) hw).2⟩
    · rw [Enc.norm_done (by omega)] at hw ⊢
      rw [Dec.norm_done (by rw [h.rng]; omega)]
      exact ⟨hw, h⟩

/-- A cell that was put is met: the place lies in it; and both are in step behind it. -/
theorem sync_take {s : ByteArray} {e : Enc} {d : Dec} {b : Int} (hok : e.Ok b) (hi : e.Inv) (h : Sync s e d) {x y t : Int} (hc : cellIs x y t) (hw : Within s (e.put x y t)) :
    x ≤ d.place t ∧ d.place t < x + y ∧ Sync s (e.put x y t) (d.take x y t) := by
  obtain ⟨r1, r2, r3, r4, r5⟩ := Enc.raw_val hok hi hc
  have hm := Enc.raw_mid hok hc
  have hwr : Within s (e.raw x y t) := within_norm 3 hm hw
  obtain ⟨a1, a2, a3, a4, a5, a6, a7, a8⟩ := hok
  have hc' := hc
  obtain ⟨c1, c2, c3, c4, c5, c6⟩ := hc
  obtain ⟨b1, b2, b3⟩ := step_bd a3 a4 c1 c2
  have hwr' := hwr
  obtain ⟨w1, w2⟩ := hwr
  rw [r1, r3] at w1 w2
  rw [r2] at w2
  have hcode := h.code
  have hx : e.rng / t * (x + y) = e.rng / t * x + e.rng / t * y := Int.mul_add _ _ _
  have m0 := mul_bd0 b1 c3 (by omega : x ≤ t) b3
  have hlo : x ≤ d.code / (d.rng / t) := by
    rw [h.rng]
    refine (Int.le_ediv_iff_mul_le (by omega)).2 ?_
    rw [Int.mul_comm]; omega
  have hhi : d.code / (d.rng / t) < x + y := by
    rw [h.rng]
    refine (Int.ediv_lt_iff_lt_mul (by omega)).2 ?_
    rw [Int.mul_comm]; omega
  refine ⟨?_, ?_, ?_⟩
  · unfold Dec.place; omega
  · unfold Dec.place; omega
  · have hs : Sync s (e.raw x y t) (d.raw x y t) := by
      refine ⟨h.txt, ?_, ?_, ?_, ?_⟩
      · rw [r3]; exact h.pos
      · rw [r2]; simp only [Dec.raw, h.rng]
      · rw [r4]; exact h.gone
      · rw [r1, r3]; simp only [Dec.raw, h.rng]; omega
    exact (sync_norm 3 hm hs hw).2
theorem within_put {s : ByteArray} {e : Enc} {b : Int} (hok : e.Ok b) (hi : e.Inv) {x y t : Int} (hc : cellIs x y t) (hw : Within s (e.put x y t)) : Within s e := by
  obtain ⟨r1, r2, r3, r4, r5⟩ := Enc.raw_val hok hi hc
  obtain ⟨w1, w2⟩ := within_norm 3 (Enc.raw_mid hok hc) hw
  rw [r1, r3] at w1 w2
  rw [r2] at w2
  obtain ⟨b1, b2, b3⟩ := step_bd hok.rng0 hok.rng1 hc.1 hc.2.1
  have m0 := mul_bd0 b1 hc.2.2.1 (by have := hc.2.2.2.2.1; omega : x ≤ t) b3
  have hx : e.rng / t * (x + y) = e.rng / t * x + e.rng / t * y := Int.mul_add _ _ _
  exact ⟨by omega, by omega⟩
theorem first_told (s : ByteArray) (k : Nat) (hk : k ≤ 4) : (Dec.first s k).code = told s k := by
  induction k with
  | zero => rfl
  | succ k ih =>
    have h1 := ih (by omega)
    have h2 := (Dec.first_ok s k).2.1
    have h3 := told_bd s k
    have h4 : (256 : Int) ^ k ≤ 16777216 := by
      rcases (by omega : k = 0 ∨ k = 1 ∨ k = 2 ∨ k = 3) with rfl | rfl | rfl | rfl <;> simp
    simp only [Dec.first, told, h1, h2]
    omega
theorem new_sync (s : ByteArray) (n : Int) : Sync s (Enc.new n) (Dec.new s) := by
  obtain ⟨h1, h2, h3, h4, h5, h6⟩ := Dec.first_ok s 4
  refine ⟨h1, h2, h5, h6, ?_⟩
  rw [Dec.new, first_told s 4 (by omega)]
  simp [Enc.new, Enc.val, num]

/-! The bytes at the end. -/
def Enc.all (e : Enc) : List Int := e.out ++ [e.low / 16777216 % 256, e.low / 65536 % 256, e.low / 256 % 256, e.low % 256]
theorem Enc.all_length (e : Enc) : e.all.length = e.out.length + 4 := by simp [Enc.all]
theorem Enc.all_num {e : Enc} (h0 : 0 ≤ e.low) (h1 : e.low ≤ 4294967295) : num e.all = e.val := by
  rw [Enc.all, num_append, Enc.val]
  simp only [num, List.foldl_cons, List.foldl_nil, List.length_cons, List.length_nil]
  omega
theorem Enc.all_bytes {e : Enc} (hb : Bytes e.out) : Bytes e.all := by
  refine hb.append ?_
  intro x hx
  simp only [List.mem_cons, List.not_mem_nil, or_false] at hx
  rcases hx with rfl | rfl | rfl | rfl <;> omega
/-- A text whose bytes, with zero bytes behind its end, begin with a list. -/
def Begins (s : ByteArray) (l : List Int) : Prop := ∀ i : Nat, i < l.length → byteAt s i = l.getD i 0
theorem begins_told {s : ByteArray} (l : List Int) : Begins s l → told s l.length = num l := by
  refine snoc_ind (P := fun l => Begins s l → told s l.length = num l) (fun _ => rfl) (fun l x ih h => ?_) l
  have h1 : Begins s l := fun i hi => by
    have := h i (by simp; omega)
    rw [this, List.getD_eq_getElem?_getD, List.getElem?_append_left hi, ← List.getD_eq_getElem?_getD]
  have h2 := h l.length (by simp)
  rw [List.getD_eq_getElem?_getD, List.getElem?_append_right (by omega)] at h2
  simp at h2
  rw [num_snoc, List.length_append, List.length_singleton, told, ih h1, h2]
theorem within_done {s : ByteArray} {e : Enc} {b : Int} (hok : e.Ok b) (hb : Begins s e.all) : Within s e := by
  have h1 := begins_told _ hb
  rw [Enc.all_length, Enc.all_num hok.low0 hok.low1] at h1
  have := hok.rng0
  exact ⟨by omega, by omega⟩
end Go.Proofs.YtnohjidoelohkaaDoor.Sp
