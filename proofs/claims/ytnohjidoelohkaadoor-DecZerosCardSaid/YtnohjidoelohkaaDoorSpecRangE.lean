/- The plain words of the range encoder: its bytes (but the last four), low, the range, and how far it has gone. -/
import Derived.Test.YtnohjidoelohkaaDoorSpecRang
namespace Go.Proofs.YtnohjidoelohkaaDoor.Sp

/-- One more at the j-th byte from the front (counted from 1), and, as long as it becomes 0, ahead of it. -/
def carryAt : Nat → List Int → List Int
  | 0, l => l
  | j + 1, l => let b := (l.getD j 0 + 1) % 256; if b = 0 then carryAt j (l.set j b) else l.set j b
def carryL (l : List Int) : List Int := carryAt l.length l
theorem carryAt_length : ∀ (j : Nat) (l : List Int), (carryAt j l).length = l.length
  | 0, l => rfl
  | j + 1, l => by
    simp only [carryAt]; split
    · rw [carryAt_length j]; simp
    · simp
def Bytes (l : List Int) : Prop := ∀ x ∈ l, 0 ≤ x ∧ x ≤ 255
theorem Bytes.get {l : List Int} (h : Bytes l) {j : Nat} (hj : j < l.length) : 0 ≤ l.getD j 0 ∧ l.getD j 0 ≤ 255 := by
  rw [List.getD_eq_getElem?_getD, List.getElem?_eq_getElem hj]; exact h _ (List.getElem_mem hj)
theorem Bytes.set {l : List Int} (h : Bytes l) (j : Nat) {x : Int} (h0 : 0 ≤ x) (h1 : x ≤ 255) : Bytes (l.set j x) := by
  intro y hy
  rcases List.mem_or_eq_of_mem_set hy with hy | rfl
  · exact h y hy
  · exact ⟨h0, h1⟩
theorem carryAt_bytes : ∀ (j : Nat) (l : List Int), Bytes l → Bytes (carryAt j l)
  | 0, l, h => h
  | j + 1, l, h => by
    simp only [carryAt]; split
    · exact carryAt_bytes j _ (h.set j (by omega) (by omega))
    · exact h.set j (by omega) (by omega)
theorem Bytes.append {l m : List Int} (h : Bytes l) (k : Bytes m) : Bytes (l ++ m) := fun x hx => (List.mem_append.1 hx).elim (h x) (k x)

structure Enc where
  size : Int
  low : Int
  rng : Int
  out : List Int
  gone : Int
structure Enc.Ok (e : Enc) (b : Int) : Prop where
  low0 : 0 ≤ e.low
  low1 : e.low ≤ 4294967295
  rng0 : 16777216 ≤ e.rng
  rng1 : e.rng ≤ 4294967295
  bytes : Bytes e.out
  len : (e.out.length : Int) ≤ b
  gone0 : 0 ≤ e.gone
  gone1 : e.gone ≤ b
def Enc.new (size : Int) : Enc := ⟨size, 0, 4294967295, [], 0⟩
theorem Enc.new_ok (size : Int) : (Enc.new size).Ok 0 := ⟨by simp [Enc.new], by simp [Enc.new], by simp [Enc.new], by simp [Enc.new], by intro x hx; simp [Enc.new] at hx, by simp [Enc.new], by simp [Enc.new], by simp [Enc.new]⟩
/-- The carry given away. -/
def Enc.settle (e : Enc) : Enc := if 4294967295 < e.low then { e with low := e.low % 4294967296, out := carryL e.out } else e
def Enc.step (e : Enc) : Enc := ⟨e.size, e.low * 256 % 4294967296, e.rng * 256, e.out ++ [e.low / 16777216 % 256], e.gone + 1⟩
def Enc.norm : Nat → Enc → Enc
  | 0, e => e
  | k + 1, e => if e.rng < 16777216 then e.step.norm k else e
def Enc.raw (e : Enc) (start width total : Int) : Enc :=
  { ({ e with low := e.low + e.rng / total * start } : Enc).settle with rng := e.rng / total * width }
def Enc.put (e : Enc) (start width total : Int) : Enc := (e.raw start width total).norm 3
def Enc.used (e : Enc) : Int := 8 * e.gone + (32 - (Lib.bitLen e.rng.toNat : Int))

structure Enc.Mid (e : Enc) (b : Int) (k : Nat) : Prop where
  low0 : 0 ≤ e.low
  low1 : e.low ≤ 4294967295
  rng0 : 1 ≤ e.rng
  rng1 : e.rng ≤ 4294967295
  bytes : Bytes e.out
  len : (e.out.length : Int) + k ≤ b
  gone0 : 0 ≤ e.gone
  gone1 : e.gone + k ≤ b
  enough : 16777216 ≤ e.rng * 256 ^ k
theorem Enc.Mid.pos {e : Enc} {b : Int} {k : Nat} (h : e.Mid b k) (hr : e.rng < 16777216) : ∃ j, k = j + 1 := by
  cases k with
  | zero => have := h.enough; simp at this; omega
  | succ j => exact ⟨j, rfl⟩
theorem Enc.step_mid {e : Enc} {b : Int} {k : Nat} (h : e.Mid b (k + 1)) (hr : e.rng < 16777216) : e.step.Mid b k := by
  obtain ⟨a1, a2, a3, a4, a5, a6, a7, a8, a9⟩ := h
  have e1 : e.rng * 256 * 256 ^ k = e.rng * 256 ^ (k + 1) := by rw [Int.pow_succ, Int.mul_assoc, Int.mul_comm 256]
  refine ⟨by simp only [Enc.step]; omega, by simp only [Enc.step]; omega, by simp only [Enc.step]; omega, by simp only [Enc.step]; omega, ?_, by simp only [Enc.step, List.length_append, List.length_cons, List.length_nil]; omega, by simp only [Enc.step]; omega, by simp only [Enc.step]; omega, by simp only [Enc.step]; rw [e1]; exact a9⟩
  simp only [Enc.step]
  refine a5.append ?_
  intro x hx
  obtain rfl := List.mem_singleton.1 hx
  omega
theorem Enc.settle_rng (e : Enc) : e.settle.rng = e.rng := by unfold Enc.settle; split <;> rfl
theorem Enc.settle_gone (e : Enc) : e.settle.gone = e.gone := by unfold Enc.settle; split <;> rfl
theorem Enc.settle_size (e : Enc) : e.settle.size = e.size := by unfold Enc.settle; split <;> rfl
theorem Enc.settle_len (e : Enc) : e.settle.out.length = e.out.length := by
  unfold Enc.settle; split
  · exact carryAt_length _ _
  · rfl
theorem Enc.settle_bytes {e : Enc} (h : Bytes e.out) : Bytes e.settle.out := by
  unfold Enc.settle; split
  · exact carryAt_bytes _ _ h
  · exact h
theorem Enc.settle_low {e : Enc} (h : 0 ≤ e.low) : 0 ≤ e.settle.low ∧ e.settle.low ≤ 4294967295 := by
  unfold Enc.settle; split
  · simp only; omega
  · omega
theorem Enc.raw_mid {e : Enc} {b : Int} (h : e.Ok b) {start width total : Int} (hc : cellIs start width total) : (e.raw start width total).Mid (b + 3) 3 := by
  obtain ⟨a1, a2, a3, a4, a5, a6, a7, a8⟩ := h
  obtain ⟨c1, c2, c3, c4, c5, c6⟩ := hc
  obtain ⟨b1, b2, b3⟩ := step_bd a3 a4 c1 c2
  have m := mul_bd b1 c4 (by omega : width ≤ total) b3
  have m0 := mul_bd0 b1 c3 (by omega : start ≤ total) b3
  have hl := Enc.settle_low (e := { e with low := e.low + e.rng / total * start }) (by simp only; omega)
  have hn := Enc.settle_len { e with low := e.low + e.rng / total * start }
  have hg := Enc.settle_gone { e with low := e.low + e.rng / total * start }
  simp only at hn hg
  unfold Enc.raw
  exact ⟨hl.1, hl.2, by simp only; omega, by simp only; omega, Enc.settle_bytes (e := { e with low := e.low + e.rng / total * start }) a5, by simp only [hn]; omega, by simp only [hg]; exact a7, by simp only [hg]; omega, by simp only; omega⟩
theorem Enc.norm_done {e : Enc} (h : 16777216 ≤ e.rng) (k : Nat) : e.norm k = e := by
  cases k with
  | zero => rfl
  | succ k => rw [Enc.norm, if_neg (by omega)]
theorem Enc.norm_step {e : Enc} (h : e.rng < 16777216) (k : Nat) : e.norm (k + 1) = e.step.norm k := by rw [Enc.norm, if_pos h]
theorem Enc.norm_ok {b : Int} (k : Nat) : ∀ {e : Enc}, e.Mid b k → (e.norm k).Ok b := by
  induction k with
  | zero => intro e h; exact ⟨h.low0, h.low1, by have := h.enough; simp at this; exact this, h.rng1, h.bytes, by have := h.len; simp only [Enc.norm]; omega, h.gone0, by have := h.gone1; simp only [Enc.norm]; omega⟩
  | succ k ih =>
    intro e h
    by_cases hr : e.rng < 16777216
    · rw [Enc.norm_step hr]; exact ih (Enc.step_mid h hr)
    · rw [Enc.norm_done (by omega)]
      exact ⟨h.low0, h.low1, by omega, h.rng1, h.bytes, by have := h.len; omega, h.gone0, by have := h.gone1; omega⟩
theorem Enc.put_ok {e : Enc} {b : Int} (h : e.Ok b) {start width total : Int} (hc : cellIs start width total) : (e.put start width total).Ok (b + 3) := Enc.norm_ok 3 (Enc.raw_mid h hc)
end Go.Proofs.YtnohjidoelohkaaDoor.Sp
