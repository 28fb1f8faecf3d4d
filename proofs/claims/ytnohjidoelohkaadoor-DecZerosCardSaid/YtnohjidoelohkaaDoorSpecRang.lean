/- The plain words of the range coder: what a decoder and an encoder hold, and what each call makes of it. -/
import Derived.Lib.BitFns
namespace Go.Proofs.YtnohjidoelohkaaDoor.Sp

/-- A text's byte; 0 behind its end. -/
def byteAt (s : ByteArray) (i : Int) : Int := if h : i.toNat < s.size then ((s[i.toNat]'h).toNat : Int) else 0
theorem byteAt_bd (s : ByteArray) (i : Int) : 0 ≤ byteAt s i ∧ byteAt s i ≤ 255 := by
  unfold byteAt; split
  · have := (s[i.toNat]).toNat_lt; omega
  · omega
structure Dec where
  s : ByteArray
  pos : Int
  code : Int
  rng : Int
  gone : Int
structure Dec.Ok (d : Dec) (b : Int) : Prop where
  pos0 : 0 ≤ d.pos
  pos1 : d.pos ≤ b
  code0 : 0 ≤ d.code
  code1 : d.code ≤ 4294967295
  rng0 : 16777216 ≤ d.rng
  rng1 : d.rng ≤ 4294967295
  gone0 : 0 ≤ d.gone
  gone1 : d.gone ≤ b
def Dec.step (d : Dec) : Dec := ⟨d.s, d.pos + 1, d.code * 256 % 4294967296 + byteAt d.s d.pos, d.rng * 256, d.gone + 1⟩
/-- As long as the range is below 2^24 a byte is taken. -/
def Dec.norm : Nat → Dec → Dec
  | 0, d => d
  | k + 1, d => if d.rng < 16777216 then d.step.norm k else d
def Dec.raw (d : Dec) (start width total : Int) : Dec :=
  { d with code := (d.code - d.rng / total * start) % 4294967296, rng := d.rng / total * width }
def Dec.take (d : Dec) (start width total : Int) : Dec := (d.raw start width total).norm 3
def Dec.place (d : Dec) (total : Int) : Int := min (d.code / (d.rng / total)) (total - 1)
def Dec.used (d : Dec) : Int := 8 * d.gone + (32 - (Lib.bitLen d.rng.toNat : Int))
def Dec.first (s : ByteArray) : Nat → Dec
  | 0 => ⟨s, 0, 0, 4294967295, 0⟩
  | k + 1 => let d := Dec.first s k; ⟨s, d.pos + 1, d.code * 256 % 4294967296 + byteAt s d.pos, 4294967295, 0⟩
def Dec.new (s : ByteArray) : Dec := Dec.first s 4
/-- Is there a cell? -/
def cellIs (start width total : Int) : Prop := 1 ≤ total ∧ total ≤ 32768 ∧ 0 ≤ start ∧ 1 ≤ width ∧ start < total ∧ width ≤ total - start
instance (start width total : Int) : Decidable (cellIs start width total) := by unfold cellIs; infer_instance

theorem Dec.first_ok (s : ByteArray) (k : Nat) : (Dec.first s k).s = s ∧ (Dec.first s k).pos = k ∧ 0 ≤ (Dec.first s k).code ∧ (Dec.first s k).code ≤ 4294967295 ∧ (Dec.first s k).rng = 4294967295 ∧ (Dec.first s k).gone = 0 := by
  induction k with
  | zero => simp [Dec.first]
  | succ k ih =>
    have := byteAt_bd s (Dec.first s k).pos
    simp only [Dec.first]
    refine ⟨trivial, by omega, by omega, by omega, trivial, trivial⟩
theorem Dec.new_ok (s : ByteArray) : (Dec.new s).Ok 4 := by
  obtain ⟨_, h2, h3, h4, h5, h6⟩ := Dec.first_ok s 4
  exact ⟨by rw [Dec.new, h2]; omega, by rw [Dec.new, h2]; omega, h3, h4, by rw [Dec.new, h5]; omega, by rw [Dec.new, h5]; omega, by rw [Dec.new, h6]; omega, by rw [Dec.new, h6]; omega⟩
/-- A step's share of the range. -/
theorem step_bd {r total : Int} (hr0 : 16777216 ≤ r) (hr1 : r ≤ 4294967295) (ht0 : 1 ≤ total) (ht1 : total ≤ 32768) : 512 ≤ r / total ∧ r / total ≤ 4294967295 ∧ r / total * total ≤ r := by
  refine ⟨?_, ?_, Int.ediv_mul_le r (by omega)⟩
  · exact (Int.le_ediv_iff_mul_le (by omega)).2 (by omega)
  · exact Int.le_trans (Int.ediv_le_self _ (by omega)) hr1
theorem mul_bd {a w t r : Int} (ha : 512 ≤ a) (hw0 : 1 ≤ w) (hw : w ≤ t) (h : a * t ≤ r) : 512 ≤ a * w ∧ a * w ≤ r := by
  have h1 : a * 1 ≤ a * w := Int.mul_le_mul_of_nonneg_left hw0 (by omega)
  have h2 : a * w ≤ a * t := Int.mul_le_mul_of_nonneg_left hw (by omega)
  omega
theorem mul_bd0 {a w t r : Int} (ha : 512 ≤ a) (hw0 : 0 ≤ w) (hw : w ≤ t) (h : a * t ≤ r) : 0 ≤ a * w ∧ a * w ≤ r := by
  have h1 : 0 ≤ a * w := Int.mul_nonneg (by omega) hw0
  have h2 : a * w ≤ a * t := Int.mul_le_mul_of_nonneg_left hw (by omega)
  omega
/-- What a decoder's numbers are between two turns of the loop: k bytes more at most. -/
structure Dec.Mid (d : Dec) (b : Int) (k : Nat) : Prop where
  pos0 : 0 ≤ d.pos
  pos1 : d.pos + k ≤ b
  code0 : 0 ≤ d.code
  code1 : d.code ≤ 4294967295
  rng0 : 1 ≤ d.rng
  rng1 : d.rng ≤ 4294967295
  gone0 : 0 ≤ d.gone
  gone1 : d.gone + k ≤ b
  enough : 16777216 ≤ d.rng * 256 ^ k
theorem Dec.Mid.pos {d : Dec} {b : Int} {k : Nat} (h : d.Mid b k) (hr : d.rng < 16777216) : ∃ j, k = j + 1 := by
  cases k with
  | zero => have := h.enough; simp at this; omega
  | succ j => exact ⟨j, rfl⟩
theorem Dec.step_mid {d : Dec} {b : Int} {k : Nat} (h : d.Mid b (k + 1)) (hr : d.rng < 16777216) : d.step.Mid b k := by
  obtain ⟨a1, a2, a3, a4, a5, a6, a7, a8, a9⟩ := h
  have := byteAt_bd d.s d.pos
  have e : d.rng * 256 * 256 ^ k = d.rng * 256 ^ (k + 1) := by rw [Int.pow_succ, Int.mul_assoc, Int.mul_comm 256]
  exact ⟨by simp only [Dec.step]; omega, by simp only [Dec.step]; omega, by simp only [Dec.step]; omega, by simp only [Dec.step]; omega, by simp only [Dec.step]; omega, by simp only [Dec.step]; omega, by simp only [Dec.step]; omega, by simp only [Dec.step]; omega, by simp only [Dec.step]; rw [e]; exact a9⟩
theorem Dec.raw_mid {d : Dec} {b : Int} (h : d.Ok b) {start width total : Int} (hc : cellIs start width total) : (d.raw start width total).Mid (b + 3) 3 := by
  obtain ⟨a1, a2, a3, a4, a5, a6, a7, a8⟩ := h
  obtain ⟨c1, c2, c3, c4, c5, c6⟩ := hc
  obtain ⟨b1, b2, b3⟩ := step_bd a5 a6 c1 c2
  have m := mul_bd b1 c4 (by omega : width ≤ total) b3
  simp only [Dec.raw]
  exact ⟨a1, by simp only; omega, by simp only; omega, by simp only; omega, by simp only; omega, by simp only; omega, a7, by simp only; omega, by simp only; omega⟩
theorem Dec.norm_done {d : Dec} (h : 16777216 ≤ d.rng) (k : Nat) : d.norm k = d := by
  cases k with
  | zero => rfl
  | succ k => rw [Dec.norm, if_neg (by omega)]
theorem Dec.norm_step {d : Dec} (h : d.rng < 16777216) (k : Nat) : d.norm (k + 1) = d.step.norm k := by rw [Dec.norm, if_pos h]
theorem Dec.norm_ok {b : Int} (k : Nat) : ∀ {d : Dec}, d.Mid b k → (d.norm k).Ok b := by
  induction k with
  | zero => intro d h; exact ⟨h.pos0, by have := h.pos1; simp only [Dec.norm]; omega, h.code0, h.code1, by have := h.enough; simp at this; exact this, h.rng1, h.gone0, by have := h.gone1; simp only [Dec.norm]; omega⟩
  | succ k ih =>
    intro d h
    by_cases hr : d.rng < 16777216
    · rw [Dec.norm_step hr]; exact ih (Dec.step_mid h hr)
    · rw [Dec.norm_done (by omega)]
      exact ⟨h.pos0, by have := h.pos1; omega, h.code0, h.code1, by omega, h.rng1, h.gone0, by have := h.gone1; omega⟩
theorem Dec.take_ok {d : Dec} {b : Int} (h : d.Ok b) {start width total : Int} (hc : cellIs start width total) : (d.take start width total).Ok (b + 3) := Dec.norm_ok 3 (Dec.raw_mid h hc)
theorem Dec.step_s (d : Dec) : d.step.s = d.s := rfl
theorem Dec.norm_s (k : Nat) : ∀ d : Dec, (d.norm k).s = d.s := by
  induction k with
  | zero => intro d; rfl
  | succ k ih => intro d; rw [Dec.norm]; split
                 · rw [ih]; rfl
                 · rfl
end Go.Proofs.YtnohjidoelohkaaDoor.Sp
