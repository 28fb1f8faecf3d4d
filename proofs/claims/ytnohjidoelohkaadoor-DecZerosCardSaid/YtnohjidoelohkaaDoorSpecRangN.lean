/- The plain law of numbers that are put in bits: they are met again. -/
import Derived.Test.YtnohjidoelohkaaDoorSpecRangB
namespace Go.Proofs.YtnohjidoelohkaaDoor.Sp

/-- The cells of a number's bits, the lowest eight first. -/
def bitF : Nat → Int → Nat → List Cel
  | 0, _, _ => []
  | f + 1, x, n => if n = 0 then [] else (x % 2 ^ (min n 8), 1, 2 ^ (min n 8)) :: bitF f (x / 2 ^ (min n 8)) (n - min n 8)
theorem pow_bd (m : Nat) (h : m ≤ 8) : (1 : Int) ≤ 2 ^ m ∧ (2 : Int) ^ m ≤ 256 := by
  have h2 : (2 : Int) ^ m ≤ 2 ^ 8 := by exact_mod_cast (Nat.pow_le_pow_right (by omega : 0 < 2) h)
  have h3 : (0 : Int) < 2 ^ m := Int.pow_pos (by omega)
  omega
theorem bit_cell (x : Int) (m : Nat) (h : m ≤ 8) : cellIs (x % 2 ^ m) 1 (2 ^ m) := by
  obtain ⟨h1, h2⟩ := pow_bd m h
  have h3 := Int.emod_nonneg x (show (2 : Int) ^ m ≠ 0 by omega)
  have h4 := Int.emod_lt_of_pos x (show (0 : Int) < 2 ^ m by omega)
  unfold cellIs; omega
theorem bitF_cel (f : Nat) : ∀ (x : Int) (n : Nat), ∀ c ∈ bitF f x n, IsCel c := by
  induction f with
  | zero => intro x n c hc; cases hc
  | succ f ih =>
    intro x n c hc
    rw [bitF] at hc
    split at hc
    · cases hc
    · cases hc with
      | head => exact bit_cell x _ (by omega)
      | tail _ h => exact ih _ _ c h
theorem bitF_len (f : Nat) : ∀ (x : Int) (n : Nat), (bitF f x n).length ≤ f := by
  induction f with
  | zero => intro x n; exact Nat.le_refl _
  | succ f ih =>
    intro x n
    rw [bitF]
    split
    · exact Nat.zero_le _
    · have := ih (x / 2 ^ (min n 8)) (n - min n 8)
      simp only [List.length_cons]; omega
theorem bitF_zero (f : Nat) (x : Int) : bitF f x 0 = [] := by cases f <;> simp [bitF]
theorem bitF_next (f : Nat) (x : Int) (n : Nat) (h : n ≠ 0) : bitF (f + 1) x n = (x % 2 ^ (min n 8), 1, 2 ^ (min n 8)) :: bitF f (x / 2 ^ (min n 8)) (n - min n 8) := by rw [bitF, if_neg h]
theorem Enc.puts_cons (e : Enc) (c : Cel) (l : List Cel) : e.puts (c :: l) = (e.put c.1 c.2.1 c.2.2).puts l := rfl
theorem Dec.takes_cons (d : Dec) (c : Cel) (l : List Cel) : d.takes (c :: l) = (d.take c.1 c.2.1 c.2.2).takes l := rfl
theorem Enc.puts_append (e : Enc) (l m : List Cel) : e.puts (l ++ m) = (e.puts l).puts m := by simp [Enc.puts]
theorem Dec.takes_append (d : Dec) (l m : List Cel) : d.takes (l ++ m) = (d.takes l).takes m := by simp [Dec.takes]
/-- A number taken in bits: what is left, where its next bits stand, what was taken. -/
def Dec.bitF : Nat → Dec → Nat → Nat → Int → Int × Dec
  | 0, d, _, _, acc => (acc, d)
  | f + 1, d, n, a, acc => if n = 0 then (acc, d) else Dec.bitF f (d.take (d.place (2 ^ (min n 8))) 1 (2 ^ (min n 8))) (n - min n 8) (a + 8) (acc + d.place (2 ^ (min n 8)) * 2 ^ a)
theorem Dec.bitF_zero (f : Nat) (d : Dec) (a : Nat) (acc : Int) : Dec.bitF f d 0 a acc = (acc, d) := by cases f <;> simp [Dec.bitF]
theorem Dec.bitF_next (f : Nat) (d : Dec) (n a : Nat) (acc : Int) (h : n ≠ 0) : Dec.bitF (f + 1) d n a acc = Dec.bitF f (d.take (d.place (2 ^ (min n 8))) 1 (2 ^ (min n 8))) (n - min n 8) (a + 8) (acc + d.place (2 ^ (min n 8)) * 2 ^ a) := by rw [Dec.bitF, if_neg h]
theorem Dec.place_bd {d : Dec} {b : Int} (h : d.Ok b) {t : Int} (h0 : 1 ≤ t) (h1 : t ≤ 32768) : 0 ≤ d.place t ∧ d.place t < t := by
  obtain ⟨b1, b2, b3⟩ := step_bd h.rng0 h.rng1 h0 h1
  have := Int.ediv_nonneg h.code0 (by omega : 0 ≤ d.rng / t)
  unfold Dec.place; omega
theorem Dec.bit_cell {d : Dec} {b : Int} (h : d.Ok b) (m : Nat) (hm : m ≤ 8) : cellIs (d.place (2 ^ m)) 1 (2 ^ m) := by
  obtain ⟨h1, h2⟩ := pow_bd m hm
  have := Dec.place_bd h h1 (by omega)
  unfold cellIs; omega
theorem div_lt_pow {x : Int} {m n : Nat} (h : x < 2 ^ n) (hm : m ≤ n) : x / 2 ^ m < 2 ^ (n - m) := by
  refine Int.ediv_lt_of_lt_mul (Int.pow_pos (by omega)) ?_
  rw [← Int.pow_add, Nat.sub_add_cancel hm]
  exact h
/-- Whatever is taken in bits has as many. -/
theorem Dec.bitF_ok (f : Nat) : ∀ {d : Dec} {b : Int} (n a : Nat) (acc : Int), d.Ok b → n ≤ 8 * f → 0 ≤ acc → acc < 2 ^ a →
    (Dec.bitF f d n a acc).2.Ok (b + 3 * f) ∧ 0 ≤ (Dec.bitF f d n a acc).1 ∧ (Dec.bitF f d n a acc).1 < 2 ^ (a + n) := by
  induction f with
  | zero =>
    intro d b n a acc hd hn h0 h1
    obtain rfl : n = 0 := by omega
    exact ⟨by simpa [Dec.bitF] using hd, h0, by simpa [Dec.bitF] using h1⟩
  | succ f ih =>
    intro d b n a acc hd hn h0 h1
    by_cases hz : n = 0
    · subst hz
      rw [Dec.bitF_zero]
      refine ⟨⟨hd.pos0, ?_, hd.code0, hd.code1, hd.rng0, hd.rng1, hd.gone0, ?_⟩, h0, by simpa using h1⟩
      · have := hd.pos1; simp only; omega
      · have := hd.gone1; simp only; omega
    · rw [Dec.bitF_next _ _ _ _ _ hz]
      obtain ⟨m, hm⟩ : ∃ m, min n 8 = m := ⟨_, rfl⟩
      rw [hm]
      have hm8 : m ≤ 8 := by omega
      have hc := Dec.bit_cell hd m hm8
      obtain ⟨p1, p2⟩ := pow_bd m hm8
      obtain ⟨q1, q2⟩ := Dec.place_bd hd p1 (by omega)
      have hok := Dec.take_ok hd hc
      obtain ⟨p, hp⟩ : ∃ p, d.place (2 ^ m) = p := ⟨_, rfl⟩
      rw [hp] at q1 q2 hok ⊢
      have ha : (0 : Int) < 2 ^ a := Int.pow_pos (by omega)
      have e0 : 0 ≤ p * 2 ^ a := Int.mul_nonneg q1 (by omega)
      have e1 : p * 2 ^ a ≤ (2 ^ m - 1) * 2 ^ a := Int.mul_le_mul_of_nonneg_right (by omega) (by omega)
      have e2 : ((2 : Int) ^ m - 1) * 2 ^ a = 2 ^ (a + m) - 2 ^ a := by rw [Int.sub_mul, Int.one_mul, Int.pow_add, Int.mul_comm]
      by_cases hl : n - m = 0
      · rw [hl, Dec.bitF_zero]
        obtain rfl : n = m := by omega
        refine ⟨⟨hok.pos0, ?_, hok.code0, hok.code1, hok.rng0, hok.rng1, hok.gone0, ?_⟩, by simp only; omega, by simp only; omega⟩
        · have := hok.pos1; simp only; omega
        · have := hok.gone1; simp only; omega
      · obtain rfl : m = 8 := by omega
        obtain ⟨h2, h3, h4⟩ := ih (n - 8) (a + 8) (acc + p * 2 ^ a) hok (by omega) (by omega) (by omega)
        refine ⟨?_, h3, ?_⟩
        · rw [show b + 3 * ((f + 1 : Nat) : Int) = b + 3 + 3 * (f : Int) from by omega]; exact h2
        · rw [show a + n = a + 8 + (n - 8) from by omega]; exact h4
/-- A number that is put in bits is met again, and both keep step. -/
theorem bits_back {s : ByteArray} (f : Nat) : ∀ {e : Enc} {d : Dec} {b : Int} (x : Int) (n a : Nat) (acc : Int), e.Ok b → e.Inv → Sync s e d → n ≤ 8 * f → 0 ≤ x → x < 2 ^ n → Within s (e.puts (bitF f x n)) →
    Dec.bitF f d n a acc = (acc + x * 2 ^ a, d.takes (bitF f x n)) := by
  induction f with
  | zero =>
    intro e d b x n a acc _ _ _ hn h0 h1 _
    obtain rfl : n = 0 := by omega
    obtain rfl : x = 0 := by simp at h1; omega
    simp [Dec.bitF, bitF, Dec.takes]
  | succ f ih =>
    intro e d b x n a acc hok hi hs hn h0 h1 hw
    by_cases hz : n = 0
    · subst hz
      obtain rfl : x = 0 := by simp at h1; omega
      rw [Dec.bitF_zero, Sp.bitF_zero]
      simp [Dec.takes]
    · rw [Sp.bitF_next _ _ _ hz] at hw ⊢
      rw [Dec.bitF_next _ _ _ _ _ hz]
      obtain ⟨m, hm⟩ : ∃ m, min n 8 = m := ⟨_, rfl⟩
      rw [hm] at hw ⊢
      have hm8 : m ≤ 8 := by omega
      have hc := bit_cell x m hm8
      have hcs : ∀ c ∈ ((x % 2 ^ m, 1, 2 ^ m) :: bitF f (x / 2 ^ m) (n - m) : List Cel), IsCel c := by
        intro c h
        cases h with
        | head => exact hc
        | tail _ h => exact bitF_cel _ _ _ c h
      have hw1 : Within s (e.put (x % 2 ^ m) 1 (2 ^ m)) := within_puts hok hi hcs hw 1 (by simp only [List.length_cons]; omega)
      obtain ⟨t1, t2, t3⟩ := sync_take hok hi hs hc hw1
      have hp : d.place (2 ^ m) = x % 2 ^ m := by omega
      rw [hp, Dec.takes_cons]
      rw [Enc.puts_cons] at hw
      simp only at hw ⊢
      have hq0 : 0 ≤ x / 2 ^ m := Int.ediv_nonneg h0 (by have := pow_bd m hm8; omega)
      have hq1 := div_lt_pow (m := m) h1 (by omega)
      obtain ⟨_, _, _, _, h4⟩ := Enc.put_val hok hi hc
      rw [ih _ _ _ _ (Enc.put_ok hok hc) h4 t3 (by omega) hq0 hq1 hw]
      have hx := Int.mul_ediv_add_emod x (2 ^ m)
      congr 1
      obtain ⟨q, hq⟩ : ∃ q, x / 2 ^ m = q := ⟨_, rfl⟩
      obtain ⟨r, hr⟩ : ∃ r, x % 2 ^ m = r := ⟨_, rfl⟩
      rw [hq] at hx hq0 hq1 ⊢
      rw [hr] at hx ⊢
      by_cases hl : n - m = 0
      · rw [hl] at hq1
        obtain rfl : q = 0 := by simp at hq1; omega
        rw [← hx]; simp
      · obtain rfl : m = 8 := by omega
        rw [Int.pow_add, ← hx, Int.add_mul, Int.mul_comm (2 ^ 8) q, Int.mul_assoc q, Int.mul_comm (2 ^ 8) (2 ^ a)]
        omega
end Go.Proofs.YtnohjidoelohkaaDoor.Sp
