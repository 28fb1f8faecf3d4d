/- The plain law of how many bits a cell uses. -/
import Derived.Test.YtlhjkichambaoaaDoorSpecRangR
import Derived.Lib.ItoaNum
namespace Go.Proofs.YtlhjkichambaoaaDoor.Sp

theorem bl_lt (x : Nat) (h : x < 2 ^ 64) : x < 2 ^ Lib.bitLen x := by
  by_cases h0 : x = 0
  · subst h0; decide
  · exact (Lib.bitLenAux_bounds 64 x h h0).2.2
theorem bl_le {x k : Nat} (h : x < 2 ^ k) : Lib.bitLen x ≤ k := Lib.bitLenAux_le 64 x k h
theorem bl_mono {x y : Nat} (h : x ≤ y) (hy : y < 2 ^ 64) : Lib.bitLen x ≤ Lib.bitLen y := bl_le (Nat.lt_of_le_of_lt h (bl_lt y hy))
theorem bl_mul (x d : Nat) (h0 : 0 < x) (h : x * 256 ^ d < 2 ^ 64) : Lib.bitLen (x * 256 ^ d) = 8 * d + Lib.bitLen x := by
  have e : (256 : Nat) ^ d = 2 ^ (8 * d) := by rw [Nat.pow_mul]
  rw [e] at h ⊢
  rw [Lib.bitLen_shift (8 * d) (x * 2 ^ (8 * d)) (Nat.le_mul_of_pos_left _ h0) h, Nat.mul_div_cancel _ (Nat.two_pow_pos _)]
theorem put_used {e : Enc} {b : Int} (h : e.Ok b) (hi : e.Inv) {x y t : Int} (hc : cellIs x y t) :
    (e.put x y t).used = 8 * (e.out.length : Int) + 32 - (Lib.bitLen (e.rng / t * y).toNat : Int) := by
  obtain ⟨d, h1, h2, h3, h4⟩ := Enc.put_val h hi hc
  have hok := Enc.put_ok h hc
  obtain ⟨b1, b2, b3⟩ := step_bd h.rng0 h.rng1 hc.1 hc.2.1
  have my := mul_bd b1 hc.2.2.2.1 (by have := hc.2.2.2.2.2; have := hc.2.2.1; omega : y ≤ t) b3
  have hr1 := hok.rng1
  have hp := pow_pos' d
  obtain ⟨z, hz⟩ := Int.eq_ofNat_of_zero_le (show 0 ≤ e.rng / t * y by omega)
  have hrn : (e.put x y t).rng.toNat = z * 256 ^ d := by
    rw [h2, hz, show (256 : Int) ^ d = ((256 ^ d : Nat) : Int) from by simp, ← Int.natCast_mul, Int.toNat_natCast]
  unfold Enc.used
  rw [h4.gone, h3, hrn, bl_mul z d (by omega) (by omega), hz, Int.toNat_natCast]
  omega
/-- What is used gets no less by a cell, and more by no more than its share and a bit. -/
theorem put_grows {e : Enc} {b : Int} (h : e.Ok b) (hi : e.Inv) {x y t : Int} (hc : cellIs x y t) (s : Nat) (hs : t ≤ y * 2 ^ s) :
    e.used ≤ (e.put x y t).used ∧ (e.put x y t).used ≤ e.used + s + 1 := by
  rw [put_used h hi hc]
  obtain ⟨b1, b2, b3⟩ := step_bd h.rng0 h.rng1 hc.1 hc.2.1
  have my := mul_bd b1 hc.2.2.2.1 (by have := hc.2.2.2.2.2; have := hc.2.2.1; omega : y ≤ t) b3
  have hr0 := h.rng0
  have hr1 := h.rng1
  have ht0 := hc.1
  have hu : e.used = 8 * (e.out.length : Int) + 32 - (Lib.bitLen e.rng.toNat : Int) := by unfold Enc.used; rw [hi.gone]; omega
  rw [hu]
  have hlow : (e.rng / t * y).toNat ≤ e.rng.toNat := by omega
  have m1 := bl_mono hlow (by omega)
  have hup : e.rng < (e.rng / t * y) * 2 ^ (s + 1) := by
    have h1 : e.rng < (e.rng / t + 1) * t := by
      have := Int.lt_ediv_add_one_mul_self e.rng (show 0 < t by omega); exact this
    have h2 : (e.rng / t + 1) * t ≤ 2 * (e.rng / t) * t := Int.mul_le_mul_of_nonneg_right (by omega) (by omega)
    have h3 : 2 * (e.rng / t) * t ≤ 2 * (e.rng / t) * (y * 2 ^ s) := Int.mul_le_mul_of_nonneg_left hs (by omega)
    have h4 : 2 * (e.rng / t) * (y * 2 ^ s) = (e.rng / t * y) * 2 ^ (s + 1) := by
      rw [Int.pow_succ, Int.mul_comm (2 ^ s) 2, ← Int.mul_assoc, ← Int.mul_assoc, Int.mul_assoc 2, Int.mul_comm 2]
    omega
  have m2 : Lib.bitLen e.rng.toNat ≤ Lib.bitLen (e.rng / t * y).toNat + (s + 1) := by
    refine bl_le ?_
    have hz := bl_lt (e.rng / t * y).toNat (by omega)
    obtain ⟨z, hz1⟩ := Int.eq_ofNat_of_zero_le (show 0 ≤ e.rng / t * y by omega)
    obtain ⟨r, hr⟩ := Int.eq_ofNat_of_zero_le (show 0 ≤ e.rng by omega)
    rw [hz1, Int.toNat_natCast] at hz ⊢
    rw [hr] at hup hz1 ⊢
    rw [Int.toNat_natCast]
    rw [hz1, show (2 : Int) ^ (s + 1) = ((2 ^ (s + 1) : Nat) : Int) from by simp, ← Int.natCast_mul] at hup
    have h5 : r < z * 2 ^ (s + 1) := by exact_mod_cast hup
    rw [Nat.pow_add]
    exact Nat.lt_of_lt_of_le h5 (Nat.mul_le_mul_right _ (Nat.le_of_lt hz))
  omega
end Go.Proofs.YtlhjkichambaoaaDoor.Sp
