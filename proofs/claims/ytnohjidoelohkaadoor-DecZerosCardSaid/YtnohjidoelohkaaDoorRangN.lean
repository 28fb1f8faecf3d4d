/- The walks of (*rang.Enc).Bits and (*rang.Dec).Bits. -/
import Derived.Test.YtnohjidoelohkaaDoorRangD2
import Derived.Test.YtnohjidoelohkaaDoorSpecRangN
import Derived.StillTailTactics
namespace Go.Proofs.YtnohjidoelohkaaDoor
open Go.RowKit

theorem i64_and_nat (a b : Nat) (ha : a < 9223372036854775808) (hb : b < 9223372036854775808) : bits .and .i64 (a : Int) (b : Int) = ((a &&& b : Nat) : Int) := by
  have h := Nat.and_le_left (n := a) (m := b)
  show IntKind.i64.wrap ((BitVec.ofInt 64 (a : Int) &&& BitVec.ofInt 64 (b : Int)).toNat : Nat) = _
  rw [BitVec.toNat_and, BitVec.toNat_ofInt, BitVec.toNat_ofInt, show ((a : Int) % ((2 ^ 64 : Nat) : Int)).toNat = a from by omega, show ((b : Int) % ((2 ^ 64 : Nat) : Int)).toNat = b from by omega, IntKind.wrap_i64]
  omega
theorem i64_or_nat (a b : Nat) (ha : a < 9223372036854775808) (hb : b < 9223372036854775808) : bits .or .i64 (a : Int) (b : Int) = ((a ||| b : Nat) : Int) := by
  have h : a ||| b < 2 ^ 63 := Nat.or_lt_two_pow (by omega) (by omega)
  show IntKind.i64.wrap ((BitVec.ofInt 64 (a : Int) ||| BitVec.ofInt 64 (b : Int)).toNat : Nat) = _
  rw [BitVec.toNat_or, BitVec.toNat_ofInt, BitVec.toNat_ofInt, show ((a : Int) % ((2 ^ 64 : Nat) : Int)).toNat = a from by omega, show ((b : Int) % ((2 ^ 64 : Nat) : Int)).toNat = b from by omega, IntKind.wrap_i64]
  omega
/-- The lowest m bits. -/
theorem i64_low (x : Int) (m : Nat) (h0 : 0 ≤ x) (h1 : x ≤ 9223372036854775807) (hm : m ≤ 8) : bits .and .i64 x (2 ^ m - 1) = x % 2 ^ m := by
  obtain ⟨p0, p1⟩ := Sp.pow_bd m hm
  have h2 := i64_and_nat x.toNat (2 ^ m - 1) (by omega) (by have : (2 : Nat) ^ m ≤ 2 ^ 8 := Nat.pow_le_pow_right (by omega) hm; omega)
  have e : (((2 : Nat) ^ m - 1 : Nat) : Int) = 2 ^ m - 1 := by
    have : 1 ≤ (2 : Nat) ^ m := Nat.one_le_two_pow
    rw [Int.natCast_sub this]; simp
  rw [e, Int.toNat_of_nonneg h0, Nat.and_two_pow_sub_one_eq_mod] at h2
  rw [h2]
  push_cast
  rw [Int.toNat_of_nonneg h0]
/-- Bits above those that were there. -/
theorem i64_join (x p : Int) (a : Nat) (h0 : 0 ≤ x) (h1 : x < 2 ^ a) (p0 : 0 ≤ p) (p1 : p ≤ 255) (ha : a ≤ 16) : bits .or .i64 x (p * 2 ^ a) = x + p * 2 ^ a := by
  have hA : (2 : Nat) ^ a ≤ 2 ^ 16 := Nat.pow_le_pow_right (by omega) ha
  have h1' : x.toNat < 2 ^ a := by
    have : ((x.toNat : Nat) : Int) < ((2 ^ a : Nat) : Int) := by rw [Int.toNat_of_nonneg h0]; simpa using h1
    omega
  have hb : p.toNat * 2 ^ a ≤ 255 * 65536 := Nat.mul_le_mul (by omega) (by omega)
  have h2 := i64_or_nat x.toNat (p.toNat * 2 ^ a) (by omega) (by omega)
  have e2 : ((p.toNat * 2 ^ a : Nat) : Int) = p * 2 ^ a := by push_cast; rw [Int.toNat_of_nonneg p0]
  rw [e2, Int.toNat_of_nonneg h0] at h2
  rw [h2, Nat.or_comm, Nat.mul_comm, ← Nat.two_pow_add_eq_or_of_lt h1']
  push_cast
  rw [Int.toNat_of_nonneg h0, Int.toNat_of_nonneg p0, Int.mul_comm]
  omega
theorem Sp.pow_bd16 {a : Nat} (h : a ≤ 16) : (1 : Int) ≤ 2 ^ a ∧ (2 : Int) ^ a ≤ 65536 := by
  have h2 : (2 : Int) ^ a ≤ 2 ^ 16 := by exact_mod_cast (Nat.pow_le_pow_right (by omega : 0 < 2) h)
  have h3 : (0 : Int) < 2 ^ a := Int.pow_pos (by omega)
  omega
/-- A callee's frame behind another's, where what the second may turn the first might, or made. -/
theorem Kept.then' {S T : Nat → Prop} {w w1 w2 : World} (h : Kept S w w1) (k : Kept T w1 w2) (hs : ∀ i, T i → S i ∨ w.heap.size ≤ i) : Kept S w w2 :=
  ⟨k.os.trans h.os, k.tape.trans h.tape, k.output.trans h.output, Nat.le_trans h.size k.size, fun i hi hn => (k.block i (Nat.lt_of_lt_of_le hi h.size) (fun t => (hs i t).elim hn (fun g => by omega))).trans (h.block i hi hn)⟩

set_option maxRecDepth 100000 in
set_option maxHeartbeats 500000 in
theorem DBits_any (g : Nat) {b : Int} {d : Sp.Dec} (hd : d.Ok b) (hb : b ≤ 900000000000) (n : Nat) (hn : n ≤ 24) (w : World) (hB : Blk w g (decC d) 66) :
    Calls Tryd.prog 19 #[.pointer (some ⟨g, 0, none⟩), .int .i64 n] w fun e w' => e = .returned (.tuple #[.int .i64 (Sp.Dec.bitF 3 d n 0 0).1, .int .i64 0]) ∧ Blk w' g (decC (Sp.Dec.bitF 3 d n 0 0).2) 66 ∧ Kept (· = g) w w' := by
  obtain ⟨R, hRR⟩ : ∃ R, Sp.Dec.bitF 3 d n 0 0 = R := ⟨_, rfl⟩
  rw [hRR]
  have HR := Lib.hid hRR
  clear hRR
  go_enter Tryd.func19, Tryd.ntmps19
  go_wp2_with fail
  go_loopw [6, 7] (fun xv av wr => ∃ (f a : Nat) (acc : Int) (q : Sp.Dec), xv = .int .i64 acc ∧ av = .int .i64 a ∧ 0 ≤ acc ∧ acc ≤ 16777216 ∧ Hid (acc < 2 ^ a) ∧ f ≤ 3 ∧ Hid (a = 8 * (3 - f)) ∧ n ≤ a + 8 * f ∧ q.Ok (b + 9 - 3 * f) ∧ Hid (Sp.Dec.bitF f q (n - a) a acc = R) ∧ Blk wr g (decC q) 66 ∧ Kept (· = g) w wr) (fun _ av _ => 32 - (intOf av).toNat)
  case atStart => exact ⟨3, 0, 0, d, rfl, rfl, by omega, by omega, Lib.hid (by simp), Nat.le_refl _, Lib.hid (by omega), by omega, by rw [show b + 9 - 3 * ((3 : Nat) : Int) = b from by omega]; exact hd, HR, hB, Kept.refl _ _⟩
  case round =>
    clear hB
    obtain ⟨f, a, acc, q, rfl, rfl, h0, hacc, HA, hf3, ha8, hna, hq, HQ, hB, hK⟩ := hrel
    by_cases hlt : a < n
    · have ha16 : a ≤ 16 := by have := ha8.out; omega
      obtain ⟨f, rfl⟩ : ∃ j, f = j + 1 := ⟨f - 1, by omega⟩
      obtain ⟨r, hr⟩ : ∃ r, n - a = r := ⟨_, rfl⟩
      have hq1 := HQ.out
      rw [hr, Sp.Dec.bitF_next _ _ _ _ _ (by omega : r ≠ 0)] at hq1
      have hri : (n : Int) - (a : Int) = (r : Int) := by omega
      by_cases hle : r ≤ 8
      · rw [show min r 8 = r from by omega] at hq1
        obtain ⟨p0, p1⟩ := Sp.pow_bd r hle
        have hc := Sp.Dec.bit_cell hq r hle
        have hzb := Sp.Dec.place_bd hq p0 (by omega)
        obtain ⟨p, hp⟩ : ∃ p, (2 : Int) ^ r = p := ⟨_, rfl⟩
        rw [hp] at p0 p1 hc hq1 hzb
        have hmn : min (r : Int) 8 = (r : Int) := by omega
        have hA := Sp.pow_bd16 ha16
        have hjoin := fun z (hz0 : 0 ≤ z) (hz1 : z ≤ 255) => i64_join acc z a h0 HA.out hz0 hz1 ha16
        have hacc2 := HA.out
        have hfin1 : (2 : Int) ^ (a + 8) = 2 ^ a * 256 := by rw [Int.pow_add]; rfl
        obtain ⟨A, hAA⟩ : ∃ A, (2 : Int) ^ a = A := ⟨_, rfl⟩
        rw [hAA] at hA hq1 hacc2 hfin1
        simp only [hAA] at hjoin
        obtain ⟨z, hz⟩ : ∃ z, q.place p = z := ⟨_, rfl⟩
        rw [hz] at hc hzb hq1
        have hor := hjoin z hzb.1 (by omega)
        have m0 : 0 ≤ z * A := Int.mul_nonneg hzb.1 (by omega)
        have m1 : z * A ≤ 255 * A := Int.mul_le_mul_of_nonneg_right (by omega) (by omega)
        have hfin : acc + z * A < 2 ^ (a + 8) := by rw [hfin1]; omega
        have m2 : acc + z * A ≤ 16777216 := by omega
        have HFIN := Lib.hid hfin
        clear hfin
        have HZ := Lib.hid hz
        have HQ2 := Lib.hid hq1
        clear hz hq1 hjoin hfin1 HQ
        go_wp2_with fail
        refine (At_any g hq p (by omega) (by omega) _ hB).mono ?_
        rw [HZ.out]
        rintro e1 w1 ⟨rfl, hK1⟩
        have hB1 := hB.keep hK1 (fun h => h)
        have hK1' : Kept (· = g) w w1 := hK.trans (hK1.mono (fun _ h => h.elim))
        clear hB hK hK1
        go_wp2_with fail
        refine (Take_any g hq (by omega) hc _ hB1).mono ?_
        rintro e2 w2 ⟨rfl, hB2, hK2⟩
        have hK3 := hK1'.trans hK2
        have hq3 := Sp.Dec.take_ok hq hc
        rw [show b + 9 - 3 * ((f + 1 : Nat) : Int) + 3 = b + 9 - 3 * (f : Int) from by omega] at hq3
        clear hB1 hK1' hK2 hq
        go_wp2_with fail
        go_roundw
        case rel => exact ⟨f, a + 8, acc + z * A, _, rfl, by go_num, by omega, by omega, HFIN, by omega, Lib.hid (by have := ha8.out; omega), by omega, hq3, Lib.hid (by have h := HQ2.out; rw [show r - r = n - (a + 8) from by omega] at h; exact h), hB2, hK3⟩
        case measure => simp [intOf]; omega
      · rw [show min r 8 = 8 from by omega] at hq1
        have hc := Sp.Dec.bit_cell hq 8 (by omega)
        have hzb := Sp.Dec.place_bd hq (show (1 : Int) ≤ 2 ^ 8 by decide) (by decide)
        simp only [show (2 : Int) ^ 8 = 256 from rfl] at hc hq1 hzb
        have hmn : min (r : Int) 8 = 8 := by omega
        have hA := Sp.pow_bd16 ha16
        have hjoin := fun z (hz0 : 0 ≤ z) (hz1 : z ≤ 255) => i64_join acc z a h0 HA.out hz0 hz1 ha16
        have hacc2 := HA.out
        have hfin1 : (2 : Int) ^ (a + 8) = 2 ^ a * 256 := by rw [Int.pow_add]; rfl
        obtain ⟨A, hAA⟩ : ∃ A, (2 : Int) ^ a = A := ⟨_, rfl⟩
        rw [hAA] at hA hq1 hacc2 hfin1
        simp only [hAA] at hjoin
        obtain ⟨z, hz⟩ : ∃ z, q.place 256 = z := ⟨_, rfl⟩
        rw [hz] at hc hzb hq1
        have hor := hjoin z hzb.1 (by omega)
        have m0 : 0 ≤ z * A := Int.mul_nonneg hzb.1 (by omega)
        have m1 : z * A ≤ 255 * A := Int.mul_le_mul_of_nonneg_right (by omega) (by omega)
        have hfin : acc + z * A < 2 ^ (a + 8) := by rw [hfin1]; omega
        have m2 : acc + z * A ≤ 16777216 := by omega
        have HFIN := Lib.hid hfin
        clear hfin
        have HZ := Lib.hid hz
        have HQ2 := Lib.hid hq1
        clear hz hq1 hjoin hfin1 HQ
        go_wp2_with fail
        refine (At_any g hq 256 (by omega) (by omega) _ hB).mono ?_
        rw [HZ.out]
        rintro e1 w1 ⟨rfl, hK1⟩
        have hB1 := hB.keep hK1 (fun h => h)
        have hK1' : Kept (· = g) w w1 := hK.trans (hK1.mono (fun _ h => h.elim))
        clear hB hK hK1
        go_wp2_with fail
        refine (Take_any g hq (by omega) hc _ hB1).mono ?_
        rintro e2 w2 ⟨rfl, hB2, hK2⟩
        have hK3 := hK1'.trans hK2
        have hq3 := Sp.Dec.take_ok hq hc
        rw [show b + 9 - 3 * ((f + 1 : Nat) : Int) + 3 = b + 9 - 3 * (f : Int) from by omega] at hq3
        clear hB1 hK1' hK2 hq
        go_wp2_with fail
        go_roundw
        case rel => exact ⟨f, a + 8, acc + z * A, _, rfl, by go_num, by omega, by omega, HFIN, by omega, Lib.hid (by have := ha8.out; omega), by omega, hq3, Lib.hid (by have h := HQ2.out; rw [show r - 8 = n - (a + 8) from by omega] at h; exact h), hB2, hK3⟩
        case measure => simp [intOf]; omega
    · go_wp2_with fail
      go_ret2
      have h := HQ.out
      rw [show n - a = 0 from by omega, Sp.Dec.bitF_zero] at h
      subst h
      exact ⟨rfl, hB, hK⟩
end Go.Proofs.YtnohjidoelohkaaDoor
