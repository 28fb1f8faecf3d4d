/- The walks of the document's small functions (spoolref01, spoolref03): lengths, powers, cuts, shifts, cosines. The walks of the document's cosines (spoolref03). The walks of the document's bands (spoolref06): sizes, bounds. The walk of the document's Fill (spoolref06). The walks of the document's range decoder (spoolref07): a byte, a new one, a place. -/
import Derived.Test.YtmfihaaiddolmaaGreatDoorLot1
import Derived.Test.YtmfihaaiddolmaaGreatDoorLot4
set_option linter.unusedSimpArgs false
set_option linter.unusedVariables false
namespace Go.Proofs.YtmfihaaiddolmaaGreatDoor
open Go.RowKit

theorem RLength_any (x : Int) (h0 : 0 ≤ x) (h1 : x ≤ 4294967295) (w : World) :
    Calls Tryz.prog 48 #[.int .i64 x] w fun e w' => e = .returned (.int .i64 (Lib.bitLen x.toNat : Int)) ∧ w = w' := by
  have hN := Lib.bitLen_le x.toNat 32 (by omega) (by omega)
  obtain ⟨N, hNN⟩ : ∃ N, Lib.bitLen x.toNat = N := ⟨_, rfl⟩
  rw [hNN] at hN ⊢
  have HN := Lib.hid hNN
  clear hNN
  go_enter Tryz.func48, Tryz.ntmps48
  go_wp2
  go_loop [0, 3] (fun a n => ∃ (y k : Nat), a = .int .i64 y ∧ n = .int .i64 k ∧ y ≤ 4294967295 ∧ k ≤ N ∧ Hid (k + Lib.bitLen y = N)) (fun a _ => (intOf a).toNat)
  case atStart => exact ⟨x.toNat, 0, by rw [Int.toNat_of_nonneg h0], rfl, by omega, Nat.zero_le _, Lib.hid (by rw [Nat.zero_add]; exact HN.out)⟩
  case round =>
    obtain ⟨y, k, rfl, rfl, hy, hk, hs⟩ := hrel
    by_cases hz : y = 0
    · subst hz
      go_wp2
      go_ret
      have := hs.out
      simp only [show Lib.bitLen 0 = 0 from by decide, Nat.add_zero] at this
      subst this
      exact ⟨rfl, rfl⟩
    · have hstep := Lib.hid (Lib.bitLen_half y hz (by omega))
      go_wp2
      go_round
      case rel => exact ⟨y / 2, k + 1, by go_num, by go_num, by omega, by have := hs.out; have := hstep.out; omega, Lib.hid (by have := hs.out; have := hstep.out; omega)⟩
      case measure => simp [intOf]; omega
theorem pow_bd40 : ∀ k, k ≤ 40 → (1 : Int) ≤ 2 ^ k ∧ (2 : Int) ^ k ≤ 1099511627776 := by
  intro k hk
  have h2 : (2 : Int) ^ k ≤ 2 ^ 40 := by exact_mod_cast (Nat.pow_le_pow_right (by omega : 0 < 2) hk)
  have h3 : (0 : Int) < 2 ^ k := Int.pow_pos (by omega)
  omega
theorem RPow_any (n : Nat) (h1 : n ≤ 40) (w : World) :
    Calls Tryz.prog 52 #[.int .i64 n] w fun e w' => e = .returned (.int .i64 (2 ^ n : Int)) ∧ w = w' := by
  have HP := Lib.hid pow_bd40
  go_enter Tryz.func52, Tryz.ntmps52
  go_wp2
  go_loop [3, 4] (fun p i => ∃ (k : Nat) (q : Int), k ≤ n ∧ i = .int .i64 k ∧ p = .int .i64 q ∧ Hid (q = 2 ^ k)) (fun _ i => n - (intOf i).toNat)
  case atStart => exact ⟨0, 1, Nat.zero_le _, rfl, rfl, Lib.hid rfl⟩
  case round =>
    obtain ⟨k, q, hk, rfl, rfl, hq⟩ := hrel
    have hb := HP.out k (by omega)
    rw [← hq.out] at hb
    by_cases hlt : k < n
    · go_wp2
      go_round
      case rel => exact ⟨k + 1, 2 * q, by omega, by go_num, rfl, Lib.hid (by rw [hq.out, Int.pow_succ]; omega)⟩
      case measure => simp [intOf]; omega
    · obtain rfl : k = n := by omega
      go_wp2
      go_ret
      exact ⟨retInt hq.out, rfl⟩
theorem down_eq (x m : Int) (hm : 0 < m) : (x.tmod m < 0 → x.tdiv m - 1 = x / m) ∧ (¬ x.tmod m < 0 → x.tdiv m = x / m) := by
  have h1 := Int.mul_tdiv_add_tmod x m
  have h2 := Int.tmod_lt_of_pos x hm
  have h3 := Int.lt_tmod_of_pos x hm
  obtain ⟨q, hq⟩ : ∃ q, x.tdiv m = q := ⟨_, rfl⟩
  obtain ⟨r, hr⟩ : ∃ r, x.tmod m = r := ⟨_, rfl⟩
  rw [hq, hr] at h1
  rw [hr] at h2 h3
  rw [hq, hr]
  refine ⟨fun h => ?_, fun h => ?_⟩
  · exact (((Int.ediv_emod_unique hm (a := x) (r := r + m) (q := q - 1)).2 ⟨by rw [Int.mul_sub]; omega, by omega, by omega⟩).1).symm
  · exact (((Int.ediv_emod_unique hm (a := x) (r := r) (q := q)).2 ⟨by omega, by omega, by omega⟩).1).symm
theorem tdiv_bd (x m A : Int) (hm : 0 < m) (h0 : -A ≤ x) (h1 : x ≤ A) : -A ≤ x.tdiv m ∧ x.tdiv m ≤ A := by
  have e := Int.natAbs_tdiv_le_natAbs x m
  omega
set_option maxHeartbeats 400000 in
theorem RDown_any (x m : Int) (hm : 0 < m) (h0 : -4611686018427387904 ≤ x) (h1 : x ≤ 4611686018427387904) (hm1 : m ≤ 4611686018427387904) (w : World) :
    Calls Tryz.prog 140 #[.int .i64 x, .int .i64 m] w fun e w' => e = .returned (.int .i64 (x / m)) ∧ w = w' := by
  obtain ⟨d1, d2⟩ := down_eq x m hm
  have hq := tdiv_bd x m 4611686018427387904 hm h0 h1
  have h2 := Int.tmod_lt_of_pos x hm
  have h3 := Int.lt_tmod_of_pos x hm
  obtain ⟨q, hqe⟩ : ∃ q, x.tdiv m = q := ⟨_, rfl⟩
  obtain ⟨r, hre⟩ : ∃ r, x.tmod m = r := ⟨_, rfl⟩
  rw [hqe] at hq d1 d2
  rw [hre] at d1 d2 h2 h3
  have hm0 : ¬ m = 0 := by omega
  by_cases hr : r < 0
  · have hd := d1 hr
    rw [← hd]
    clear d1 d2 hd
    go_enter Tryz.func140, Tryz.ntmps140
    go_wp2
    go_ret
    exact ⟨rfl, rfl⟩
  · have hd := d2 hr
    rw [← hd]
    clear d1 d2 hd
    go_enter Tryz.func140, Tryz.ntmps140
    go_wp2
    go_ret
    exact ⟨rfl, rfl⟩
theorem RCut_any (n : Nat) (hn0 : 1 ≤ n) (hn : n ≤ 40) (x : Int) (w : World) : Calls Tryz.prog 97 #[.int .i64 x, .int .i64 n] w fun e w' => e = .returned (.int .i64 (Sp.cut n x)) ∧ w = w' := by
  have hp := fun w => RPow_any (n - 1) (by omega) w
  have hb := pow_bd40 (n - 1) (by omega)
  have e : Sp.cut n x = max (min x (2 ^ (n - 1) - 1)) (-(2 ^ (n - 1))) := rfl
  have hc : ((n - 1 : Nat) : Int) = (n : Int) - 1 := by omega
  simp only [hc] at hp
  rw [e]
  obtain ⟨p, hpe⟩ : ∃ p : Int, 2 ^ (n - 1) = p := ⟨_, rfl⟩
  simp only [hpe] at hp hb ⊢
  by_cases h1 : x < -p
  · have e2 : max (min x (p - 1)) (-p) = -p := by omega
    rw [e2]
    go_enter Tryz.func97, Tryz.ntmps97
    go_wp2_with fail
    refine (hp _).mono ?_
    rintro e w1 ⟨rfl, rfl⟩
    go_wp2_with fail
    go_ret
    exact ⟨rfl, rfl⟩
  by_cases h2 : p - 1 < x
  · have e2 : max (min x (p - 1)) (-p) = p - 1 := by omega
    rw [e2]
    go_enter Tryz.func97, Tryz.ntmps97
    go_wp2_with fail
    refine (hp _).mono ?_
    rintro e w1 ⟨rfl, rfl⟩
    go_wp2_with fail
    go_ret
    exact ⟨rfl, rfl⟩
  have e2 : max (min x (p - 1)) (-p) = x := by omega
  rw [e2]
  go_enter Tryz.func97, Tryz.ntmps97
  go_wp2_with fail
  refine (hp _).mono ?_
  rintro e w1 ⟨rfl, rfl⟩
  go_wp2_with fail
  go_ret
  exact ⟨rfl, rfl⟩
theorem RShift_any (n : Nat) (hn0 : 1 ≤ n) (hn : n ≤ 40) (x : Int) (h0 : -1099511627776 ≤ x) (h1 : x ≤ 1099511627776) (w : World) : Calls Tryz.prog 125 #[.int .i64 x, .int .i64 n] w fun e w' => e = .returned (.int .i64 (Sp.shiftN n x)) ∧ w = w' := by
  have e : Sp.shiftN n x = (x + 2 ^ (n - 1)) / 2 ^ n := by unfold Sp.shiftN; rw [if_neg (by omega)]
  rw [e]
  have hp1 := fun w => RPow_any (n - 1) (by omega) w
  have hp2 := fun w => RPow_any n (by omega) w
  have hb1 := pow_bd40 (n - 1) (by omega)
  have hb2 := pow_bd40 n (by omega)
  have hc : ((n - 1 : Nat) : Int) = (n : Int) - 1 := by omega
  simp only [hc] at hp1
  obtain ⟨p, hpe⟩ : ∃ p : Int, 2 ^ (n - 1) = p := ⟨_, rfl⟩
  obtain ⟨m, hme⟩ : ∃ m : Int, 2 ^ n = m := ⟨_, rfl⟩
  simp only [hpe] at hp1 hb1 ⊢
  simp only [hme] at hp2 hb2 ⊢
  clear e hpe hme hc
  go_enter Tryz.func125, Tryz.ntmps125
  go_wp2_with fail
  refine (hp1 _).mono ?_
  rintro e w1 ⟨rfl, rfl⟩
  go_wp2_with fail
  refine (hp2 _).mono ?_
  rintro e w1 ⟨rfl, rfl⟩
  go_wp2_with fail
  refine (RDown_any (x + p) m (by omega) (by omega) (by omega) (by omega) _).mono ?_
  rintro e w1 ⟨rfl, rfl⟩
  go_wp2_with fail
  go_ret
  exact ⟨rfl, rfl⟩
end Go.Proofs.YtmfihaaiddolmaaGreatDoor

namespace Go.Proofs.YtmfihaaiddolmaaGreatDoor
open Go.RowKit

theorem near_any (x : Int) (h0 : -1099511627776 ≤ x) (h1 : x ≤ 1099511627776) (w : World) : Calls Tryz.prog 148 #[.int .i64 x] w fun e w' => e = .returned (.int .i64 (Sp.shiftN 15 x)) ∧ w = w' := by
  have e : Sp.shiftN 15 x = (x + 16384) / 32768 := by unfold Sp.shiftN; rw [if_neg (by omega)]; rfl
  rw [e]
  go_enter Tryz.func148, Tryz.ntmps148
  go_wp2_with fail
  refine (RDown_any (x + 16384) 32768 (by omega) (by omega) (by omega) (by omega) _).mono ?_
  rintro e w1 ⟨rfl, rfl⟩
  go_wp2_with fail
  go_ret
  exact ⟨rfl, rfl⟩
set_option maxHeartbeats 1600000 in
theorem Both_any (u : Int) (h0 : 0 ≤ u) (h1 : u ≤ 16) (w : World) : Calls Tryz.prog 144 #[.int .i64 u] w fun e w' => e = .returned (.tuple #[.int .i64 (Sp.shiftN 15 (Sp.cosS u)), .int .i64 (Sp.shiftN 15 (Sp.sinS u))]) ∧ w = w' := by
  have hd := fun w => RDown_any (u * 105414357) 2 (by omega) (by omega) (by omega) (by omega) w
  obtain ⟨x, hx⟩ : ∃ x, u * 105414357 / 2 = x := ⟨_, rfl⟩
  have hx0 : 0 ≤ x := by omega
  have hx1 : x ≤ 1073741824 := by omega
  obtain ⟨m0, m1, y0, y1⟩ := byS_bd hx0 hx1 hx0 hx1
  obtain ⟨y, hy⟩ : ∃ y, Sp.byS x x = y := ⟨_, rfl⟩
  rw [hy] at y0 y1
  obtain ⟨n0, n1, q0, q1⟩ := byS_bd y0 y1 y0 y1
  obtain ⟨q, hq⟩ : ∃ q, Sp.byS y y = q := ⟨_, rfl⟩
  rw [hq] at q0 q1
  obtain ⟨p0, p1, z0, z1⟩ := byS_bd q0 q1 y0 y1
  obtain ⟨z, hz⟩ : ∃ z, Sp.byS q y = z := ⟨_, rfl⟩
  rw [hz] at z0 z1
  obtain ⟨a0, a1, _, _⟩ := byS_bd q0 q1 q0 q1
  obtain ⟨r0, r1, _, _⟩ := byS_bd hx0 hx1 y0 y1
  obtain ⟨s0, s1, _, _⟩ := byS_bd hx0 hx1 q0 q1
  obtain ⟨t0, t1, _, _⟩ := byS_bd hx0 hx1 z0 z1
  have ec : Sp.cosS u = 1073741824 - y / 2 + (y * y) / 25769803776 - (q * y) / 773094113280 + (q * q) / 43293270343680 := by
    unfold Sp.cosS; simp only [hx, hy, hq]
  have es : Sp.sinS u = x - (x * y) / 6442450944 + (x * q) / 128849018880 - (x * z) / 5411658792960 := by
    unfold Sp.sinS; simp only [hx, hy, hq, hz]
  have hy2 : x * x / 1073741824 = y := hy
  have hq2 : y * y / 1073741824 = q := hq
  have hz2 : q * y / 1073741824 = z := hz
  simp only [hx] at hd
  obtain ⟨C, hC⟩ : ∃ C, Sp.cosS u = C := ⟨_, rfl⟩
  obtain ⟨S, hS⟩ : ∃ S, Sp.sinS u = S := ⟨_, rfl⟩
  rw [hC] at ec ⊢
  rw [hS] at es ⊢
  have c0 : -1099511627776 ≤ C ∧ C ≤ 1099511627776 := by omega
  have s0' : -1099511627776 ≤ S ∧ S ≤ 1099511627776 := by omega
  have hn1 := fun w => near_any C c0.1 c0.2 w
  have hn2 := fun w => near_any S s0'.1 s0'.2 w
  have ec2 := ec.symm
  have es2 := es.symm
  clear hC hS hx hy hq hz ec es
  go_enter Tryz.func144, Tryz.ntmps144
  go_wp2_with fail
  refine (hd _).mono ?_
  rintro e w1 ⟨rfl, rfl⟩
  go_wp2_with fail
  refine (hn1 _).mono ?_
  rintro e w1 ⟨rfl, rfl⟩
  go_wp2_with fail
  refine (hn2 _).mono ?_
  rintro e w1 ⟨rfl, rfl⟩
  go_wp2_with fail
  go_ret2
  exact ⟨rfl, rfl⟩
theorem sgn_mul (x : Int) : (-1 : Int) * x = -x := by omega
set_option maxHeartbeats 1600000 in
theorem RCos_any (u : Int) (w : World) : Calls Tryz.prog 139 #[.int .i64 u] w fun e w' => e = .returned (.int .i64 (Sp.cosV u)) ∧ w = w' := by
  obtain ⟨hr0, hr1, -⟩ := tm_bd u
  have hm : (u.tmod 128 < 0 → u.tmod 128 + 128 = u % 128) ∧ (¬ u.tmod 128 < 0 → u.tmod 128 = u % 128) := by
    obtain ⟨_, _, h3⟩ := tm_bd u
    have h4 := Int.tmod_lt_of_pos u (by omega : (0 : Int) < 128)
    have h5 := Int.lt_tmod_of_pos u (by omega : (0 : Int) < 128)
    constructor <;> intro h <;> omega
  have h0 : 0 ≤ u % 128 := by omega
  have h128 : u % 128 < 128 := by omega
  have hV : Sp.cosV u = if 64 < u % 128 then Sp.cos1 (128 - u % 128) else Sp.cos1 (u % 128) := rfl
  obtain ⟨a, ha⟩ : ∃ a, u % 128 = a := ⟨_, rfl⟩
  rw [ha] at hm h0 h128 hV
  rw [hV]
  obtain ⟨v, hv⟩ : ∃ v, u.tmod 128 = v := ⟨_, rfl⟩
  rw [hv] at hr0 hr1 hm
  clear ha hV
  obtain ⟨b, hb, hb0, hb1, hbe⟩ : ∃ b, (if 64 < a then Sp.cos1 (128 - a) else Sp.cos1 a) = Sp.cos1 b ∧ 0 ≤ b ∧ b ≤ 64 ∧ ((64 < a ∧ b = 128 - a) ∨ (¬ 64 < a ∧ b = a)) := by
    by_cases h : 64 < a
    · exact ⟨128 - a, by rw [if_pos h], by omega, by omega, .inl ⟨h, rfl⟩⟩
    · exact ⟨a, by rw [if_neg h], by omega, by omega, .inr ⟨h, rfl⟩⟩
  rw [hb]
  clear hb
  have hlow : 16 < b → ¬ 32 < b → Sp.cos1 b = Sp.shiftN 15 (Sp.sinS (32 - b)) := fun h1 h2 => by unfold Sp.cos1 Sp.cos2; rw [if_neg h2, if_pos h1]
  have hlow2 : ¬ 16 < b → Sp.cos1 b = Sp.shiftN 15 (Sp.cosS b) := fun h1 => by unfold Sp.cos1 Sp.cos2; rw [if_neg (by omega), if_neg h1]
  have hhi : 32 < b → 16 < 64 - b → Sp.cos1 b = -Sp.shiftN 15 (Sp.sinS (32 - (64 - b))) := fun h1 h2 => by unfold Sp.cos1 Sp.cos2; rw [if_pos h1, if_pos h2]
  have hhi2 : 32 < b → ¬ 16 < 64 - b → Sp.cos1 b = -Sp.shiftN 15 (Sp.cosS (64 - b)) := fun h1 h2 => by unfold Sp.cos1 Sp.cos2; rw [if_pos h1, if_neg h2]
  have HL := Lib.hid hlow
  have HL2 := Lib.hid hlow2
  have HH := Lib.hid hhi
  have HH2 := Lib.hid hhi2
  clear hlow hlow2 hhi hhi2
  by_cases h32 : 32 < b
  · by_cases h16 : 16 < 64 - b
    · rw [HH.out h32 h16]
      have hbo := fun w => Both_any (32 - (64 - b)) (by omega) (by omega) w
      have hs1 := shift_bd (Sp.sinS (32 - (64 - b)))
      obtain ⟨S, hS⟩ : ∃ S, Sp.shiftN 15 (Sp.sinS (32 - (64 - b))) = S := ⟨_, rfl⟩
      obtain ⟨C, hC⟩ : ∃ C, Sp.shiftN 15 (Sp.cosS (32 - (64 - b))) = C := ⟨_, rfl⟩
      rw [hS] at hs1 ⊢
      simp only [hS, hC] at hbo
      clear hS hC
      rcases hbe with ⟨h64, rfl⟩ | ⟨h64, rfl⟩ <;> by_cases hneg : v < 0 <;> first
        | (have hm1 := hm.1 hneg
           clear hm
           go_enter Tryz.func139, Tryz.ntmps139
           go_wp2_with fail
           refine (hbo _).mono ?_
           rintro e w1 ⟨rfl, rfl⟩
           go_wp2_with fail
           go_ret
           exact ⟨by first | rfl | (rw [sgn_mul]) | (rw [Int.one_mul]), rfl⟩)
        | (have hm1 := hm.2 hneg
           clear hm
           go_enter Tryz.func139, Tryz.ntmps139
           go_wp2_with fail
           refine (hbo _).mono ?_
           rintro e w1 ⟨rfl, rfl⟩
           go_wp2_with fail
           go_ret
           exact ⟨by first | rfl | (rw [sgn_mul]) | (rw [Int.one_mul]), rfl⟩)
    · rw [HH2.out h32 h16]
      have hbo := fun w => Both_any (64 - b) (by omega) (by omega) w
      have hs1 := shift_bd (Sp.cosS (64 - b))
      obtain ⟨S, hS⟩ : ∃ S, Sp.shiftN 15 (Sp.cosS (64 - b)) = S := ⟨_, rfl⟩
      obtain ⟨C, hC⟩ : ∃ C, Sp.shiftN 15 (Sp.sinS (64 - b)) = C := ⟨_, rfl⟩
      rw [hS] at hs1 ⊢
      simp only [hS, hC] at hbo
      clear hS hC
      rcases hbe with ⟨h64, rfl⟩ | ⟨h64, rfl⟩ <;> by_cases hneg : v < 0 <;> first
        | (have hm1 := hm.1 hneg
           clear hm
           go_enter Tryz.func139, Tryz.ntmps139
           go_wp2_with fail
           refine (hbo _).mono ?_
           rintro e w1 ⟨rfl, rfl⟩
           go_wp2_with fail
           go_ret
           exact ⟨by first | rfl | (rw [sgn_mul]) | (rw [Int.one_mul]), rfl⟩)
        | (have hm1 := hm.2 hneg
           clear hm
           go_enter Tryz.func139, Tryz.ntmps139
           go_wp2_with fail
           refine (hbo _).mono ?_
           rintro e w1 ⟨rfl, rfl⟩
           go_wp2_with fail
           go_ret
           exact ⟨by first | rfl | (rw [sgn_mul]) | (rw [Int.one_mul]), rfl⟩)
  · by_cases h16 : 16 < b
    · rw [HL.out h16 h32]
      have hbo := fun w => Both_any (32 - b) (by omega) (by omega) w
      have hs1 := shift_bd (Sp.sinS (32 - b))
      obtain ⟨S, hS⟩ : ∃ S, Sp.shiftN 15 (Sp.sinS (32 - b)) = S := ⟨_, rfl⟩
      obtain ⟨C, hC⟩ : ∃ C, Sp.shiftN 15 (Sp.cosS (32 - b)) = C := ⟨_, rfl⟩
      rw [hS] at hs1 ⊢
      simp only [hS, hC] at hbo
      clear hS hC
      rcases hbe with ⟨h64, rfl⟩ | ⟨h64, rfl⟩ <;> by_cases hneg : v < 0 <;> first
        | (have hm1 := hm.1 hneg
           clear hm
           go_enter Tryz.func139, Tryz.ntmps139
           go_wp2_with fail
           refine (hbo _).mono ?_
           rintro e w1 ⟨rfl, rfl⟩
           go_wp2_with fail
           go_ret
           exact ⟨by first | rfl | (rw [sgn_mul]) | (rw [Int.one_mul]), rfl⟩)
        | (have hm1 := hm.2 hneg
           clear hm
           go_enter Tryz.func139, Tryz.ntmps139
           go_wp2_with fail
           refine (hbo _).mono ?_
           rintro e w1 ⟨rfl, rfl⟩
           go_wp2_with fail
           go_ret
           exact ⟨by first | rfl | (rw [sgn_mul]) | (rw [Int.one_mul]), rfl⟩)
    · rw [HL2.out h16]
      have hbo := fun w => Both_any b (by omega) (by omega) w
      have hs1 := shift_bd (Sp.cosS b)
      obtain ⟨S, hS⟩ : ∃ S, Sp.shiftN 15 (Sp.cosS b) = S := ⟨_, rfl⟩
      obtain ⟨C, hC⟩ : ∃ C, Sp.shiftN 15 (Sp.sinS b) = C := ⟨_, rfl⟩
      rw [hS] at hs1 ⊢
      simp only [hS, hC] at hbo
      clear hS hC
      rcases hbe with ⟨h64, rfl⟩ | ⟨h64, rfl⟩ <;> by_cases hneg : v < 0 <;> first
        | (have hm1 := hm.1 hneg
           clear hm
           go_enter Tryz.func139, Tryz.ntmps139
           go_wp2_with fail
           refine (hbo _).mono ?_
           rintro e w1 ⟨rfl, rfl⟩
           go_wp2_with fail
           go_ret
           exact ⟨by first | rfl | (rw [sgn_mul]) | (rw [Int.one_mul]), rfl⟩)
        | (have hm1 := hm.2 hneg
           clear hm
           go_enter Tryz.func139, Tryz.ntmps139
           go_wp2_with fail
           refine (hbo _).mono ?_
           rintro e w1 ⟨rfl, rfl⟩
           go_wp2_with fail
           go_ret
           exact ⟨by first | rfl | (rw [sgn_mul]) | (rw [Int.one_mul]), rfl⟩)
theorem RSin_any (u : Int) (w : World) : Calls Tryz.prog 126 #[.int .i64 u] w fun e w' => e = .returned (.int .i64 (Sp.sinV u)) ∧ w = w' := by
  have hs := fun w => RCos_any (u.tmod 128 - 32) w
  have hr0 : -128 ≤ u.tmod 128 := (tm_bd u).1
  have hr1 : u.tmod 128 ≤ 128 := (tm_bd u).2.1
  unfold Sp.sinV
  obtain ⟨c, hc⟩ : ∃ c, Sp.cosV (u.tmod 128 - 32) = c := ⟨_, rfl⟩
  rw [hc]
  simp only [hc] at hs
  clear hc
  go_enter Tryz.func126, Tryz.ntmps126
  go_wp2_with fail
  refine (hs _).mono ?_
  rintro e w1 ⟨rfl, rfl⟩
  go_wp2_with fail
  go_ret
  exact ⟨rfl, rfl⟩
end Go.Proofs.YtmfihaaiddolmaaGreatDoor

namespace Go.Proofs.YtmfihaaiddolmaaGreatDoor
open Go.RowKit

theorem RSize_any (x : Int) (h0 : -1099511627776 ≤ x) (h1 : x ≤ 1099511627776) (w : World) : Calls Tryz.prog 90 #[.int .i64 x] w fun e w' => e = .returned (.int .i64 (max x (-x))) ∧ w = w' := by
  by_cases h : x < 0
  · have e : max x (-x) = -x := by omega
    rw [e]
    go_enter Tryz.func90, Tryz.ntmps90
    go_wp2
    go_ret
    exact ⟨rfl, rfl⟩
  · have e : max x (-x) = x := by omega
    rw [e]
    go_enter Tryz.func90, Tryz.ntmps90
    go_wp2
    go_ret
    exact ⟨rfl, rfl⟩
set_option maxHeartbeats 800000 in
theorem RBounds_any (b : Nat) (hb : b < 4) (w : World) : Calls Tryz.prog 50 #[.int .i64 b] w fun e w' => e = .returned (.tuple #[.int .i64 (offN b), .int .i64 (offN b + bandN b : Nat)]) ∧ Below w.heap.size w w' := by
  have hb4 : b = 0 ∨ b = 1 ∨ b = 2 ∨ b = 3 := by omega
  rcases hb4 with rfl | rfl | rfl | rfl <;>
  · go_enter Tryz.func50, Tryz.ntmps50
    go_wp2_with fail
    go_quiet (fail)
    go_wp2_with fail
    go_ret2
    exact ⟨rfl, belowNN ((Below.refl _ _).alloc (Nat.le_refl _) _) _⟩
end Go.Proofs.YtmfihaaiddolmaaGreatDoor

namespace Go.Proofs.YtmfihaaiddolmaaGreatDoor
open Go.RowKit

set_option maxRecDepth 100000 in
set_option maxHeartbeats 4000000 in
theorem RFill_any (lev : Nat) (h1 : lev ≤ 20) (l : List Int) (v : Value) (w : World) (hS : SliceI w v l) (hl : l.length ≤ 8) (hb : ∀ x ∈ l, -8 ≤ x ∧ x ≤ 8) :
    Calls Tryz.prog 55 #[.int .i64 lev, v] w fun e w' => ∃ v', e = .returned v' ∧ Row w' 3 v' (intsV (fillL lev l)) ∧ Below w.heap.size w w' ∧ Hid (∀ g, v'.ownBlock = some g → w.heap.size ≤ g) := by
  have hmk : ∀ w, (Instr.makeSlice 83 (.int .i64 (l.length : Int)) (.int .i64 (l.length : Int))).run Tryz.prog w = .ok (.slice (some ⟨w.heap.size, 0, none⟩) l.length l.length) (w.alloc (.cells (madeCells #[.int .i64 0] l.length) 3)) :=
    run_make_row' 83 3 (.int .i64 0) 8 Tryz.underlying83 madeI rfl .i64 .i64 l.length (by omega) (by omega)
  have hb0 : Below w.heap.size w (w.alloc (.cells (madeCells #[.int .i64 0] l.length) 3)) := (Below.refl _ _).alloc (Nat.le_refl _) _
  have hR0 := Row.made w l.length (by omega)
  have hsz := Sp.sizes_bd l hb
  have hszk := fun k => Sp.sizes_bd (l.take k) (fun x hx => hb x (List.mem_of_mem_take hx))
  obtain ⟨o, cap, rfl, hc1, hc2, hcl⟩ := hS
  have HC := Lib.hid hcl
  have HB := Lib.hid hb
  have HSZ := Lib.hid hszk
  have HMK := Lib.hid hmk
  have hlev : (lev : Int) ≤ 20 := by omega
  obtain ⟨n, hn⟩ : ∃ n, l.length = n := ⟨_, rfl⟩
  have HN := Lib.hid hn
  obtain ⟨K, hK⟩ : ∃ K, Sp.sizes l = K := ⟨_, rfl⟩
  have HK := Lib.hid hK
  obtain ⟨F, hFF⟩ : ∃ F, fillL lev l = F := ⟨_, rfl⟩
  have HFF := Lib.hid hFF
  have hFl : F.length = n := by rw [← hFF, fillL_len, hn]
  have HFL := Lib.hid hFl
  rw [hFF]
  rw [hn] at hR0 hb0 hl hc1 hsz ⊢
  rw [hK] at hsz
  clear hcl hb hszk hmk hn hK hFF hFl
  obtain ⟨B, hB⟩ : ∃ B, w.heap.size = B := ⟨_, rfl⟩
  rw [hB] at hR0 hb0
  go_enter Tryz.func55, Tryz.ntmps55
  go_wp2_with fail
  go_loop [5, 6] (fun s i => ∃ k : Nat, k ≤ n ∧ i = .int .i64 k ∧ s = .int .i64 (Sp.sizes (l.take k))) (fun _ i => n - (intOf i).toNat)
  case atStart => exact ⟨0, Nat.zero_le _, rfl, rfl⟩
  case round =>
    obtain ⟨k, hk, rfl, rfl⟩ := hrel
    by_cases hlt : k < n
    · obtain ⟨x, hx⟩ : ∃ x, l[k]? = some x := ⟨_, List.getElem?_eq_getElem (by rw [HN.out]; exact hlt)⟩
      obtain ⟨g, f0, rfl, hcell⟩ := HC.out k x hx
      have hx8 := HB.out x (List.mem_of_getElem? hx)
      have hs := HSZ.out k
      rw [List.length_take] at hs
      have hnx : Sp.sizes (l.take (k + 1)) = Sp.sizes (l.take k) + max x (-x) := by rw [List.take_add_one, hx, Option.toList_some, Sp.sizes_snoc]
      have HNX := Lib.hid hnx
      obtain ⟨s, hse⟩ : ∃ s, Sp.sizes (l.take k) = s := ⟨_, rfl⟩
      rw [hse] at hs HNX ⊢
      obtain ⟨y, hy⟩ : ∃ y, max x (-x) = y := ⟨_, rfl⟩
      have hy8 : 0 ≤ y ∧ y ≤ 8 := by omega
      have hrs := fun w => RSize_any x (by omega) (by omega) w
      simp only [hy] at hrs
      rw [hy] at HNX
      have HRS := Lib.hid hrs
      clear hx hnx hse hy hrs
      go_wp2_with fail
      refine (HRS.out _).mono ?_
      rintro e w' ⟨rfl, rfl⟩
      go_wp2_with fail
      go_round
      case rel => exact ⟨k + 1, hlt, by go_num, by rw [HNX.out]⟩
      case measure => simp [intOf]; omega
    · obtain rfl : k = n := by omega
      have ht : l.take k = l := List.take_of_length_le (by rw [HN.out]; omega)
      rw [ht, HK.out]
      have hmk := HMK.out
      rw [HN.out] at hmk
      clear ht
      by_cases hgo : lev = 0 ∨ K = 0
      · have hf : F = List.replicate k 0 := by rw [← HFF.out, fillL, if_pos (by rw [HK.out]; exact hgo), HN.out]
        have HF := Lib.hid hf
        clear hf
        go_wp2_with fail
        go_loop [8] (fun i => i = .int .i64 0) (fun i => 0)
        case atStart => rfl
        case round =>
          obtain rfl := hrel
          by_cases hk0 : k = 0
          · subst hk0
            go_wp2_with fail
            go_ret
            exact ⟨_, rfl, by rw [HF.out]; exact hR0, by first | exact hb0 | (rw [hB]; exact hb0), Lib.hid (by intro g hg; simp [Value.ownBlock] at hg; omega)⟩
          · have hk1 : (0 : Int) < k := by omega
            by_cases hK0 : K = 0
            · subst hK0
              go_wp2_with fail
              go_ret
              exact ⟨_, rfl, by rw [HF.out]; exact hR0, by first | exact hb0 | (rw [hB]; exact hb0), Lib.hid (by intro g hg; simp [Value.ownBlock] at hg; omega)⟩
            · obtain rfl : lev = 0 := by omega
              have hK1 : 0 < K := by omega
              go_wp2_with fail
              go_ret
              exact ⟨_, rfl, by rw [HF.out]; exact hR0, by first | exact hb0 | (rw [hB]; exact hb0), Lib.hid (by intro g hg; simp [Value.ownBlock] at hg; omega)⟩
      · have hK1 : 0 < K := by omega
        have hlev0 : (0 : Int) < lev := by omega
        have hf : F = l.map fun n => (n * 3 * 2 ^ lev).tdiv (4 * K) := by rw [← HFF.out, fillL, if_neg (by rw [HK.out]; exact hgo), HK.out]
        have hP := pow_bd20 h1
        have hpw := fun w => RPow_any lev (by omega) w
        obtain ⟨P, hPP⟩ : ∃ P, (2 : Int) ^ lev = P := ⟨_, rfl⟩
        rw [hPP] at hf hP
        simp only [hPP] at hpw
        have HF := Lib.hid hf
        have HPW := Lib.hid hpw
        rw [← HFL.out, ← partL_zero, HFL.out] at hR0
        clear hf hpw hPP hgo
        go_wp2_with fail
        go_loopw [8] (fun i wr => ∃ j : Nat, j ≤ k ∧ i = .int .i64 j ∧ Row wr 3 (.slice (some ⟨B, 0, none⟩) k k) (intsV (partL F j)) ∧ Below B w wr) (fun i _ => k - (intOf i).toNat)
        case atStart => exact ⟨0, Nat.zero_le _, rfl, hR0, hb0⟩
        case round =>
          clear hR0 hb0
          obtain ⟨j, hj, rfl, hR, hb⟩ := hrel
          by_cases hlt : j < k
          · obtain ⟨x, hx⟩ : ∃ x, l[j]? = some x := ⟨_, List.getElem?_eq_getElem (by rw [HN.out]; exact hlt)⟩
            obtain ⟨g, f0, rfl, hcell⟩ := HC.out j x hx
            have hx8 := HB.out x (List.mem_of_getElem? hx)
            have hgl : g < B := by rw [← hB]; exact cellI_lt hcell
            have hcell2 := (hb.cell (p := ⟨g, f0 + j, none⟩) hgl).trans hcell
            obtain ⟨t1, t2, t3, t4⟩ := quo_bd hx8 hP (show 1 ≤ K by omega)
            have hFk : F.getD j 0 = (x * 3 * P).tdiv (4 * K) := by rw [HF.out, List.getD_eq_getElem?_getD, List.getElem?_map, hx]; rfl
            obtain ⟨q, hq⟩ : ∃ q, (x * 3 * P).tdiv (4 * K) = q := ⟨_, rfl⟩
            rw [hq] at t3 t4 hFk
            have hset := partL_set F (k := j) (by rw [HFL.out]; exact hlt)
            rw [hFk] at hset
            have HSET := Lib.hid hset
            have hplen : (intsV (partL F j)).length = k := by rw [List.length_map, partL_len F (by rw [HFL.out]; omega), HFL.out]
            have hst := hR.stored hplen j (.int .i64 q)
            have f1 := hR.frozenAt hplen j
            have c1 : wr.cell? ⟨B, j, none⟩ = some (.int .i64 ((partL F j).getD j 0)) := by
              rw [hR.cellAt hplen j hlt, ints_get (by rw [List.length_map] at hplen; omega)]
            rw [ints_set, HSET.out] at hst
            have hb2 := hb.setCell (p := ⟨B, j, none⟩) (Nat.le_refl _) (.int .i64 q)
            have hji : (j : Int) < k := by omega
            have hc5 : ∀ W, Kept (· = B) wr W → W.cell? ⟨g, f0 + j, none⟩ = some (.int .i64 x) := fun W h => by
              have hl := cellI_lt hcell2
              rw [World.cell?_of_block (w := wr) (h.block g hl (by omega))]; exact hcell2
            have HC5 := Lib.hid hc5
            have hw1 : IntKind.i64.wrap (x * 3) = x * 3 := IntWalk.i64_in _ (by omega)
            have hw2 : IntKind.i64.wrap (x * 3 * P) = x * 3 * P := IntWalk.i64_in _ (by omega)
            have hw3 : IntKind.i64.wrap (4 * K) = 4 * K := IntWalk.i64_in _ (by omega)
            have hw4 : IntKind.i64.wrap q = q := IntWalk.i64_in _ (by omega)
            have h4K : ¬ 4 * K = 0 := by omega
            have h0K : ¬ K = 0 := by omega
            have f1' := f1
            clear hx hset hplen hFk hc5
            go_upto_region 10 with (fail)
            refine wp_region_held_drew (S := fun W => Kept (· = B) wr W) (by kernel_rfl) ((Kept.refl _ wr).drew) (fun hH => ?_)
            refine wpAnyH_take (i := 0) (oi := { dst := some 39, op := Op.move (Operand.tmp 7), type := 83, pos := "ref.go:40", after := _, guard := none }) (v := _) rfl (by kernel_rfl) (by kernel_rfl) (by kernel_rfl) (fun _ _ _ h => h) (.inl ⟨by rfl, fun w hS => by (go_simp; try rfl)⟩) hH ?_
            try simp only [Act.put, List.setIfInBounds_toArray, List.set_cons_zero, List.set_cons_succ]
            refine wpAnyH_take (i := 1) (oi := { dst := some 40, op := Op.move (Operand.tmp 8), type := 3, pos := "ref.go:40", after := _, guard := none }) (v := _) rfl (by kernel_rfl) (by kernel_rfl) (by kernel_rfl) (fun _ _ _ h => h) (.inl ⟨by rfl, fun w hS => by (go_simp; try rfl)⟩) hH ?_
            try simp only [Act.put, List.setIfInBounds_toArray, List.set_cons_zero, List.set_cons_succ]
            refine wpAnyH_take (i := 2) (oi := { dst := some 41, op := Op.move (Operand.tmp 1), type := 83, pos := "ref.go:40", after := _, guard := none }) (v := _) rfl (by kernel_rfl) (by kernel_rfl) (by kernel_rfl) (fun _ _ _ h => h) (.inl ⟨by rfl, fun w hS => by (go_simp; try rfl)⟩) hH ?_
            try simp only [Act.put, List.setIfInBounds_toArray, List.set_cons_zero, List.set_cons_succ]
            refine wpAnyH_take (i := 3) (oi := { dst := some 42, op := Op.move (Operand.tmp 8), type := 3, pos := "ref.go:40", after := _, guard := none }) (v := _) rfl (by kernel_rfl) (by kernel_rfl) (by kernel_rfl) (fun _ _ _ h => h) (.inl ⟨by rfl, fun w hS => by (go_simp; try rfl)⟩) hH ?_
            try simp only [Act.put, List.setIfInBounds_toArray, List.set_cons_zero, List.set_cons_succ]
            refine wpAnyH_take (i := 4) (oi := { dst := some 43, op := Op.indexAddr 83 (Operand.tmp 41) (Operand.tmp 42), type := 0, pos := "ref.go:40", after := _, guard := none }) (v := _) rfl (by kernel_rfl) (by kernel_rfl) (by kernel_rfl) (fun _ _ _ h => h) (.inl ⟨by rfl, fun w hS => by (go_simp; try rfl)⟩) hH ?_
            try simp only [Act.put, List.setIfInBounds_toArray, List.set_cons_zero, List.set_cons_succ]
            refine wpAnyH_take (i := 5) (oi := { dst := some 44, op := Op.load 3 (Operand.tmp 43), type := 3, pos := "ref.go:40", after := _, guard := none }) (v := _) rfl (by kernel_rfl) (by kernel_rfl) (by kernel_rfl) (fun _ _ _ h => h) (.inl ⟨by rfl, fun w hS => by (have c := HC5.out _ hS; go_simp; try rfl)⟩) hH ?_
            try simp only [Act.put, List.setIfInBounds_toArray, List.set_cons_zero, List.set_cons_succ]
            refine wpAnyH_take (i := 6) (oi := { dst := some 45, op := Op.binOp BinOp.mul 3 (Operand.tmp 44) (Operand.const (Value.int IntKind.i64 3)) 3, type := 3, pos := "ref.go:40", after := _, guard := none }) (v := _) rfl (by kernel_rfl) (by kernel_rfl) (by kernel_rfl) (fun _ _ _ h => h) (.inl ⟨by rfl, fun w hS => by (go_simp; try rfl)⟩) hH ?_
            try simp only [Act.put, List.setIfInBounds_toArray, List.set_cons_zero, List.set_cons_succ]
            refine wpAnyH_take (i := 7) (oi := { dst := some 46, op := Op.move (Operand.tmp 0), type := 3, pos := "ref.go:40", after := _, guard := none }) (v := _) rfl (by kernel_rfl) (by kernel_rfl) (by kernel_rfl) (fun _ _ _ h => h) (.inl ⟨by rfl, fun w hS => by (go_simp; try rfl)⟩) hH ?_
            try simp only [Act.put, List.setIfInBounds_toArray, List.set_cons_zero, List.set_cons_succ]
            refine wpAnyH_take (i := 10) (oi := { dst := some 49, op := Op.move (Operand.tmp 5), type := 3, pos := "ref.go:40", after := _, guard := none }) (v := _) rfl (by kernel_rfl) (by kernel_rfl) (by kernel_rfl) (fun _ _ _ h => h) (.inl ⟨by rfl, fun w hS => by (go_simp; try rfl)⟩) hH ?_
            try simp only [Act.put, List.setIfInBounds_toArray, List.set_cons_zero, List.set_cons_succ]
            refine wpAnyH_take (i := 11) (oi := { dst := some 50, op := Op.binOp BinOp.mul 3 (Operand.const (Value.int IntKind.i64 4)) (Operand.tmp 49) 3, type := 3, pos := "ref.go:40", after := _, guard := none }) (v := _) rfl (by kernel_rfl) (by kernel_rfl) (by kernel_rfl) (fun _ _ _ h => h) (.inl ⟨by rfl, fun w hS => by (go_simp; try rfl)⟩) hH ?_
            try simp only [Act.put, List.setIfInBounds_toArray, List.set_cons_zero, List.set_cons_succ]
            refine wpAnyH_ready (rs := [8]) (by kernel_rfl) (by simp) ?_
            refine AllReadyH.cons (o := { dst := some 47, op := Op.call { callee := Callee.value (Operand.func 52), args := #[Operand.tmp 46], argTypes := #[3] }, type := 3, pos := "ref.go:40", after := _, guard := none }) rfl (fun K hK => ?_) AllReadyH.nil
            rw [if_pos (by rfl)]
            go_simp
            refine (HPW.out _).mono ?_
            rintro r wq ⟨rfl, rfl⟩
            go_wp2_with fail
            refine hK.out _ _ hH (fun hH => ?_)
            clear hK K
            try simp only [Act.put, List.setIfInBounds_toArray, List.set_cons_zero, List.set_cons_succ]
            refine wpAnyH_take (i := 9) (oi := { dst := some 48, op := Op.binOp BinOp.mul 3 (Operand.tmp 45) (Operand.tmp 47) 3, type := 3, pos := "ref.go:40", after := _, guard := none }) (v := _) rfl (by kernel_rfl) (by kernel_rfl) (by kernel_rfl) (fun _ _ _ h => h) (.inl ⟨by rfl, fun w hS => by (go_simp; try rfl)⟩) hH ?_
            try simp only [Act.put, List.setIfInBounds_toArray, List.set_cons_zero, List.set_cons_succ]
            refine wpAnyH_take (i := 12) (oi := { dst := some 51, op := Op.binOp BinOp.quo 3 (Operand.tmp 48) (Operand.tmp 50) 3, type := 3, pos := "ref.go:40", after := _, guard := none }) (v := _) rfl (by kernel_rfl) (by kernel_rfl) (by kernel_rfl) (fun _ _ _ h => h) (.inl ⟨by rfl, fun w hS => by (go_simp; try rfl)⟩) hH ?_
            try simp only [Act.put, List.setIfInBounds_toArray, List.set_cons_zero, List.set_cons_succ]
            refine wpAnyH_take (i := 13) (oi := { dst := some 52, op := Op.indexAddr 83 (Operand.tmp 39) (Operand.tmp 40), type := 0, pos := "ref.go:40", after := _, guard := none }) (v := _) rfl (by kernel_rfl) (by kernel_rfl) (by kernel_rfl) (fun _ _ _ h => h) (.inl ⟨by rfl, fun w hS => by (go_simp; try rfl)⟩) hH ?_
            try simp only [Act.put, List.setIfInBounds_toArray, List.set_cons_zero, List.set_cons_succ]
            refine wpAnyH_ready (rs := [14]) (by kernel_rfl) (by simp) ?_
            refine AllReadyH.cons (o := { dst := none, op := Op.store 3 (Operand.tmp 52) (Operand.tmp 51), type := 0, pos := "ref.go:40", after := _, guard := none }) rfl (fun K hK => ?_) AllReadyH.nil
            rw [if_pos (by rfl)]
            go_simp
            refine hK.out _ _ (hH.setCell (.inl rfl) _) (fun hH => ?_)
            clear hK K
            try simp only [Act.put]
            refine wpAnyH_done (by kernel_rfl) ?_ _
            go_wp2_with fail
            go_roundw
            case rel => exact ⟨j + 1, hlt, by go_num, hst, hb2.drew⟩
            case measure => simp [intOf]; omega
          · obtain rfl : j = k := by omega
            go_wp2_with fail
            go_ret
            refine ⟨_, rfl, ?_, by first | exact hb | (rw [hB]; exact hb), Lib.hid (by intro g hg; simp [Value.ownBlock] at hg; omega)⟩
            have h := hR
            rw [← HFL.out, partL_all, HFL.out] at h
            exact h
end Go.Proofs.YtmfihaaiddolmaaGreatDoor

namespace Go.Proofs.YtmfihaaiddolmaaGreatDoor
open Go.RowKit

/-- The document's decoder, as cells. -/
def rdecC (d : Sp.Dec) : Array Value := #[.string d.s, .int .i64 d.code, .int .i64 d.rng, .int .i64 d.pos]
theorem RbyteAt_any (s : ByteArray) (i : Int) (h0 : 0 ≤ i) (w : World) : Calls Tryz.prog 88 #[.string s, .int .i64 i] w fun e w' => e = .returned (.int .i64 (Sp.byteAt s i)) ∧ w = w' := by
  obtain ⟨n, rfl⟩ : ∃ n : Nat, i = n := ⟨i.toNat, by omega⟩
  by_cases h : n < s.size
  · have hb : Sp.byteAt s n = ((s[n]'h).toNat : Int) := by unfold Sp.byteAt; rw [dif_pos (by simpa using h)]; rfl
    have hbd := (s[n]'h).toNat_lt
    rw [hb]
    go_enter Tryz.func88, Tryz.ntmps88
    go_wp2
    go_ret
    exact ⟨rfl, rfl⟩
  · have hb : Sp.byteAt s n = 0 := by unfold Sp.byteAt; rw [dif_neg (by simpa using h)]
    rw [hb]
    go_enter Tryz.func88, Tryz.ntmps88
    go_wp2
    go_ret
    exact ⟨rfl, rfl⟩
theorem first_code (s : ByteArray) : ∀ k, k ≤ 4 → (Sp.Dec.first s k).code < 256 ^ k := by
  intro k
  induction k with
  | zero => intro _; show (0 : Int) < 1; omega
  | succ k ih =>
    intro hk
    have h := ih (by omega)
    have hb := Sp.byteAt_bd s (Sp.Dec.first s k).pos
    have h0 := (Sp.Dec.first_ok s k).2.2.1
    have hp : (256 : Int) ^ (k + 1) = 256 * 256 ^ k := by rw [Int.pow_succ]; omega
    simp only [Sp.Dec.first]
    have hm : (Sp.Dec.first s k).code * 256 % 4294967296 ≤ (Sp.Dec.first s k).code * 256 := by omega
    omega
theorem first_next (s : ByteArray) (k : Nat) (hk : k < 4) : (Sp.Dec.first s (k + 1)).code = 256 * (Sp.Dec.first s k).code + Sp.byteAt s (k : Nat) := by
  have h := first_code s k (by omega)
  have hp := (Sp.Dec.first_ok s k).2.1
  have h0 := (Sp.Dec.first_ok s k).2.2.1
  have hpw : (256 : Int) ^ k ≤ 16777216 := by
    have hk4 : k = 0 ∨ k = 1 ∨ k = 2 ∨ k = 3 := by omega
    rcases hk4 with rfl | rfl | rfl | rfl <;> decide
  simp only [Sp.Dec.first, hp]
  omega
set_option maxHeartbeats 800000 in
theorem RNewDec_any (s : ByteArray) (w : World) : Calls Tryz.prog 43 #[.string s] w fun e w' => e = .returned (.agg (rdecC (Sp.Dec.new s))) ∧ Below w.heap.size w w' := by
  have hfin : rdecC (Sp.Dec.new s) = #[.string s, .int .i64 (Sp.Dec.first s 4).code, .int .i64 4294967295, .int .i64 4] := by
    obtain ⟨a, b, _, _, c, _⟩ := Sp.Dec.first_ok s 4
    unfold rdecC Sp.Dec.new
    rw [a, b, c]; rfl
  have HFN := Lib.hid (first_next s)
  have HBD := Lib.hid (fun k => (Sp.Dec.first_ok s k).2.2)
  rw [hfin]
  clear hfin
  go_enter Tryz.func43, Tryz.ntmps43
  go_wp2_with fail
  go_loop [3, 4] (fun n i => ∃ (k : Nat) (c : Int), k ≤ 4 ∧ i = .int .i64 k ∧ n = .int .i64 c ∧ Hid (c = (Sp.Dec.first s k).code) ∧ 0 ≤ c ∧ c ≤ 4294967295) (fun n i => 4 - (intOf i).toNat)
  case atStart => exact ⟨0, 0, by omega, rfl, rfl, Lib.hid rfl, by omega, by omega⟩
  case round =>
    obtain ⟨k, c, hk, rfl, rfl, hc, c0, c1⟩ := hrel
    by_cases hlt : k < 4
    · have hn := HFN.out k hlt
      have hb := HBD.out (k + 1)
      have hbb := Sp.byteAt_bd s (k : Nat)
      have hcall := fun w => RbyteAt_any s (k : Nat) (by omega) w
      obtain ⟨y, hy⟩ : ∃ y, Sp.byteAt s (k : Nat) = y := ⟨_, rfl⟩
      rw [← hc.out, hy] at hn
      rw [hn] at hb
      rw [hy] at hbb
      simp only [hy] at hcall
      obtain ⟨e0, e1, _⟩ := hb
      have HN := Lib.hid hn.symm
      clear hn hy
      go_wp2_with fail
      refine (hcall _).mono ?_
      rintro e w1 ⟨rfl, rfl⟩
      go_wp2_with fail
      go_round
      case rel => exact ⟨k + 1, 256 * c + y, hlt, by go_num, rfl, HN, e0, e1⟩
      case measure => simp [intOf]; omega
    · obtain rfl : k = 4 := by omega
      go_wp2_with fail
      exact bodyPost_ret (v := .agg #[.string s, .int .i64 c, .int .i64 4294967295, .int .i64 4]) (results_cell_row Tryz.results43 _ _ w.heap.size 87 _ (0, 0) _ rfl (Blk.new w #[.string s, .int .i64 c, .int .i64 4294967295, .int .i64 4] 87) Tryz.underlying87 rfl (by kernel_rfl)) rfl ⟨by rw [← hc.out], by go_grown⟩
set_option maxHeartbeats 800000 in
theorem RPlace_any {d : Sp.Dec} {b : Int} (hd : d.Ok b) (t : Int) (t0 : 1 ≤ t) (t1 : t ≤ 32768) (w : World) : Calls Tryz.prog 45 #[.agg (rdecC d), .int .i64 t] w fun e w' => e = .returned (.int .i64 (d.place t)) ∧ Below w.heap.size w w' := by
  obtain ⟨s, a, c, r, n⟩ := d
  obtain ⟨h1, h2, h3, h4, h5, h6, h7, h8⟩ := hd
  simp only at h1 h2 h3 h4 h5 h6 h7 h8
  have hpl : Sp.Dec.place ⟨s, a, c, r, n⟩ t = min (c / (r / t)) (t - 1) := rfl
  rw [hpl]
  show Calls Tryz.prog 45 #[.agg #[.string s, .int .i64 c, .int .i64 r, .int .i64 a], .int .i64 t] w _
  have hq0 : 512 ≤ r / t := (Int.le_ediv_iff_mul_le (by omega)).2 (by have := Int.mul_le_mul_of_nonneg_left t1 (show (0 : Int) ≤ 512 by omega); omega)
  have hq1 : r / t ≤ r := Int.ediv_le_self _ (by omega)
  have htd : r.tdiv t = r / t := Int.tdiv_eq_ediv_of_nonneg (by omega)
  obtain ⟨q, hq⟩ : ∃ q, r / t = q := ⟨_, rfl⟩
  rw [hq] at hq0 hq1 htd ⊢
  have htd2 : c.tdiv q = c / q := Int.tdiv_eq_ediv_of_nonneg h3
  have hp0 : 0 ≤ c / q := Int.ediv_nonneg h3 (by omega)
  have hp1 : c / q ≤ c := Int.ediv_le_self _ h3
  obtain ⟨p, hp⟩ : ∃ p, c / q = p := ⟨_, rfl⟩
  rw [hp] at htd2 hp0 hp1 ⊢
  have ht0 : ¬ t = 0 := by omega
  have hq00 : ¬ q = 0 := by omega
  clear hpl hp
  have hX := Blk.new w #[.string s, .int .i64 c, .int .i64 r, .int .i64 a] 87
  have hb1 : Below w.heap.size w (w.alloc (.cells #[.string s, .int .i64 c, .int .i64 r, .int .i64 a] 87)) := (Below.refl _ _).alloc (Nat.le_refl _) _
  obtain ⟨B, hB⟩ : ∃ B, w.heap.size = B := ⟨_, rfl⟩
  rw [hB] at hX
  go_enter Tryz.func45, Tryz.ntmps45
  go_upto_region 1 with (fail)
  try simp only [hB]
  generalize (w.alloc (.cells #[.string s, .int .i64 c, .int .i64 r, .int .i64 a] 87)) = w0 at hX hb1 ⊢
  have c1 := hX.cell 1
  have c2 := hX.cell 2
  simp only [List.getElem?_toArray, List.getElem?_cons_zero, List.getElem?_cons_succ] at c1 c2
  go_quiet (fail)
  go_wp2_with fail
  go_ret
  exact ⟨rfl, by first | exact belowNN hb1 _ | (rw [hB]; exact belowNN hb1 _)⟩
end Go.Proofs.YtmfihaaiddolmaaGreatDoor
