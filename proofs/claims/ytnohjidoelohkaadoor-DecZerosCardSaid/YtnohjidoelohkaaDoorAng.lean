/- The walks of package angle: whole-number cosines; and fix.Shift. -/
import Derived.Test.YtnohjidoelohkaaDoorDecA
namespace Go.Proofs.YtnohjidoelohkaaDoor
open Go.RowKit

set_option maxHeartbeats 800000 in
theorem Shift15 (x : Int) (w : World) : Calls Tryd.prog 47 #[.int .i64 x, .int .i64 15] w fun e w' => e = .returned (.int .i64 (Sp.shiftN 15 x)) ∧ w = w' := by
  unfold Sp.shiftN
  by_cases h1 : x < -1099511627776
  · rw [if_pos (.inl h1)]
    go_enter Tryd.func47, Tryd.ntmps47
    go_wp2
    go_ret
    exact ⟨rfl, rfl⟩
  by_cases h2 : 1099511627776 < x
  · rw [if_pos (.inr h2)]
    go_enter Tryd.func47, Tryd.ntmps47
    go_wp2
    go_ret
    exact ⟨rfl, rfl⟩
  rw [if_neg (by omega)]
  go_enter Tryd.func47, Tryd.ntmps47
  go_wp2
  go_ret
  exact ⟨rfl, rfl⟩
theorem by_any (a b : Int) (h0 : 0 ≤ a * b) (h1 : a * b ≤ 1152921504606846976) (w : World) : Calls Tryd.prog 74 #[.int .i64 a, .int .i64 b] w fun e w' => e = .returned (.int .i64 (Sp.byS a b)) ∧ w = w' := by
  unfold Sp.byS
  go_enter Tryd.func74, Tryd.ntmps74
  go_wp2
  go_ret
  exact ⟨rfl, rfl⟩
theorem byS_bd {a b : Int} (a0 : 0 ≤ a) (a1 : a ≤ 1073741824) (b0 : 0 ≤ b) (b1 : b ≤ 1073741824) : 0 ≤ a * b ∧ a * b ≤ 1152921504606846976 ∧ 0 ≤ Sp.byS a b ∧ Sp.byS a b ≤ 1073741824 := by
  have h0 := Int.mul_nonneg a0 b0
  have h1 : a * b ≤ 1073741824 * 1073741824 := Int.mul_le_mul a1 b1 b0 (by omega)
  unfold Sp.byS
  omega
set_option maxHeartbeats 800000 in
theorem cosine_any (u : Int) (h0 : 0 ≤ u) (h1 : u ≤ 16) (w : World) : Calls Tryd.prog 73 #[.int .i64 u] w fun e w' => e = .returned (.int .i64 (Sp.cosS u)) ∧ w = w' := by
  unfold Sp.cosS
  obtain ⟨x, hx⟩ : ∃ x, u * 105414357 / 2 = x := ⟨_, rfl⟩
  have hx0 : 0 ≤ x := by omega
  have hx1 : x ≤ 1073741824 := by omega
  rw [hx]
  simp only []
  obtain ⟨m0, m1, y0, y1⟩ := byS_bd hx0 hx1 hx0 hx1
  have hby := fun w => by_any x x m0 m1 w
  obtain ⟨y, hy⟩ : ∃ y, Sp.byS x x = y := ⟨_, rfl⟩
  simp only [hy] at y0 y1 hby ⊢
  obtain ⟨n0, n1, q0, q1⟩ := byS_bd y0 y1 y0 y1
  have hbq := fun w => by_any y y n0 n1 w
  obtain ⟨q, hq⟩ : ∃ q, Sp.byS y y = q := ⟨_, rfl⟩
  simp only [hq] at q0 q1 hbq ⊢
  obtain ⟨p0, p1, _, _⟩ := byS_bd q0 q1 y0 y1
  obtain ⟨r0, r1, _, _⟩ := byS_bd q0 q1 q0 q1
  clear hy hq
  go_enter Tryd.func73, Tryd.ntmps73
  go_wp2_with fail
  refine (hby _).mono ?_
  rintro e w1 ⟨rfl, rfl⟩
  go_wp2_with fail
  refine (hbq _).mono ?_
  rintro e w1 ⟨rfl, rfl⟩
  go_wp2_with fail
  go_ret
  exact ⟨rfl, rfl⟩
set_option maxHeartbeats 800000 in
theorem sine_any (u : Int) (h0 : 0 ≤ u) (h1 : u ≤ 16) (w : World) : Calls Tryd.prog 72 #[.int .i64 u] w fun e w' => e = .returned (.int .i64 (Sp.sinS u)) ∧ w = w' := by
  unfold Sp.sinS
  obtain ⟨x, hx⟩ : ∃ x, u * 105414357 / 2 = x := ⟨_, rfl⟩
  have hx0 : 0 ≤ x := by omega
  have hx1 : x ≤ 1073741824 := by omega
  rw [hx]
  simp only []
  obtain ⟨m0, m1, y0, y1⟩ := byS_bd hx0 hx1 hx0 hx1
  have hby := fun w => by_any x x m0 m1 w
  obtain ⟨y, hy⟩ : ∃ y, Sp.byS x x = y := ⟨_, rfl⟩
  simp only [hy] at y0 y1 hby ⊢
  obtain ⟨n0, n1, q0, q1⟩ := byS_bd y0 y1 y0 y1
  have hbq := fun w => by_any y y n0 n1 w
  obtain ⟨q, hq⟩ : ∃ q, Sp.byS y y = q := ⟨_, rfl⟩
  simp only [hq] at q0 q1 hbq ⊢
  obtain ⟨p0, p1, z0, z1⟩ := byS_bd q0 q1 y0 y1
  have hbz := fun w => by_any q y p0 p1 w
  obtain ⟨z, hz⟩ : ∃ z, Sp.byS q y = z := ⟨_, rfl⟩
  simp only [hz] at z0 z1 hbz ⊢
  obtain ⟨r0, r1, _, _⟩ := byS_bd hx0 hx1 y0 y1
  obtain ⟨s0, s1, _, _⟩ := byS_bd hx0 hx1 q0 q1
  obtain ⟨t0, t1, _, _⟩ := byS_bd hx0 hx1 z0 z1
  clear hy hq hz
  go_enter Tryd.func72, Tryd.ntmps72
  go_wp2_with fail
  refine (hby _).mono ?_
  rintro e w1 ⟨rfl, rfl⟩
  go_wp2_with fail
  refine (hbq _).mono ?_
  rintro e w1 ⟨rfl, rfl⟩
  go_wp2_with fail
  refine (hbz _).mono ?_
  rintro e w1 ⟨rfl, rfl⟩
  go_wp2_with fail
  go_ret
  exact ⟨rfl, rfl⟩
theorem told_any (x : Int) (w : World) : Calls Tryd.prog 71 #[.int .i64 x] w fun e w' => e = .returned (.int .i64 (Sp.shiftN 15 x)) ∧ w = w' := by
  go_enter Tryd.func71, Tryd.ntmps71
  go_wp2_with fail
  refine (Shift15 x _).mono ?_
  rintro e w1 ⟨rfl, rfl⟩
  go_wp2_with fail
  go_ret
  exact ⟨rfl, rfl⟩
theorem shift_bd (x : Int) : -33554433 ≤ Sp.shiftN 15 x ∧ Sp.shiftN 15 x ≤ 33554433 := by
  unfold Sp.shiftN
  split <;> omega
theorem tm_bd (u : Int) : -128 ≤ u.tmod 128 ∧ u.tmod 128 ≤ 128 ∧ (u.tmod 128 + 128) % 128 = u % 128 := by
  rcases Int.le_total 0 u with h | h
  · rw [Int.tmod_eq_emod_of_nonneg h]; omega
  · have e : u.tmod 128 = -((-u) % 128) := by
      have h2 := Int.neg_tmod (-u) 128
      rw [Int.neg_neg] at h2
      rw [h2, Int.tmod_eq_emod_of_nonneg (by omega)]
    rw [e]; omega
theorem tm128 (u : Int) : (u.tmod 128 + 128).tmod 128 = u % 128 := by
  have h := tm_bd u
  rw [Int.tmod_eq_emod_of_nonneg (by omega)]
  exact h.2.2
theorem Cos2_any (u a : Int) (ha : u % 128 = a) (h1 : a ≤ 32) (w : World) : Calls Tryd.prog 69 #[.int .i64 u] w fun e w' => e = .returned (.int .i64 (Sp.cos2 a)) ∧ w = w' := by
  have h0 : 0 ≤ a := by omega
  have ht := tm128 u
  rw [ha] at ht
  have hr0 : -128 ≤ u.tmod 128 := (tm_bd u).1
  have hr1 : u.tmod 128 ≤ 128 := (tm_bd u).2.1
  unfold Sp.cos2
  by_cases h : 16 < a
  · rw [if_pos h]
    have hs := fun w => sine_any (32 - a) (by omega) (by omega) w
    go_enter Tryd.func69, Tryd.ntmps69
    go_wp2_with fail
    refine (hs _).mono ?_
    rintro e w1 ⟨rfl, rfl⟩
    go_wp2_with fail
    refine (told_any _ _).mono ?_
    rintro e w1 ⟨rfl, rfl⟩
    go_wp2_with fail
    go_ret
    exact ⟨rfl, rfl⟩
  · rw [if_neg h]
    have hs := fun w => cosine_any a h0 (by omega) w
    go_enter Tryd.func69, Tryd.ntmps69
    go_wp2_with fail
    refine (hs _).mono ?_
    rintro e w1 ⟨rfl, rfl⟩
    go_wp2_with fail
    refine (told_any _ _).mono ?_
    rintro e w1 ⟨rfl, rfl⟩
    go_wp2_with fail
    go_ret
    exact ⟨rfl, rfl⟩
theorem cos2_bd (a : Int) : -33554433 ≤ Sp.cos2 a ∧ Sp.cos2 a ≤ 33554433 := by
  unfold Sp.cos2; split <;> exact shift_bd _
theorem Cos1_any (u a : Int) (ha : u % 128 = a) (h1 : a ≤ 64) (w : World) : Calls Tryd.prog 69 #[.int .i64 u] w fun e w' => e = .returned (.int .i64 (Sp.cos1 a)) ∧ w = w' := by
  have h0 : 0 ≤ a := by omega
  unfold Sp.cos1
  by_cases h : 32 < a
  · rw [if_pos h]
    have ht := tm128 u
    rw [ha] at ht
    have hr0 : -128 ≤ u.tmod 128 := (tm_bd u).1
    have hr1 : u.tmod 128 ≤ 128 := (tm_bd u).2.1
    have hs := fun w => Cos2_any (64 - a) (64 - a) (by omega) (by omega) w
    have hbd := cos2_bd (64 - a)
    obtain ⟨c, hc⟩ : ∃ c, Sp.cos2 (64 - a) = c := ⟨_, rfl⟩
    rw [hc] at hbd ⊢
    simp only [hc] at hs
    clear hc ha
    go_enter Tryd.func69, Tryd.ntmps69
    go_wp2_with fail
    refine (hs _).mono ?_
    rintro e w1 ⟨rfl, rfl⟩
    go_wp2_with fail
    go_ret
    exact ⟨rfl, rfl⟩
  · rw [if_neg h]
    exact Cos2_any u a ha (by omega) w
theorem cos1_bd (a : Int) : -33554433 ≤ Sp.cos1 a ∧ Sp.cos1 a ≤ 33554433 := by
  have h1 := cos2_bd (64 - a)
  have h2 := cos2_bd a
  unfold Sp.cos1; split <;> omega
theorem Cos_any (u : Int) (w : World) : Calls Tryd.prog 69 #[.int .i64 u] w fun e w' => e = .returned (.int .i64 (Sp.cosV u)) ∧ w = w' := by
  obtain ⟨a, ha⟩ : ∃ a, u % 128 = a := ⟨_, rfl⟩
  have h0 : 0 ≤ a := by omega
  unfold Sp.cosV
  rw [ha]
  by_cases h : 64 < a
  · rw [if_pos h]
    have ht := tm128 u
    rw [ha] at ht
    have hr0 : -128 ≤ u.tmod 128 := (tm_bd u).1
    have hr1 : u.tmod 128 ≤ 128 := (tm_bd u).2.1
    have hs := fun w => Cos1_any (128 - a) (128 - a) (by omega) (by omega) w
    obtain ⟨c, hc⟩ : ∃ c, Sp.cos1 (128 - a) = c := ⟨_, rfl⟩
    rw [hc]
    simp only [hc] at hs
    clear hc
    have ha1 : a < 128 := by omega
    clear ha
    go_enter Tryd.func69, Tryd.ntmps69
    go_wp2_with fail
    refine (hs _).mono ?_
    rintro e w1 ⟨rfl, rfl⟩
    go_wp2_with fail
    go_ret
    exact ⟨rfl, rfl⟩
  · rw [if_neg h]
    exact Cos1_any u a ha (by omega) w
theorem Sin_any (u : Int) (w : World) : Calls Tryd.prog 70 #[.int .i64 u] w fun e w' => e = .returned (.int .i64 (Sp.sinV u)) ∧ w = w' := by
  have hs := fun w => Cos_any (u.tmod 128 - 32) w
  have hr0 : -128 ≤ u.tmod 128 := (tm_bd u).1
  have hr1 : u.tmod 128 ≤ 128 := (tm_bd u).2.1
  unfold Sp.sinV
  obtain ⟨c, hc⟩ : ∃ c, Sp.cosV (u.tmod 128 - 32) = c := ⟨_, rfl⟩
  rw [hc]
  simp only [hc] at hs
  clear hc
  go_enter Tryd.func70, Tryd.ntmps70
  go_wp2_with fail
  refine (hs _).mono ?_
  rintro e w1 ⟨rfl, rfl⟩
  go_wp2_with fail
  go_ret
  exact ⟨rfl, rfl⟩
end Go.Proofs.YtnohjidoelohkaaDoor
