/- The walks of spoolref07.Bits; and the numbers of bits that are refused. -/
import Derived.Test.YtlhjkichambaoaaDoorRangN
import Derived.Test.YtlhjkichambaoaaDoorLaw7
import Derived.Test.YtlhjkichambaoaaDoorRangR2
namespace Go.Proofs.YtlhjkichambaoaaDoor
open Go.RowKit

set_option maxHeartbeats 400000 in
theorem DBits_no (g : Nat) (n : Int) (h : n < 0 ∨ 24 < n) (w : World) : Calls Tryd.prog 27 #[.pointer (some ⟨g, 0, none⟩), .int .i64 n] w fun r w' => r = .returned (.tuple #[.int .i64 0, .int .i64 1]) ∧ w = w' := by
  by_cases h1 : n < 0
  · clear h
    go_enter Tryd.func27, Tryd.ntmps27
    go_wp2_with fail
    go_ret2
    exact ⟨rfl, rfl⟩
  · have h2 : 24 < n := by omega
    clear h
    go_enter Tryd.func27, Tryd.ntmps27
    go_wp2_with fail
    go_ret2
    exact ⟨rfl, rfl⟩
set_option maxHeartbeats 400000 in
theorem EBits_no1 (g : Nat) (x n : Int) (h : n < 0 ∨ 24 < n) (w : World) : Calls Tryd.prog 25 #[.pointer (some ⟨g, 0, none⟩), .int .i64 x, .int .i64 n] w fun r w' => r = .returned (.int .i64 1) ∧ w = w' := by
  by_cases h1 : n < 0
  · clear h
    go_enter Tryd.func25, Tryd.ntmps25
    go_wp2_with fail
    go_ret
    exact ⟨rfl, rfl⟩
  · have h2 : 24 < n := by omega
    clear h
    go_enter Tryd.func25, Tryd.ntmps25
    go_wp2_with fail
    go_ret
    exact ⟨rfl, rfl⟩
set_option maxHeartbeats 400000 in
theorem EBits_no2 (g : Nat) (x : Int) (n : Nat) (hn : n ≤ 24) (h : x < 0 ∨ 2 ^ n ≤ x) (w : World) : Calls Tryd.prog 25 #[.pointer (some ⟨g, 0, none⟩), .int .i64 x, .int .i64 n] w fun r w' => r = .returned (.int .i64 1) ∧ w = w' := by
  have hn0 : (0 : Int) ≤ n := by omega
  have hn1 : (n : Int) ≤ 24 := by omega
  by_cases h1 : x < 0
  · clear h
    go_enter Tryd.func25, Tryd.ntmps25
    go_wp2_with fail
    go_ret
    exact ⟨rfl, rfl⟩
  · have h2 : (2 : Int) ^ n ≤ x := by omega
    have h3 : (0 : Int) < x / 2 ^ n := by
      have hp : (0 : Int) < 2 ^ n := Int.pow_pos (by omega)
      have := (Int.le_ediv_iff_mul_le hp).2 (show 1 * (2 : Int) ^ n ≤ x by omega)
      omega
    obtain ⟨q, hq⟩ : ∃ q, x / 2 ^ n = q := ⟨_, rfl⟩
    rw [hq] at h3
    clear h h2
    go_enter Tryd.func25, Tryd.ntmps25
    go_wp2_with fail
    go_ret
    exact ⟨rfl, rfl⟩

def RetBits (w : World) (x : Int) (n : Nat) (e : Ending) (w' : World) : Prop :=
  ∃ v, e = .returned v ∧ MRow w' v (Sp.bitF 3 x n) ∧ Below w.heap.size w w'

set_option maxRecDepth 100000 in
set_option maxHeartbeats 1600000 in
theorem RBits_any (x : Int) (n : Nat) (hn : n ≤ 24) (hx0 : 0 ≤ x) (hx1 : x ≤ 16777216) (w : World) : Calls Tryd.prog 28 #[.int .i64 x, .int .i64 n] w (RetBits w x n) := by
  obtain ⟨i0, hi, hz0, hz1, hz2⟩ := info_parts infoCell
  obtain ⟨R, hRR⟩ : ∃ R, Sp.bitF 3 x n = R := ⟨_, rfl⟩
  unfold RetBits
  rw [hRR]
  have HR := Lib.hid hRR
  clear hRR
  go_enter Tryd.func28, Tryd.ntmps28
  go_wp2_with fail
  go_loopw [0, 1, 5] (fun xv nv lv wr => ∃ (f m k : Nat) (y : Int) (pre : List C3), xv = .int .i64 y ∧ nv = .int .i64 m ∧ 0 ≤ y ∧ y ≤ 16777216 ∧ m ≤ 24 ∧ m ≤ 8 * f ∧ f ≤ 3 ∧ k ≤ 3 - f ∧ Hid (pre.length = k) ∧ Hid (pre ++ Sp.bitF f y m = R) ∧ wr.ownsRow w.heap.size 34 3 lv k (flat3 pre) ∧ Below w.heap.size w wr) (fun _ nv _ _ => (intOf nv).toNat)
  case atStart => exact ⟨3, n, 0, x, [], rfl, rfl, hx0, hx1, hn, by omega, Nat.le_refl _, Nat.zero_le _, Lib.hid rfl, Lib.hid (by rw [List.nil_append]; exact HR.out), World.ownsRow_nil _ _ _ _, Below.refl _ _⟩
  case round =>
    obtain ⟨f, m, k, y, pre, rfl, rfl, hy0, hy1, hm0, hmf, hf3, hk, HPL, HQ, hRw, hb⟩ := hrel
    by_cases hz : m = 0
    · subst hz
      go_wp2_with fail
      go_ret
      have h := HQ.out
      rw [Sp.bitF_zero, List.append_nil] at h
      subst h
      refine ⟨_, rfl, ?_, hb⟩
      refine MRow.of_owns (base := w.heap.size) ?_
      rw [HPL.out]
      exact hRw
    · obtain ⟨f, rfl⟩ : ∃ j, f = j + 1 := ⟨f - 1, by omega⟩
      have hm1 : (0 : Int) < m := by omega
      have hq1 := HQ.out
      rw [Sp.bitF_next f y m hz] at hq1
      by_cases hle : m ≤ 8
      · rw [show min m 8 = m from by omega] at hq1
        obtain ⟨p0, p1⟩ := Sp.pow_bd m hle
        obtain ⟨p, hp⟩ : ∃ p, (2 : Int) ^ m = p := ⟨_, rfl⟩
        rw [hp] at p0 p1 hq1
        have HP := Lib.hid hp
        clear hp
        have hmn : min (m : Int) 8 = (m : Int) := by omega
        have hy3 : y / p ≤ 16777216 := Int.le_trans (Int.ediv_le_self _ hy0) hy1
        have hy4 : 0 ≤ y / p := Int.ediv_nonneg hy0 (by omega)
        have hyt : y.tmod p = y % p := Int.tmod_eq_emod_of_nonneg hy0
        have hyd : y.tdiv p = y / p := Int.tdiv_eq_ediv_of_nonneg hy0
        have hm3 := Int.emod_nonneg y (show p ≠ 0 by omega)
        have hm4 := Int.emod_lt_of_pos y (show 0 < p by omega)
        obtain ⟨z, hz'⟩ : ∃ z, y % p = z := ⟨_, rfl⟩
        rw [hz'] at hyt hm3 hm4 hq1
        have HQ2 := Lib.hid hq1
        clear hq1 HQ
        go_wp2_with fail
        refine (Pow_any m (by omega) _).mono ?_
        rw [HP.out]
        rintro e1 w1 ⟨rfl, rfl⟩
        go_wp2_with (at_builtin; refine wpList_append_lies _ rfl (.tmp 14) (.tmp 20) 22 rfl w.heap.size 34 i0 (.agg #[.int .i64 0, .int .i64 0, .int .i64 0]) 3 24 Tryd.underlying22 hi hz0 hz1 hz2 rfl (by decide) u5 k (flat3 pre) rfl (hRw.alloc _) ⟨wr.heap.size, 0, none⟩ 1 1 [.int .i64 z, .int .i64 1, .int .i64 p] rfl rfl (World.news_of_block (World.alloc_heap_new _ _)) (by simp [Value.oneCell']) (by decide) (by unfold maxLen; omega) (by omega) (by simp only [World.size_alloc]; have := hb.size; omega) _ rfl ?_; intro gb capb w3 hown3 hgrow3 hat3 hlt3)
        have hsz := hb.size
        have hb3 : Below w.heap.size w w3 := (hb.alloc hsz _).grown hgrow3 (by simp only [World.size_alloc]; omega) (fun j hj => (World.ownsRow.lt hRw j hj).1)
        go_roundw
        case rel => exact ⟨f, 0, k + 1, y / p, pre ++ [(z, 1, p)], rfl, by go_num, hy4, hy3, by omega, by omega, by omega, by omega, Lib.hid (by rw [List.length_append, HPL.out]; rfl), Lib.hid (by have h := HQ2.out; rw [Nat.sub_self] at h; rw [List.append_assoc]; exact h), by rw [flat3_append]; exact hown3, hb3⟩
        case measure => simp [intOf]; omega
      · rw [show min m 8 = 8 from by omega] at hq1
        simp only [show (2 : Int) ^ 8 = 256 from rfl] at hq1
        have hmn : min (m : Int) 8 = 8 := by omega
        have hy3 : y / 256 ≤ 16777216 := by omega
        have hy4 : 0 ≤ y / 256 := by omega
        have hyt : y.tmod 256 = y % 256 := Int.tmod_eq_emod_of_nonneg hy0
        have hyd : y.tdiv 256 = y / 256 := Int.tdiv_eq_ediv_of_nonneg hy0
        have hm3 : 0 ≤ y % 256 := by omega
        have hm4 : y % 256 < 256 := by omega
        obtain ⟨z, hz'⟩ : ∃ z, y % 256 = z := ⟨_, rfl⟩
        rw [hz'] at hyt hm3 hm4 hq1
        have HQ2 := Lib.hid hq1
        clear hq1 HQ
        go_wp2_with fail
        refine (Pow_any 8 (by omega) _).mono ?_
        rw [show (2 : Int) ^ 8 = 256 from rfl]
        rintro e1 w1 ⟨rfl, rfl⟩
        go_wp2_with (at_builtin; refine wpList_append_lies _ rfl (.tmp 14) (.tmp 20) 22 rfl w.heap.size 34 i0 (.agg #[.int .i64 0, .int .i64 0, .int .i64 0]) 3 24 Tryd.underlying22 hi hz0 hz1 hz2 rfl (by decide) u5 k (flat3 pre) rfl (hRw.alloc _) ⟨wr.heap.size, 0, none⟩ 1 1 [.int .i64 z, .int .i64 1, .int .i64 256] rfl rfl (World.news_of_block (World.alloc_heap_new _ _)) (by simp [Value.oneCell']) (by decide) (by unfold maxLen; omega) (by omega) (by simp only [World.size_alloc]; have := hb.size; omega) _ rfl ?_; intro gb capb w3 hown3 hgrow3 hat3 hlt3)
        have hsz := hb.size
        have hb3 : Below w.heap.size w w3 := (hb.alloc hsz _).grown hgrow3 (by simp only [World.size_alloc]; omega) (fun j hj => (World.ownsRow.lt hRw j hj).1)
        go_roundw
        case rel => exact ⟨f, m - 8, k + 1, y / 256, pre ++ [(z, 1, 256)], rfl, by go_num, hy4, hy3, by omega, by omega, by omega, by omega, Lib.hid (by rw [List.length_append, HPL.out]; rfl), Lib.hid (by have h := HQ2.out; rw [List.append_assoc]; exact h), by rw [flat3_append]; exact hown3, hb3⟩
        case measure => simp [intOf]; omega
end Go.Proofs.YtlhjkichambaoaaDoor
