/- The walks of lapl.Cost, lapl.Put and of the document's reference for layer 8. -/
import Derived.Test.YtlhjkichambaoaaRangD2
import Derived.Test.YtlhjkichambaoaaRangE2
import Derived.Test.YtlhjkichambaoaaSpecLapl3
namespace Go.Proofs.Ytlhjkichambaoaa
open Go.RowKit

set_option maxHeartbeats 800000 in
theorem Width_pos (v : Int) (k : Nat) (hv : v = k ∨ v = -(k : Int)) (h1 : 1 ≤ k) (h2 : k ≤ 24) (w : World) :
    Calls Try.prog 23 #[.int .i64 v] w fun e w' => e = .returned (.int .i64 (Sp.lw k)) ∧ w = w' := by
  rcases hv with rfl | rfl
  · go_enter Try.func23, Try.ntmps23
    have h0 : ((k : Int) == 0) = false := by simp; omega
    go_wp2_with fail
    go_loop [5, 6] (fun x m => ∃ j : Nat, 1 ≤ j ∧ j ≤ k ∧ m = .int .i64 j ∧ x = .int .i64 (Sp.hv j)) (fun _ m => k - (intOf m).toNat)
    case atStart => exact ⟨1, by omega, by omega, rfl, rfl⟩
    case round =>
      obtain ⟨j, hj1, hj2, rfl, rfl⟩ := hrel
      have hb := Sp.hv_bd j
      by_cases hlt : j < k
      · have hs := Lib.hid (Sp.hv_step hj1)
        go_wp2
        go_round
        case rel => exact ⟨j + 1, by omega, by omega, by go_num, by rw [hs.out]⟩
        case measure => simp [intOf]; omega
      · obtain rfl : j = k := by omega
        go_wp2
        all_goals
          go_ret
          exact ⟨retInt (by first | exact (Sp.lw_hv _).symm | (rw [Sp.lw_hv]; omega)), rfl⟩
  · go_enter Try.func23, Try.ntmps23
    have h0 : ((k : Int) == 0) = false := by simp; omega
    go_wp2_with fail
    go_loop [5, 6] (fun x m => ∃ j : Nat, 1 ≤ j ∧ j ≤ k ∧ m = .int .i64 j ∧ x = .int .i64 (Sp.hv j)) (fun _ m => k - (intOf m).toNat)
    case atStart => exact ⟨1, by omega, by omega, rfl, rfl⟩
    case round =>
      obtain ⟨j, hj1, hj2, rfl, rfl⟩ := hrel
      have hb := Sp.hv_bd j
      by_cases hlt : j < k
      · have hs := Lib.hid (Sp.hv_step hj1)
        go_wp2
        go_round
        case rel => exact ⟨j + 1, by omega, by omega, by go_num, by rw [hs.out]⟩
        case measure => simp [intOf]; omega
      · obtain rfl : j = k := by omega
        go_wp2
        all_goals
          go_ret
          exact ⟨retInt (by first | exact (Sp.lw_hv _).symm | (rw [Sp.lw_hv]; omega)), rfl⟩

set_option maxHeartbeats 800000 in
theorem Width_zero (w : World) : Calls Try.prog 23 #[.int .i64 0] w fun e w' => e = .returned (.int .i64 12568) ∧ w = w' := by
  go_enter Try.func23, Try.ntmps23
  go_wp2_with fail
  go_loop [3, 4] (fun n m => ∃ j : Nat, j ≤ 24 ∧ m = .int .i64 ((j : Int) + 1) ∧ n = .int .i64 (Sp.lrest j)) (fun _ m => 25 - (intOf m).toNat)
  case atStart => exact ⟨0, by omega, rfl, rfl⟩
  case round =>
    obtain ⟨j, hj, rfl, rfl⟩ := hrel
    have hb := Sp.lrest_bd j
    have hw := Sp.lw_bd (j + 1)
    by_cases hlt : j < 24
    · go_wp2_with (go_at_call 23; refine (Width_pos _ (j + 1) (.inl (by omega)) (by omega) (by omega) _).mono ?_; rintro e w' ⟨rfl, rfl⟩)
      go_round
      case rel => exact ⟨j + 1, by omega, by go_num, rfl⟩
      case measure => simp [intOf]; omega
    · obtain rfl : j = 24 := by omega
      go_wp2_with fail
      go_ret
      exact ⟨retInt Sp.lrest_24, rfl⟩

theorem Width_any (v : Int) (h1 : -24 ≤ v) (h2 : v ≤ 24) (w : World) :
    Calls Try.prog 23 #[.int .i64 v] w fun e w' => e = .returned (.int .i64 (Sp.cellOf v).2.1) ∧ w = w' := by
  by_cases h0 : v = 0
  · subst h0; rw [Sp.cell_0]; exact Width_zero w
  · by_cases hp : 0 < v
    · have := (Sp.cell_lw v.toNat (by omega) (by omega)).1
      rw [show ((v.toNat : Nat) : Int) = v from by omega] at this
      rw [this]
      exact Width_pos v v.toNat (.inl (by omega)) (by omega) (by omega) w
    · have := (Sp.cell_lw (-v).toNat (by omega) (by omega)).2
      rw [show -(((-v).toNat : Nat) : Int) = v from by omega] at this
      rw [this]
      exact Width_pos v (-v).toNat (.inr (by omega)) (by omega) (by omega) w

set_option maxHeartbeats 800000 in
theorem RCell_any (v : Int) (h1 : -24 ≤ v) (h2 : v ≤ 24) (w : World) :
    Calls Try.prog 15 #[.int .i64 v] w fun e w' => e = .returned (.agg #[.int .i64 (Sp.cellOf v).1, .int .i64 (Sp.cellOf v).2.1, .int .i64 32768]) ∧ Below w.heap.size w w' := by
  have hst := (Sp.st_cell (Sp.idxN v) (Sp.idxN_bd h1 h2)).1
  rw [Sp.ordN_idx] at hst
  rw [hst]
  have hlast := Sp.idxN_bd h1 h2
  have ho := Sp.ordN_idx v
  obtain ⟨n, hn⟩ : ∃ n, Sp.idxN v = n := ⟨_, rfl⟩
  rw [hn] at hlast ho ⊢
  have HO := Lib.hid ho
  clear hst hn ho
  go_enter Try.func15, Try.ntmps15
  go_wp2_with fail
  go_loopw [3, 4] (fun a x wr => ∃ i : Nat, i ≤ n ∧ a = .int .i64 (Sp.stN i) ∧ x = .int .i64 (Sp.ordN i) ∧ wr = w.alloc (.cells #[.int .i64 0, .int .i64 0, .int .i64 0] 42)) (fun _ x _ => n - Sp.idxN (intOf x))
  case atStart => exact ⟨0, by omega, rfl, rfl, rfl⟩
  case round =>
    obtain ⟨i, hi, rfl, rfl, rfl⟩ := hrel
    have hb := Sp.st_bd i
    have hob := Sp.ordN_bd (i := i) (by omega)
    have hcb := Sp.cellOf_bd (Sp.ordN i)
    by_cases hlt : i < n
    · have hne : Sp.ordN i ≠ v := fun e => by
        have := HO.out
        rw [← this] at e
        have := Sp.ordN_inj e
        omega
      have hnb : (Sp.ordN i != v) = true := by simp [hne]
      have hstep := Sp.ordN_step i
      by_cases hp : 0 < Sp.ordN i
      · rw [if_pos hp] at hstep
        have HS := Lib.hid hstep
        clear hstep hne
        go_wp2_with (go_at_call 23; refine (Width_any _ hob.1 hob.2 _).mono ?_; rintro e w' ⟨rfl, rfl⟩)
        go_roundw
        case rel => exact ⟨i + 1, by omega, rfl, by rw [HS.out], by first | trivial | rfl⟩
        case measure =>
          have e1 : ∀ j, Sp.idxN (Sp.ordN j) = j := fun j => Sp.ordN_inj (Sp.ordN_idx _)
          simp only [intOf]
          rw [← HS.out, e1, e1]; omega
      · rw [if_neg hp] at hstep
        have HS := Lib.hid hstep
        clear hstep hne
        go_wp2_with (go_at_call 23; refine (Width_any _ hob.1 hob.2 _).mono ?_; rintro e w' ⟨rfl, rfl⟩)
        go_roundw
        case rel => exact ⟨i + 1, by omega, rfl, by rw [HS.out], by first | trivial | rfl⟩
        case measure =>
          have e1 : ∀ j, Sp.idxN (Sp.ordN j) = j := fun j => Sp.ordN_inj (Sp.ordN_idx _)
          simp only [intOf]
          rw [← HS.out, e1, e1]; omega
    · obtain rfl : i = n := by omega
      have hnb : (Sp.ordN i != v) = false := by simp [HO.out]
      go_wp2_with (go_at_call 23; refine (Width_any v h1 h2 _).mono ?_; rintro e w' ⟨rfl, rfl⟩)
      exact bodyPost_ret (v := .agg #[.int .i64 (Sp.stN i), .int .i64 (Sp.cellOf v).2.1, .int .i64 32768]) (by simp [results, Try.results15, go_sem]) rfl ⟨rfl, by go_grown⟩

set_option maxHeartbeats 800000 in
theorem RFind_any (p : Int) (h1 : 0 ≤ p) (h2 : p < 32768) (w : World) :
    Calls Try.prog 17 #[.int .i64 p] w fun e w' => e = .returned (.int .i64 (Sp.findOf p).1) ∧ w = w' := by
  go_enter Try.func17, Try.ntmps17
  go_wp2_with fail
  go_loop [0, 3] (fun a x => ∃ i : Nat, i ≤ 48 ∧ Sp.stN i ≤ p ∧ a = .int .i64 (p - Sp.stN i) ∧ x = .int .i64 (Sp.ordN i)) (fun _ x => 49 - Sp.idxN (intOf x))
  case atStart => exact ⟨0, by omega, h1, by simp [Sp.stN], rfl⟩
  case round =>
    obtain ⟨i, hi, hle, rfl, rfl⟩ := hrel
    have hb := Sp.st_bd i
    have hob := Sp.ordN_bd (i := i) (by omega)
    have hcb := Sp.cellOf_bd (Sp.ordN i)
    have hcell := Sp.st_is (i := i) (by omega)
    by_cases hlt : (Sp.cellOf (Sp.ordN i)).2.1 ≤ p - Sp.stN i
    · have hi48 : i < 48 := by
        rcases Nat.lt_or_ge i 48 with h | h
        · exact h
        · obtain rfl : i = 48 := by omega
          have : Sp.stN 49 = Sp.stN 48 + (Sp.cellOf (Sp.ordN 48)).2.1 := rfl
          rw [Sp.st_49] at this
          omega
      have hstep := Sp.ordN_step i
      have hnx : Sp.stN (i + 1) = Sp.stN i + (Sp.cellOf (Sp.ordN i)).2.1 := rfl
      have HX := Lib.hid hnx
      clear hcell hnx
      by_cases hp : 0 < Sp.ordN i
      · rw [if_pos hp] at hstep
        have HS := Lib.hid hstep
        clear hstep
        go_wp2_with (go_at_call 23; refine (Width_any _ hob.1 hob.2 _).mono ?_; rintro e w' ⟨rfl, rfl⟩)
        go_round
        case rel => exact ⟨i + 1, by omega, by rw [HX.out]; omega, by rw [HX.out]; go_num, by rw [HS.out]⟩
        case measure =>
          have e1 : ∀ j, Sp.idxN (Sp.ordN j) = j := fun j => Sp.ordN_inj (Sp.ordN_idx _)
          simp only [intOf]
          rw [← HS.out, e1, e1]; omega
      · rw [if_neg hp] at hstep
        have HS := Lib.hid hstep
        clear hstep
        go_wp2_with (go_at_call 23; refine (Width_any _ hob.1 hob.2 _).mono ?_; rintro e w' ⟨rfl, rfl⟩)
        go_round
        case rel => exact ⟨i + 1, by omega, by rw [HX.out]; omega, by rw [HX.out]; go_num, by rw [HS.out]⟩
        case measure =>
          have e1 : ∀ j, Sp.idxN (Sp.ordN j) = j := fun j => Sp.ordN_inj (Sp.ordN_idx _)
          simp only [intOf]
          rw [← HS.out, e1, e1]; omega
    · have hf := Lib.hid (Sp.find_unique h1 h2 (Sp.cellOf_mem hcell) hle (by omega))
      clear hcell
      go_wp2_with (go_at_call 23; refine (Width_any _ hob.1 hob.2 _).mono ?_; rintro e w' ⟨rfl, rfl⟩)
      go_ret
      exact ⟨by rw [hf.out]; rfl, rfl⟩

set_option maxHeartbeats 800000 in
theorem Cost_any (v : Int) (w : World) : Calls Try.prog 10 #[.int .i64 v] w fun e w' => e = .returned (.int .i64 (Sp.costOf v)) ∧ Below w.heap.size w w' := by
  obtain ⟨a, c, ok, hc⟩ : ∃ a c ok, Sp.cellOf v = (a, c, ok) := ⟨_, _, _, rfl⟩
  obtain ⟨q1, q2, q3, q4⟩ := Sp.cellOf_bd v
  rw [hc] at q1 q2 q3 q4
  have HC := Lib.hid hc
  simp only at q1 q2 q3 q4
  cases ok with
  | false =>
    have hcost := Lib.hid (show Sp.costOf v = 0 from by rw [Sp.costOf, hc]; rfl)
    clear hc
    go_enter Try.func10, Try.ntmps10
    go_wp2_with fail
    refine (Cell_at HC.out _).mono ?_
    rintro e w1 ⟨rfl, hb⟩
    go_wp2_with fail
    refine wp_loop_rounds 1 ?_
    rw [rounds_succ]
    go_wp2_with fail
    go_ret
    exact ⟨by rw [hcost.out]; rfl, hb⟩
  | true =>
    have hc8 : 8 ≤ c := (Sp.lcells_bd _ (Sp.cellOf_mem hc)).2.1
    have hcost := Lib.hid (show Sp.costOf v = Sp.costW c from by rw [Sp.costOf, hc]; rfl)
    clear hc
    go_enter Try.func10, Try.ntmps10
    go_wp2_with fail
    refine (Cell_at HC.out _).mono ?_
    rintro e w1 ⟨rfl, hb⟩
    go_wp2_with fail
    go_loop [6] (fun n => ∃ m : Nat, m ≤ 12 ∧ n = .int .i64 m ∧ Hid (∀ j, j < m → c < 32768 / 2 ^ j)) (fun n => 13 - (intOf n).toNat)
    case atStart => exact ⟨0, by omega, rfl, Lib.hid (fun j h => by omega)⟩
    case round =>
      obtain ⟨m, hm, rfl, hall⟩ := hrel
      by_cases hlt : c < 32768 / 2 ^ m
      · have hm2 : m < 12 := by
          rcases Nat.lt_or_ge m 12 with h | h
          · exact h
          · obtain rfl : m = 12 := by omega
            simp at hlt; omega
        go_wp2_with fail
        go_round
        case rel =>
          refine ⟨m + 1, by omega, by go_num, Lib.hid (fun j h => ?_)⟩
          rcases Nat.lt_or_ge j m with h' | h'
          · exact hall.out j h'
          · obtain rfl : j = m := by omega
            exact hlt
        case measure => simp [intOf]; omega
      · go_wp2_with fail
        go_ret
        exact ⟨by rw [hcost.out, Sp.costW_eq (by omega) hall.out (by omega)]; rfl, hb⟩

set_option maxHeartbeats 800000 in
theorem LPut_any (g : Nat) {b : Int} {e : Sp.Enc} (hd : e.Ok b) (hb : b ≤ 1000000000) (x : Int) (h1 : -24 ≤ x) (h2 : x ≤ 24) (v : Value) (w : World) (hB : Blk w g (encC e v) 62) (hR : Row w 5 v (bytesV e.out)) :
    Calls Try.prog 16 #[.pointer (some ⟨g, 0, none⟩), .int .i64 x] w fun r w' => r = .returned (.int .i64 0) ∧ ∃ v', Blk w' g (encC (e.put (Sp.cellOf x).1 (Sp.cellOf x).2.1 32768) v') 62 ∧ Row w' 5 v' (bytesV (e.put (Sp.cellOf x).1 (Sp.cellOf x).2.1 32768).out) ∧
      Kept (EncS g v) w w' ∧ (∀ k, v'.ownBlock = some k → v.ownBlock = some k ∨ w.heap.size ≤ k) := by
  obtain ⟨a, c, hci⟩ := Sp.cell_is x h1 h2
  rw [hci.eq]
  have HC := Lib.hid hci.eq
  have hcell : Sp.cellIs a c 32768 := by have := hci.a0; have := hci.c8; have := hci.ac; unfold Sp.cellIs; omega
  clear hci
  go_enter Try.func16, Try.ntmps16
  go_wp2_with fail
  refine (Cell_at HC.out _).mono ?_
  rintro r w1 ⟨rfl, hb1⟩
  have hB1 := hB.newB hb1
  have hR1 := hR.keep (Kept.of_below (S := fun _ => False) hb1) (fun _ _ h => h)
  go_wp2_with fail
  refine (Put_any g hd hb hcell v _ hB1 hR1).mono ?_
  rintro r w2 ⟨rfl, v2, hB2, hR2, hK2, hF2⟩
  go_wp2_with fail
  go_ret
  refine ⟨rfl, v2, hB2, hR2, (Kept.of_below hb1).trans hK2, fun k hk => (hF2 k hk).imp id (fun h => Nat.le_trans hb1.size h)⟩
end Go.Proofs.Ytlhjkichambaoaa
