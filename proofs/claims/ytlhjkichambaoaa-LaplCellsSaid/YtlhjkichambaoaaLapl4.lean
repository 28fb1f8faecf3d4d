/- The walk of the law LaplCells, and what awake answers. -/
import Derived.Test.YtlhjkichambaoaaLapl3
import Derived.Test.YtlhjkichambaoaaSpecLapl2
namespace Go.Proofs.Ytlhjkichambaoaa
open Go.RowKit

theorem Cell_at {v a c : Int} {ok : Bool} (h : Sp.cellOf v = (a, c, ok)) (w : World) :
    Calls Try.prog 9 #[.int .i64 v] w fun e W' => e = .returned (.tuple #[.int .i64 a, .int .i64 c, .bool ok]) ∧ Below w.heap.size w W' :=
  (Cell_any v w).mono fun e W' ⟨he, hb⟩ => ⟨by rw [he, h], hb⟩
theorem Find_at {p v : Int} {ok : Bool} (h : Sp.findOf p = (v, ok)) (w : World) :
    Calls Try.prog 8 #[.int .i64 p] w fun e W' => e = .returned (.tuple #[.int .i64 v, .bool ok]) ∧ Below w.heap.size w W' :=
  (Find_any p w).mono fun e W' ⟨he, hb⟩ => ⟨by rw [he, h], hb⟩

set_option maxHeartbeats 1000000 in
theorem awake08 (w : World) : Calls Try.prog 7 #[] w fun e w' => e = .returned (.bool true) ∧ Below w.heap.size w w' := by
  go_enter Try.func7, Try.ntmps7
  go_wp2_with (go_at_call 9; refine (Cell_at (v := 0) (a := 0) (c := 12568) (ok := true) (by decide +kernel) _).mono ?_; rintro e w' ⟨rfl, hb⟩)
  go_ret
  exact ⟨rfl, hb⟩

set_option maxRecDepth 100000 in
set_option maxHeartbeats 2000000 in
theorem LaplCells_any (n : Int) (h0 : 0 ≤ n) (h1 : n < 65536) (w : World) :
    Calls Try.prog 3 #[.int .u16 n] w fun e w' => e = .returned (.bool true) ∧ Below w.heap.size w w' := by
  obtain ⟨v, hv, hv1, hv2⟩ := Sp.find_in (n % 32768) (by omega) (by omega)
  obtain ⟨p, hp⟩ : ∃ p, n % 32768 = p := ⟨_, rfl⟩
  rw [hp] at hv
  have Hv := Lib.hid hv
  have hp0 : 0 ≤ p ∧ p < 32768 := by omega
  have HP := Lib.hid hp
  clear hv hp
  go_enter Try.func3, Try.ntmps3
  go_wp2_with fail
  refine (awake08 _).mono ?_
  rintro e w1 ⟨rfl, hb1⟩
  go_wp2_with fail
  rw [HP.out]
  refine (Find_at Hv.out _).mono ?_
  rintro e w2 ⟨rfl, hb2⟩
  go_wp2_with fail
  have hb12 := hb1.trans (hb2.mono hb1.size)
  clear hb1 hb2
  go_loopw [6, 7, 8] (fun n s x wr => ∃ t : Int, -24 ≤ t ∧ t ≤ 25 ∧ x = .int .i64 t ∧ n = .int .i64 (Sp.past v t) ∧ s = .int .i64 (Sp.ssumI t) ∧ Below w.heap.size w wr) (fun _ _ x _ => (25 - (intOf x)).toNat)
  case atStart => exact ⟨-24, by omega, by omega, rfl, by rw [Sp.past, if_neg (by omega)], rfl, hb12⟩
  case round =>
    obtain ⟨t, ht1, ht2, rfl, rfl, rfl, hb⟩ := hrel
    have hsb := Sp.ssumI_bd ht1 ht2
    by_cases hlt : t ≤ 24
    · obtain ⟨a, c, hc⟩ := Sp.cell_is t ht1 hlt
      obtain ⟨a', c', ok', hc'⟩ : ∃ a' c' ok', Sp.cellOf (t + 1) = (a', c', ok') := ⟨_, _, _, rfl⟩
      obtain ⟨q1, q2, q3, q4⟩ := Sp.cellOf_bd (t + 1)
      have hdn := hc.down
      have hup := hc.up
      rw [hc'] at q1 q2 q3 q4 hdn hup
      simp only at q1 q2 q3 q4 hdn hup
      have a0 := hc.a0
      have c8 := hc.c8
      have ac := hc.ac
      have Hc' := Lib.hid hc'
      clear hc'
      have hpast : Sp.past v t = 0 ∨ Sp.past v t = 1 := by unfold Sp.past; split <;> simp
      have hpb : 0 ≤ Sp.past v t ∧ Sp.past v t ≤ 1 := by omega
      clear hpast
      have Hin := Sp.ssumI_step hc ht1
      have HS := Lib.hid Hin
      clear Hin
      have hcase : (t < 0 ∧ c ≤ c') ∨ (0 ≤ t ∧ t < 24 ∧ c' ≤ c) ∨ (0 ≤ t ∧ 24 ≤ t ∧ 0 ≤ c) := by omega
      clear hdn hup
      by_cases hin : a ≤ p ∧ p < a + c
      · have hvt := Sp.cell_hit hp0.1 hp0.2 hc.eq hin.1 hin.2
        rw [Hv.out] at hvt
        obtain rfl : v = t := hvt
        obtain ⟨hin1, hin2⟩ := hin
        rcases hcase with ⟨h1, h2⟩ | ⟨h1, h2, h3⟩ | ⟨h1, h2, h3⟩
        all_goals
          go_wp2_with fail
          refine (Cell_at hc.eq _).mono ?_
          rintro e wA ⟨rfl, hA⟩
          go_wp2_with fail
          refine (Cell_at Hc'.out _).mono ?_
          rintro e wB ⟨rfl, hB⟩
          go_wp2_with fail
          have hs := hb.size
          have hs2 := hA.size
          go_roundw
          case rel => exact ⟨v + 1, by omega, by omega, rfl, by unfold Sp.past; rw [if_neg (by omega), if_pos (by omega)]; rfl, by rw [HS.out], (hb.trans (hA.mono hs)).trans (hB.mono (by omega))⟩
          case measure => simp [intOf]; omega
      · have hvt := Sp.cell_miss hp0.1 hp0.2 hc.eq hin
        rw [Hv.out] at hvt
        have hps : Sp.past v (t + 1) = Sp.past v t := by unfold Sp.past; simp only at hvt; split <;> split <;> omega
        have HP1 := Lib.hid hps
        clear hps hvt
        have hor : (p < a) ∨ (a ≤ p ∧ a + c ≤ p) := by omega
        clear hin
        rcases hcase with ⟨h1, h2⟩ | ⟨h1, h2, h3⟩ | ⟨h1, h2, h3⟩ <;> rcases hor with g1 | ⟨g1, g2⟩
        all_goals
          go_wp2_with fail
          refine (Cell_at hc.eq _).mono ?_
          rintro e wA ⟨rfl, hA⟩
          go_wp2_with fail
          refine (Cell_at Hc'.out _).mono ?_
          rintro e wB ⟨rfl, hB⟩
          go_wp2_with fail
          have hs := hb.size
          have hs2 := hA.size
          go_roundw
          case rel => exact ⟨t + 1, by omega, by omega, rfl, by rw [HP1.out], by rw [HS.out], (hb.trans (hA.mono hs)).trans (hB.mono (by omega))⟩
          case measure => simp [intOf]; omega
    · obtain rfl : t = 25 := by omega
      have hp1 : Sp.past v 25 = 1 := by rw [Sp.past, if_pos (by omega)]
      have hs1 : Sp.ssumI 25 = 32768 := Sp.ssum_49
      go_wp2_with fail
      go_ret
      exact ⟨rfl, hb⟩
end Go.Proofs.Ytlhjkichambaoaa
