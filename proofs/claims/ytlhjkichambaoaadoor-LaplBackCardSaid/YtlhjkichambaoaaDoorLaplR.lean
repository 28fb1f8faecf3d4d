/- The walks of lapl.Cost, lapl.Put and of the document's reference for layer 8. -/
import Derived.Test.YtlhjkichambaoaaDoorRangD2
import Derived.Test.YtlhjkichambaoaaDoorRangE2
import Derived.Test.YtlhjkichambaoaaDoorSpecLapl3
namespace Go.Proofs.YtlhjkichambaoaaDoor
open Go.RowKit

set_option maxHeartbeats 800000 in
theorem Cost_any (v : Int) (w : World) : Calls Tryd.prog 31 #[.int .i64 v] w fun e w' => e = .returned (.int .i64 (Sp.costOf v)) ∧ Below w.heap.size w w' := by
  obtain ⟨a, c, ok, hc⟩ : ∃ a c ok, Sp.cellOf v = (a, c, ok) := ⟨_, _, _, rfl⟩
  obtain ⟨q1, q2, q3, q4⟩ := Sp.cellOf_bd v
  rw [hc] at q1 q2 q3 q4
  have HC := Lib.hid hc
  simp only at q1 q2 q3 q4
  cases ok with
  | false =>
    have hcost := Lib.hid (show Sp.costOf v = 0 from by rw [Sp.costOf, hc]; rfl)
    clear hc
    go_enter Tryd.func31, Tryd.ntmps31
    go_wp2_with fail
    refine (Cell_at HC.out _).mono ?_
    rintro e w1 ⟨rfl, hb⟩
    go_wp2_with fail
    refine wp_loop_rounds 1 ?_
    rw [rounds_succ]
    go_wp2_with fail
    go_ret
    exact ⟨by rw [hcost.out]; rfl, hb⟩
  | true =>
    have hc8 : 8 ≤ c := (Sp.lcells_bd _ (Sp.cellOf_mem hc)).2.1
    have hcost := Lib.hid (show Sp.costOf v = Sp.costW c from by rw [Sp.costOf, hc]; rfl)
    clear hc
    go_enter Tryd.func31, Tryd.ntmps31
    go_wp2_with fail
    refine (Cell_at HC.out _).mono ?_
    rintro e w1 ⟨rfl, hb⟩
    go_wp2_with fail
    go_loop [6] (fun n => ∃ m : Nat, m ≤ 12 ∧ n = .int .i64 m ∧ Hid (∀ j, j < m → c < 32768 / 2 ^ j)) (fun n => 13 - (intOf n).toNat)
    case atStart => exact ⟨0, by omega, rfl, Lib.hid (fun j h => by omega)⟩
    case round =>
      obtain ⟨m, hm, rfl, hall⟩ := hrel
      by_cases hlt : c < 32768 / 2 ^ m
      · have hm2 : m < 12 := by
          rcases Nat.lt_or_ge m 12 with h | h
          · exact h
          · obtain rfl : m = 12 := by omega
            simp at hlt; omega
        go_wp2_with fail
        go_round
        case rel =>
          refine ⟨m + 1, by omega, by go_num, Lib.hid (fun j h => ?_)⟩
          rcases Nat.lt_or_ge j m with h' | h'
          · exact hall.out j h'
          · obtain rfl : j = m := by omega
            exact hlt
        case measure => simp [intOf]; omega
      · go_wp2_with fail
        go_ret
        exact ⟨by rw [hcost.out, Sp.costW_eq (by omega) hall.out (by omega)]; rfl, hb⟩

set_option maxHeartbeats 800000 in
theorem LPut_any (g : Nat) {b : Int} {e : Sp.Enc} (hd : e.Ok b) (hb : b ≤ 1000000000) (x : Int) (h1 : -24 ≤ x) (h2 : x ≤ 24) (v : Value) (w : World) (hB : Blk w g (encC e v) 66) (hR : Row w 5 v (bytesV e.out)) :
    Calls Tryd.prog 30 #[.pointer (some ⟨g, 0, none⟩), .int .i64 x] w fun r w' => r = .returned (.int .i64 0) ∧ ∃ v', Blk w' g (encC (e.put (Sp.cellOf x).1 (Sp.cellOf x).2.1 32768) v') 66 ∧ Row w' 5 v' (bytesV (e.put (Sp.cellOf x).1 (Sp.cellOf x).2.1 32768).out) ∧
      Kept (EncS g v) w w' ∧ (∀ k, v'.ownBlock = some k → v.ownBlock = some k ∨ w.heap.size ≤ k) := by
  obtain ⟨a, c, hci⟩ := Sp.cell_is x h1 h2
  rw [hci.eq]
  have HC := Lib.hid hci.eq
  have hcell : Sp.cellIs a c 32768 := by have := hci.a0; have := hci.c8; have := hci.ac; unfold Sp.cellIs; omega
  clear hci
  go_enter Tryd.func30, Tryd.ntmps30
  go_wp2_with fail
  refine (Cell_at HC.out _).mono ?_
  rintro r w1 ⟨rfl, hb1⟩
  have hB1 := hB.newB hb1
  have hR1 := hR.keep (Kept.of_below (S := fun _ => False) hb1) (fun _ _ h => h)
  go_wp2_with fail
  refine (Put_any g hd hb hcell v _ hB1 hR1).mono ?_
  rintro r w2 ⟨rfl, v2, hB2, hR2, hK2, hF2⟩
  go_wp2_with fail
  go_ret
  refine ⟨rfl, v2, hB2, hR2, (Kept.of_below hb1).trans hK2, fun k hk => (hF2 k hk).imp id (fun h => Nat.le_trans hb1.size h)⟩
end Go.Proofs.YtlhjkichambaoaaDoor
