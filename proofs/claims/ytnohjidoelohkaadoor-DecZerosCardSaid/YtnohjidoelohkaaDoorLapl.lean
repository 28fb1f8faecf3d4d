/- The walks of package lapl: the iterator of all cells; Cell; Find. -/
import Derived.Test.YtnohjidoelohkaaDoorBase
import Derived.Test.YtnohjidoelohkaaDoorSpecLapl
namespace Go.Proofs.YtnohjidoelohkaaDoor
open Go.RowKit Go.Shelf
attribute [local go_sem] Oper.semAt_some

set_option maxHeartbeats 400000 in
theorem width_any (k : Nat) (h1 : 1 ≤ k) (h2 : k ≤ 60) (w : World) :
    Calls Tryd.prog 65 #[.int .i64 (k : Int)] w fun e w' => e = .returned (.int .i64 (Sp.lw k)) ∧ w = w' := by
  have hk : ((k : Int) - 1).toNat = k - 1 := by omega
  have Hk := Lib.hid hk
  clear hk
  go_enter Tryd.func65, Tryd.ntmps65
  go_wp2
  all_goals
    go_ret
    refine ⟨retInt ?_, rfl⟩
    unfold Sp.lw
    omega

set_option maxHeartbeats 400000 in
theorem zero_any (w : World) : Calls Tryd.prog 64 #[] w fun e w' => e = .returned (.int .i64 12568) ∧ w = w' := by
  go_enter Tryd.func64, Tryd.ntmps64
  go_wp2
  go_loop [1, 3] (fun n i => ∃ k : Nat, k ≤ 24 ∧ i = .int .i64 k ∧ n = .int .i64 (Sp.lrest k)) (fun _ i => 24 - (intOf i).toNat)
  case atStart => exact ⟨0, by omega, rfl, rfl⟩
  case round =>
    obtain ⟨k, hk, rfl, rfl⟩ := hrel
    have hb := Sp.lrest_bd k
    have hw := Sp.lw_bd (k + 1)
    by_cases hlt : k < 24
    · go_wp2_with (go_at_call 65; refine (width_any (k + 1) (by omega) (by omega) _).mono ?_; rintro e w' ⟨rfl, rfl⟩)
      go_round
      case rel => exact ⟨k + 1, by omega, by go_num, rfl⟩
      case measure => simp [intOf]; omega
    · obtain rfl : k = 24 := by omega
      go_wp2
      go_ret
      exact ⟨retInt Sp.lrest_24, rfl⟩

theorem cells_any (w : World) : Calls Tryd.prog 53 #[] w fun e w' => e = .returned (.func (.func 63) #[] #[]) ∧ w = w' := by
  go_enter Tryd.func53, Tryd.ntmps53
  go_wp2
  go_ret
  exact ⟨rfl, rfl⟩

def encLC (c : Sp.LC) : Array Value := #[.agg #[.int .i64 c.1, .int .i64 c.2.1, .int .i64 c.2.2]]
def anyKp (_ _ : World) : Prop := True

set_option maxRecDepth 100000 in
set_option maxHeartbeats 1000000 in
theorem cells_stops (n : Nat) (hn : 1 ≤ n) (w : World) :
    SeqStopsK Fence.wide n Tryd.prog 63 #[] encLC anyKp (fun xs => xs = Sp.lcells) (fun pre => pre <+: Sp.lcells) 49 w := fun l J Jx W _ _ _ hY h0 => by
  refine callsIn_of_wp Tryd.func63 rfl trivial ?_ rfl
  simp only [Tryd.ntmps63, List.size_toArray, List.length_cons, List.length_nil, Nat.reduceAdd, Nat.reduceSub, Array.replicate_succ, Array.replicate_zero, List.push_toArray, List.append_toArray, List.nil_append, List.cons_append]
  obtain ⟨f1, t1, a1, b1, hy1, hR1⟩ := hY [] (0, 0, 12568) W h0 (by simp)
  dsimp only [encLC] at hy1
  gi_wp2_with (refine ⟨trivial, ?_⟩; gi_at_call 64; refine (callsIn_wide.2 (zero_any _)).mono ?_; rintro e w' ⟨rfl, rfl⟩)
  refine hR1.mono ?_
  rintro e W1 (⟨rfl, hJ1, _⟩ | ⟨rfl, hx1⟩)
  · gi_wp2
    gi_loopw [2, 3] (fun a k wr => ∃ m : Nat, m ≤ 24 ∧ k = .int .i64 (m + 1) ∧ a = .int .i64 (Sp.lat m) ∧ J (Sp.lpre m) wr) (fun _ k _ => 25 - (intOf k).toNat)
    case atStart => exact ⟨0, by omega, rfl, rfl, hJ1⟩
    case round =>
      obtain ⟨m, hm, rfl, rfl, hJ⟩ := hrel
      have hb := Sp.lat_bd m
      have hw := Sp.lw_bd (m + 1)
      have hl := Sp.lpre_length m
      by_cases hlt : m < 24
      · obtain ⟨f1, t1, a1, b1, hy1, hR1⟩ := hY _ ((m : Int) + 1, Sp.lat m, Sp.lw (m + 1)) wr hJ (by omega)
        dsimp only [encLC] at hy1
        gi_wp2_with (refine ⟨trivial, ?_⟩; gi_at_call 65; refine (callsIn_wide.2 (width_any (m + 1) (by omega) (by omega) _)).mono ?_; rintro e w' ⟨rfl, rfl⟩)
        refine hR1.mono ?_
        rintro e W2 (⟨rfl, hJ2, _⟩ | ⟨rfl, hx2⟩)
        · obtain ⟨f2, t2, a2, b2, hy2, hR2⟩ := hY _ (-((m : Int) + 1), Sp.lat m + Sp.lw (m + 1), Sp.lw (m + 1)) W2 hJ2 (by rw [List.length_append]; simp; omega)
          dsimp only [encLC] at hy2
          gi_wp2
          refine hR2.mono ?_
          rintro e W3 (⟨rfl, hJ3, _⟩ | ⟨rfl, hx3⟩)
          · gi_wp2
            go_roundw
            case rel => exact ⟨m + 1, by omega, by go_num, by go_num, hJ3⟩
            case measure => simp [intOf]; omega
          · gi_wp2
            refine bodyPost_ret (results_none rfl _ _ _) rfl ?_
            exact ⟨⟨_, rfl⟩, .inr ⟨_, Sp.lpre_mono (n := m + 1) (by omega), hx3⟩⟩
        · gi_wp2
          refine ⟨fun _ h => (by cases h), ?_⟩
          gi_wp2
          refine bodyPost_ret (results_none rfl _ _ _) rfl ?_
          exact ⟨⟨_, rfl⟩, .inr ⟨_, (Sp.lpre_half m).trans (Sp.lpre_mono (by omega)), hx2⟩⟩
      · obtain rfl : m = 24 := by omega
        gi_wp2
        go_end0
        exact ⟨⟨_, rfl⟩, .inl ⟨_, rfl, hJ⟩⟩
  · gi_wp2
    refine bodyPost_ret (results_none rfl _ _ _) rfl ?_
    exact ⟨⟨_, rfl⟩, .inr ⟨_, Sp.lpre_mono (n := 0) (by omega), hx1⟩⟩
end Go.Proofs.YtnohjidoelohkaaDoor
