/- The walk of spoollaw07.RangGrows: whatever the cells, it returns true. -/
import Derived.Test.YtlhjkichambaoaaDoorLaw7
namespace Go.Proofs.YtlhjkichambaoaaDoor
open Go.RowKit

set_option maxRecDepth 100000 in
set_option maxHeartbeats 1600000 in
theorem RangGrows_any (v : Value) (l : List C3) (w : World) (h3 : Three w v l) : Calls Tryd.prog 4 #[v] w fun e w' => e = .returned (.bool true) ∧ Below w.heap.size w w' := by
  go_enter Tryd.func4, Tryd.ntmps4
  go_wp2_with fail
  refine (awake_any _).mono ?_
  rintro e w1 ⟨rfl, hb1⟩
  go_wp2_with fail
  refine (NewEnc_any 1000 (by decide) (by decide) _).mono ?_
  rintro e w2 ⟨g, hg, rfl, hB2, hb2⟩
  have hR2 := Row.nil w2 5
  have h12 := hb1.trans (hb2.mono hb1.size)
  go_wp2_with fail
  refine (cells_any v l _ (h3.below h12)).mono ?_
  rintro e w3 ⟨mv, rfl, hown, hb3⟩
  have hM3 := MRow.of_owns hown
  have hB3 := hB2.newB hb3
  have hR3 := Row.nil w3 5
  have h13 := h12.trans (hb3.mono h12.size)
  have hgood : ∀ c ∈ goodCells l, Sp.cellIs c.1 c.2.1 c.2.2 := fun c hc => goodCells_cell hc
  have hlen := goodCells_len l
  obtain ⟨M, hM⟩ : ∃ M, goodCells l = M := ⟨_, rfl⟩
  rw [hM] at hM3 hgood hlen
  clear hown hM
  obtain ⟨n, hn⟩ : ∃ n, M.length = n := ⟨_, rfl⟩
  have hmv : ∃ o cap, mv = .slice o n cap ∧ n ≤ cap ∧ cap ≤ 9223372036854775807 := by
    obtain ⟨o, cap, hv, h1, h2, _⟩ := hM3
    rw [hn] at hv h1
    exact ⟨o, cap, hv, h1, h2⟩
  obtain ⟨o, cap, rfl, hc1, hc2⟩ := hmv
  rw [hn] at hlen
  have HN := Lib.hid hn
  have HG := Lib.hid hgood
  clear hn hgood
  have hg1 : w.heap.size ≤ g := by have := hb1.size; omega
  clear hb1 hb2 hb3 h12 hB2 hR2 h3
  go_wp2_with fail
  go_loopw [6] (fun i wr => ∃ (k : Nat) (e : Sp.Enc) (v' : Value), k ≤ n ∧ i = .int .i64 k ∧ e.Ok (3 * k) ∧ e.Inv ∧ Blk wr g (encC e v') 66 ∧ Row wr 5 v' (bytesV e.out) ∧ MRow wr (.slice o n cap) M ∧ Below w.heap.size w wr ∧ Hid (∀ k, v'.ownBlock = some k → w.heap.size ≤ k)) (fun i _ => n - (intOf i).toNat)
  case atStart => exact ⟨0, _, _, Nat.zero_le _, rfl, Sp.Enc.new_ok 1000, Sp.Enc.new_inv 1000, hB3, hR3, hM3, h13, Lib.hid (by intro k hk; simp [Value.ownBlock] at hk)⟩
  case round =>
    clear hB3 hR3 hM3 h13
    obtain ⟨k, e, v', hk, rfl, hok, hinv, hB, hR, hM, hb, hF⟩ := hrel
    by_cases hlt : k < n
    · have hkM : k < M.length := by rw [HN.out]; exact hlt
      obtain ⟨c, hc⟩ : ∃ c, M[k] = c := ⟨_, rfl⟩
      have hMk : M[k]? = some c := by rw [List.getElem?_eq_getElem hkM, hc]
      have hcell := HG.out c (hc ▸ List.getElem_mem hkM)
      have hMM := hM
      obtain ⟨o', cap', hv, _, _, hmm⟩ := hMM
      cases hv
      obtain ⟨gm, cur, rfl, hBm, hcs⟩ := hmm (by omega)
      have hkn : k < M.length := hkM
      obtain ⟨q1, q2, q3⟩ := hcs k c hMk
      obtain ⟨x, y, t⟩ := c
      simp only at hcell q1 q2 q3
      have hu := used_bd hok
      go_wp2_with fail
      refine (EncUsed_any g hok (by omega) v' _ hB).mono ?_
      rintro e1 w1 ⟨rfl, hK1⟩
      have hB1 := hB.keep hK1 (fun h => h)
      have hR1 := hR.keep hK1 (fun _ _ h => h)
      have hM1 := hM.keep hK1 (fun _ _ _ h => h)
      have hBm1 := hBm.keep hK1 (fun h => h)
      have hb1 : Below w.heap.size w w1 := hb.trans (hK1.below (fun _ h => h.elim) hb.size)
      have p1 := (hBm1.cell (k * 3)).trans q1
      have p2 := (hBm1.cell (k * 3 + 1)).trans q2
      have p3 := (hBm1.cell (k * 3 + 2)).trans q3
      clear hB hR hM hBm hK1 hb
      go_wp2_with fail
      go_still_tail 16, (by kernel_rfl)
      change wpList _ _ _ _ _ w1.drew
      go_wp2_with fail
      refine (Put_any g hok (by omega) hcell v' _ hB1.drew hR1.drew).mono ?_
      rintro e2 w2 ⟨rfl, v2, hB2, hR2, hK2, hF2⟩
      have hS2 := encS_cell hB1 hR1
      have hM2 := hM1.drew.keep hK2 hS2
      have hBm2 := hBm1.drew.keep hK2 (hS2 _ _ hBm1)
      have hb2 : Below w.heap.size w w2 := hb1.drew.trans (encS_below hK2 hg1 hF.out hb1.size)
      have hF2' : Hid (∀ k, v2.ownBlock = some k → w.heap.size ≤ k) := Lib.hid (fun k hk => by
        rcases hF2 k hk with h | h
        · exact hF.out k h
        · have := hb1.size; simp only [World.size_drew] at h; omega)
      have p1 := (hBm2.cell (k * 3)).trans q1
      have p2 := (hBm2.cell (k * 3 + 1)).trans q2
      have p3 := (hBm2.cell (k * 3 + 2)).trans q3
      have hok2 := Sp.Enc.put_ok hok hcell
      obtain ⟨dd, _, _, _, hinv2⟩ := Sp.Enc.put_val hok hinv hcell
      have hgr := Lib.hid (fun (j : Nat) (h : t ≤ y * 2 ^ j) => Sp.put_grows hok hinv hcell j h)
      obtain ⟨ep, hep⟩ : ∃ ep, e.put x y t = ep := ⟨_, rfl⟩
      rw [hep] at hB2 hR2 hok2 hinv2 hgr
      clear hep hB1 hR1 hM1 hBm1 hb1 hK2 hF2 hS2
      obtain ⟨z1, z2, z3, z4, z5, z6⟩ := hcell
      go_wp2_with fail
      go_loop [8, 9] (fun s tv => ∃ (j : Nat) (u : Int), s = .int .i64 j ∧ tv = .int .i64 u ∧ 1 ≤ u ∧ j + u ≤ t ∧ Hid (t ≤ u * 2 ^ j)) (fun _ tv => (intOf tv).toNat)
      case atStart => exact ⟨0, t, rfl, rfl, z1, by omega, Lib.hid (by simp)⟩
      case round =>
        obtain ⟨j, u, rfl, rfl, hu1, hju, hpow⟩ := hrel
        by_cases hyu : y < u
        · go_wp2_with fail
          go_round
          case rel =>
            refine ⟨j + 1, (u + 1) / 2, by go_num, rfl, by omega, by omega, Lib.hid ?_⟩
            have h := hpow.out
            have h2 : u * 2 ^ j ≤ (2 * ((u + 1) / 2)) * 2 ^ j := Int.mul_le_mul_of_nonneg_right (by omega) (Int.le_of_lt (Int.pow_pos (by omega)))
            rw [Int.pow_succ, Int.mul_comm (2 ^ j) 2, ← Int.mul_assoc, Int.mul_comm ((u + 1) / 2) 2]
            omega
          case measure => simp [intOf]; omega
        · have hfin := hgr.out j (by
            have h := hpow.out
            have h2 : u * 2 ^ j ≤ y * 2 ^ j := Int.mul_le_mul_of_nonneg_right (by omega) (Int.le_of_lt (Int.pow_pos (by omega)))
            omega)
          have hu2 := used_bd hok2
          go_wp2_with fail
          refine (EncUsed_any g hok2 (by omega) v2 _ hB2).mono ?_
          rintro e3 w4 ⟨rfl, hK4⟩
          have hB4 := hB2.keep hK4 (fun h => h)
          have hR4 := hR2.keep hK4 (fun _ _ h => h)
          have hM4 := hM2.keep hK4 (fun _ _ _ h => h)
          have hb4 : Below w.heap.size w w4 := hb2.trans (hK4.below (fun _ h => h.elim) hb2.size)
          go_wp2_with fail
          refine (EncUsed_any g hok2 (by omega) v2 _ hB4).mono ?_
          rintro e3 w5 ⟨rfl, hK5⟩
          have hB5 := hB4.keep hK5 (fun h => h)
          have hR5 := hR4.keep hK5 (fun _ _ h => h)
          have hM5 := hM4.keep hK5 (fun _ _ _ h => h)
          have hb5 : Below w.heap.size w w5 := hb4.trans (hK5.below (fun _ h => h.elim) hb4.size)
          go_wp2_with fail
          go_roundw
          case rel => exact ⟨k + 1, ep, v2, by omega, by go_num, by have h := hok2; rw [show (3 * (k : Int) + 3) = 3 * ((k + 1 : Nat) : Int) from by omega] at h; exact h, hinv2, hB5, hR5, hM5, hb5, hF2'⟩
          case measure => simp [intOf]; omega
    · go_wp2_with fail
      go_ret
      exact ⟨rfl, hb⟩
end Go.Proofs.YtlhjkichambaoaaDoor
