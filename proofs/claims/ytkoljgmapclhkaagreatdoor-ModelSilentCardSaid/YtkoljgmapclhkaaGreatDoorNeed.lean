/- The walks of seg.heads, frag.Pages, seg.Need. -/
import Derived.Test.YtkoljgmapclhkaaGreatDoorSpecNeed
set_option linter.unusedSimpArgs false
set_option linter.unusedVariables false
namespace Go.Proofs.YtkoljgmapclhkaaGreatDoor
open Go.RowKit

theorem heads_any (i : Nat) (hi : i ≤ 1000000000) (w : World) : Calls Tryz.prog 153 #[.int .i64 i] w fun r w' => r = .returned (.bool (decide (i % 16 = 0))) ∧ w = w' := by
  have h0 : (0 : Int) ≤ i := Int.natCast_nonneg _
  have e : (i : Int).tmod 16 = ((i % 16 : Nat) : Int) := by rw [Int.tmod_eq_emod_of_nonneg h0]; omega
  obtain ⟨m, hm⟩ : ∃ m, i % 16 = m := ⟨_, rfl⟩
  rw [hm] at e ⊢
  have hm16 : m < 16 := by omega
  go_enter Tryz.func153, Tryz.ntmps153
  go_wp2
  go_ret
  exact ⟨retBool (by rw [Bool.eq_iff_iff]; simp), rfl⟩
theorem Pages_any (s : Nat) (hs : s ≤ 1000000000) (w : World) : Calls Tryz.prog 152 #[.int .i64 s] w fun r w' => r = .returned (.int .i64 (piecesP s : Nat)) ∧ w = w' := by
  by_cases h1 : s < 1
  · have e : piecesP s = 0 := by unfold piecesP; rw [if_pos (.inl h1)]
    have h1' : (s : Int) < 1 := by omega
    rw [e]
    go_enter Tryz.func152, Tryz.ntmps152
    go_wp2
    go_ret
    exact ⟨rfl, rfl⟩
  · by_cases h2 : 4096 < s
    · have e : piecesP s = 0 := by unfold piecesP; rw [if_pos (.inr h2)]
      have h1' : ¬ (s : Int) < 1 := by omega
      have h2' : (4096 : Int) < s := by omega
      rw [e]
      go_enter Tryz.func152, Tryz.ntmps152
      go_wp2
      go_ret
      exact ⟨rfl, rfl⟩
    · have e : piecesP s = (s + 48) / 49 := by unfold piecesP; rw [if_neg (by omega)]
      have h1' : ¬ (s : Int) < 1 := by omega
      have h2' : ¬ (4096 : Int) < s := by omega
      have e2 : ((s : Int) + 48).tdiv 49 = ((s + 48) / 49 : Nat) := by rw [Int.tdiv_eq_ediv_of_nonneg (by omega)]; omega
      rw [e]
      obtain ⟨q, hq⟩ : ∃ q, (s + 48) / 49 = q := ⟨_, rfl⟩
      rw [hq] at e2 ⊢
      have hq2 : q ≤ 100 := by omega
      go_enter Tryz.func152, Tryz.ntmps152
      go_wp2
      go_ret
      exact ⟨retInt (by omega), rfl⟩
theorem Need_any (i s : Nat) (hi : i ≤ 1000000) (hs : s ≤ 1000000) (w : World) : Calls Tryz.prog 124 #[.int .i64 i, .int .i64 s] w fun r w' => r = .returned (.int .i64 (needE i s : Nat)) ∧ w = w' := by
  have hp : piecesP s ≤ 100 := by unfold piecesP; split <;> omega
  have hP := fun w => Pages_any s (by omega) w
  unfold needE
  obtain ⟨n, hn⟩ : ∃ n, piecesP s = n := ⟨_, rfl⟩
  rw [hn] at hp ⊢
  simp only [hn] at hP
  have HP := Lib.hid hP
  clear hP hn
  have hi0 : ¬ (i : Int) < 0 := by omega
  have hle := needP_le n i
  obtain ⟨T, hT⟩ : ∃ T, needP i n = T := ⟨_, rfl⟩
  rw [hT] at hle ⊢
  have HT := Lib.hid hT
  clear hT
  by_cases h0 : n = 0
  · subst h0
    obtain rfl : T = 0 := by rw [← HT.out]; rfl
    go_enter Tryz.func124, Tryz.ntmps124
    go_wp2_with fail
    refine (HP.out _).mono ?_
    rintro e w1 ⟨rfl, rfl⟩
    go_wp2_with fail
    go_ret
    exact ⟨rfl, rfl⟩
  · have hn0 : ¬ (n : Int) = 0 := by omega
    have hq1 : ((n : Int) == 0) = false := by simp; omega
    have hq2 : decide ((i : Int) < 0) = false := by simp
    go_enter Tryz.func124, Tryz.ntmps124
    go_wp2_with fail
    refine (HP.out _).mono ?_
    rintro e w1 ⟨rfl, rfl⟩
    go_wp2_with fail
    go_loopw [5, 6, 7] (fun a o x wr => ∃ (m k j : Nat), a = .int .i64 m ∧ o = .int .i64 k ∧ x = .int .i64 j ∧ m ≤ n ∧ k ≤ T ∧ j ≤ i + k ∧ Hid (k + needP j m = T) ∧ wr = w) (fun a o _ _ => T - (intOf o).toNat)
    case atStart => exact ⟨n, 0, i, rfl, rfl, rfl, Nat.le_refl _, Nat.zero_le _, Nat.le_refl _, Lib.hid (by rw [HT.out, Nat.zero_add]), rfl⟩
    case round =>
      obtain ⟨m, k, j, rfl, rfl, rfl, hm, hk, hj, HS, rfl⟩ := hrel
      by_cases hz : m = 0
      · subst hz
        obtain rfl : k = T := by have := HS.out; rw [needP] at this; exact this
        go_wp2_with fail
        go_ret
        exact ⟨rfl, rfl⟩
      · have hm0 : (0 : Int) < m := by omega
        obtain ⟨q, rfl⟩ : ∃ q, m = q + 1 := ⟨m - 1, by omega⟩
        by_cases hh : j % 16 = 0
        · have e := needP_head hh (show 0 < q + 1 by omega)
          have hkT : k < T := by have := HS.out; have := needP_pos (i := j + 1) (show 0 < q + 1 by omega); omega
          have HS2 : Hid (k + 1 + needP (j + 1) (q + 1) = T) := Lib.hid (by have := HS.out; omega)
          clear HS e HT
          have hj16 : j ≤ 1000200 := by omega
          go_wp2_with fail
          refine (heads_any j (by omega) _).mono ?_
          rintro e w1 ⟨rfl, rfl⟩
          rw [decide_eq_true hh]
          go_wp2_with fail
          go_roundw
          case rel => exact ⟨q + 1, k + 1, j + 1, by go_num, by go_num, by go_num, hm, hkT, by omega, HS2, by first | rfl | trivial⟩
          case measure => simp [intOf]; omega
        · have e := needP_data (n := q) hh
          have hkT : k < T := by have := HS.out; omega
          have HS2 : Hid (k + 1 + needP (j + 1) q = T) := Lib.hid (by have := HS.out; omega)
          clear HS e HT
          have hj16 : j ≤ 1000200 := by omega
          go_wp2_with fail
          refine (heads_any j (by omega) _).mono ?_
          rintro e w1 ⟨rfl, rfl⟩
          rw [decide_eq_false hh]
          go_wp2_with fail
          go_roundw
          case rel => exact ⟨q, k + 1, j + 1, by go_num, by go_num, by go_num, by omega, hkT, by omega, HS2, by first | rfl | trivial⟩
          case measure => simp [intOf]; omega
end Go.Proofs.YtkoljgmapclhkaaGreatDoor
