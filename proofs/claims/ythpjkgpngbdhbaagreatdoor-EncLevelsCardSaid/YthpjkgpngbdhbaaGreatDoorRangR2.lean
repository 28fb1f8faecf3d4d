/- The walks of the range coder's reference (spoolref07): its beginning, what it has used, what a cell is; lengths and powers. -/
import Derived.Test.YthpjkgpngbdhbaaGreatDoorRangR
import Derived.Test.YthpjkgpngbdhbaaGreatDoorShelf
set_option linter.unusedSimpArgs false
set_option linter.unusedVariables false
namespace Go.Proofs.YthpjkgpngbdhbaaGreatDoor
open Go.RowKit

theorem Row.lit (w : World) (e : TypeId) (l : List Value) (B : Nat) (hB : B = w.heap.size) (hn : l.length ≤ maxLen) : Row (w.alloc (.cells l.toArray e)) e (.slice (some ⟨B, 0, none⟩) l.length l.length) l := by
  subst hB
  have h := World.ownsRow_lit (base := 0) (e := e) (size := 1) w l.toArray l.length (Nat.zero_le _) hn (by simp)
  simpa using Row.mk h
theorem belowN {B : Nat} {a w : World} (h : Below B a w) (n : Nat) : Below B a (w.drewN n) := ⟨h.os, h.tape, h.output, h.size, h.block⟩

theorem R7Length_any (x : Int) (h0 : 0 ≤ x) (h1 : x ≤ 4294967295) (w : World) :
    Calls Tryz.prog 82 #[.int .i64 x] w fun e w' => e = .returned (.int .i64 (Lib.bitLen x.toNat : Int)) ∧ w = w' := by
  have hN := Lib.bitLen_le x.toNat 32 (by omega) (by omega)
  obtain ⟨N, hNN⟩ : ∃ N, Lib.bitLen x.toNat = N := ⟨_, rfl⟩
  rw [hNN] at hN ⊢
  have HN := Lib.hid hNN
  clear hNN
  go_enter Tryz.func82, Tryz.ntmps82
  go_wp2
  go_loop [0, 3] (fun a n => ∃ (y k : Nat), a = .int .i64 y ∧ n = .int .i64 k ∧ y ≤ 4294967295 ∧ k ≤ N ∧ Hid (k + Lib.bitLen y = N)) (fun a _ => (intOf a).toNat)
  case atStart => exact ⟨x.toNat, 0, by rw [Int.toNat_of_nonneg h0], rfl, by omega, Nat.zero_le _, Lib.hid (by rw [Nat.zero_add]; exact HN.out)⟩
  case round =>
    obtain ⟨y, k, rfl, rfl, hy, hk, hs⟩ := hrel
    by_cases hz : y = 0
    · subst hz
      go_wp2
      go_ret
      have := hs.out
      simp only [show Lib.bitLen 0 = 0 from by decide, Nat.add_zero] at this
      subst this
      exact ⟨rfl, rfl⟩
    · have hstep := Lib.hid (Lib.bitLen_half y hz (by omega))
      go_wp2
      go_round
      case rel => exact ⟨y / 2, k + 1, by go_num, by go_num, by omega, by have := hs.out; have := hstep.out; omega, Lib.hid (by have := hs.out; have := hstep.out; omega)⟩
      case measure => simp [intOf]; omega

theorem R7Pow_any (n : Nat) (h1 : n ≤ 40) (w : World) :
    Calls Tryz.prog 84 #[.int .i64 n] w fun e w' => e = .returned (.int .i64 (2 ^ n : Int)) ∧ w = w' := by
  have hpow : ∀ k, k ≤ 40 → (1 : Int) ≤ 2 ^ k ∧ (2 : Int) ^ k ≤ 1099511627776 := by
    intro k hk
    have h2 : (2 : Int) ^ k ≤ 2 ^ 40 := by exact_mod_cast (Nat.pow_le_pow_right (by omega : 0 < 2) hk)
    have h3 : (0 : Int) < 2 ^ k := Int.pow_pos (by omega)
    omega
  have HP := Lib.hid hpow
  clear hpow
  go_enter Tryz.func84, Tryz.ntmps84
  go_wp2
  go_loop [3, 4] (fun p i => ∃ (k : Nat) (q : Int), k ≤ n ∧ i = .int .i64 k ∧ p = .int .i64 q ∧ Hid (q = 2 ^ k)) (fun _ i => n - (intOf i).toNat)
  case atStart => exact ⟨0, 1, Nat.zero_le _, rfl, rfl, Lib.hid rfl⟩
  case round =>
    obtain ⟨k, q, hk, rfl, rfl, hq⟩ := hrel
    have hb := HP.out k (by omega)
    rw [← hq.out] at hb
    by_cases hlt : k < n
    · go_wp2
      go_round
      case rel => exact ⟨k + 1, 2 * q, by omega, by go_num, rfl, Lib.hid (by rw [hq.out, Int.pow_succ]; omega)⟩
      case measure => simp [intOf]; omega
    · obtain rfl : k = n := by omega
      go_wp2
      go_ret
      exact ⟨retInt hq.out, rfl⟩

theorem RNewEnc_any (w : World) :
    Calls Tryz.prog 32 #[] w (RetREnc w ([0, 0, 0, 0], 4294967295)) := by
  go_enter Tryz.func32, Tryz.ntmps32
  go_wp2
  obtain ⟨WF, hWF⟩ : ∃ WF, (w.alloc (.cells #[.slice (some ⟨w.heap.size + 1, 0, none⟩) 4 4, .int .i64 4294967295] 73)).alloc (.cells #[.int .i64 0, .int .i64 0, .int .i64 0, .int .i64 0] 3) = WF := ⟨_, rfl⟩
  have bF : Blk WF w.heap.size #[.slice (some ⟨w.heap.size + 1, 0, none⟩) 4 4, .int .i64 4294967295] 73 := by rw [← hWF]; exact (Blk.new _ _ _).alloc _
  have c0' := bF.cell 0
  have c1' := bF.cell 1
  simp only [List.getElem?_toArray, List.getElem?_cons_zero, List.getElem?_cons_succ] at c0' c1'
  have hRF : Row WF 3 (.slice (some ⟨w.heap.size + 1, 0, none⟩) 4 4) (intsV [0, 0, 0, 0]) := by
    rw [← hWF]
    exact Row.lit _ _ (intsV [0, 0, 0, 0]) _ (by simp) (by decide)
  have hBF : Below w.heap.size w WF := by rw [← hWF]; go_grown
  rw [hWF]
  exact bodyPost_ret (v := .agg #[.slice (some ⟨w.heap.size + 1, 0, none⟩) 4 4, .int .i64 4294967295]) (by simp [results, Tryz.results32, go_sem, c0', c1']) rfl ⟨_, rfl, hRF, hBF, by intro k hk; simp [Value.ownBlock] at hk; omega⟩

theorem RUsed_any (lv : Value) (l : List Int) (r : Int) (hl : (l.length : Int) ≤ 1000000000000) (h0 : 0 ≤ r) (h1 : r ≤ 4294967295) (w : World) (hv : ∃ o c, lv = .slice o l.length c) :
    Calls Tryz.prog 38 #[.agg #[lv, .int .i64 r]] w fun e w' => e = .returned (.int .i64 (8 * ((l.length : Int) - 4) + 32 - (Lib.bitLen r.toNat : Int))) ∧ Below w.heap.size w w' := by
  obtain ⟨o, c, rfl⟩ := hv
  have hN := Lib.bitLen_le r.toNat 32 (by omega) (by omega)
  have hBB := Blk.new w #[.slice o l.length c, .int .i64 r] 73
  have d0 := hBB.cell 0
  have d1 := hBB.cell 1
  simp only [List.getElem?_toArray, List.getElem?_cons_zero, List.getElem?_cons_succ] at d0 d1
  go_enter Tryz.func38, Tryz.ntmps38
  go_wp2
  go_quiet ((go_at_call 82; exact quiet_same (R7Length_any _ h0 h1 _)))
  go_wp2
  go_ret
  exact ⟨retInt (by omega), belowN (Below.alloc (Below.refl _ _) (Nat.le_refl _) _) _⟩
end Go.Proofs.YthpjkgpngbdhbaaGreatDoor
