/- The walk of the law LaplTakes. -/
import Derived.Test.YtlhjkichambaoaaRangD2
namespace Go.Proofs.Ytlhjkichambaoaa
open Go.RowKit

set_option maxHeartbeats 1000000 in
theorem awake08 (w : World) : Calls Try.prog 7 #[] w fun e w' => e = .returned (.bool true) ∧ Below w.heap.size w w' := by
  go_enter Try.func7, Try.ntmps7
  go_wp2_with (go_at_call 9; refine (Cell_at (v := 0) (a := 0) (c := 12568) (ok := true) (by decide +kernel) _).mono ?_; rintro e w' ⟨rfl, hb⟩)
  go_ret
  exact ⟨rfl, hb⟩

set_option maxRecDepth 100000 in
set_option maxHeartbeats 2000000 in
theorem LaplTakes_any (s : ByteArray) (n : Int) (h0 : 0 ≤ n) (h1 : n < 256) (w : World) :
    Calls Try.prog 5 #[.string s, .int .u8 n] w fun e w' => e = .returned (.bool true) ∧ Below w.heap.size w w' := by
  by_cases hs : s.size ≤ 300
  · go_enter Try.func5, Try.ntmps5
    go_wp2_with fail
    refine (awake08 _).mono ?_
    rintro e w1 ⟨rfl, hb1⟩
    go_wp2_with fail
    refine (NewDec_any s _).mono ?_
    rintro e w2 ⟨ga, hga, rfl, hA, hb2⟩
    go_wp2_with fail
    refine (NewDec_any s _).mono ?_
    rintro e w3 ⟨gb, hgb, rfl, hB, hb3⟩
    have hne : ga < gb := Nat.lt_of_lt_of_le hA.lt hgb
    have hA3 := hA.newB hb3
    have hs1 := hb1.size
    have hs2 := hb2.size
    have hb13 : Below w.heap.size w w3 := (hb1.trans (hb2.mono hs1)).trans (hb3.mono (by omega))
    clear hA hb2 hb3 hb1
    have hga' : w.heap.size ≤ ga := by omega
    go_wp2_with fail
    go_loopw [7] (fun i wr => ∃ (k : Nat) (d : Sp.Dec), k ≤ 30 ∧ i = .int .i64 k ∧ d.Ok (4 + 3 * k) ∧ Blk wr ga (decC d) 53 ∧ Blk wr gb (decC d) 53 ∧ Below w.heap.size w wr) (fun i _ => 30 - (intOf i).toNat)
    case atStart => exact ⟨0, _, by omega, rfl, Sp.Dec.new_ok s, hA3, hB, hb13⟩
    case round =>
      obtain ⟨k, d, hk, rfl, hd, hBa, hBb, hb⟩ := hrel
      by_cases hlt : (k : Int) < n % 30
      · obtain ⟨v, a, c, hv, _, _, hci, hD, h1, h2⟩ := ltake_cell hd
        have hd2 : (ltakeD d).Ok (4 + 3 * ((k + 1 : Nat) : Int)) := by
          have := Sp.Dec.take_ok hd hci
          rw [← hD] at this
          rwa [show (4 : Int) + 3 * ((k + 1 : Nat) : Int) = 4 + 3 * k + 3 from by omega]
        clear hD hci
        have HV := Lib.hid hv
        clear hv
        go_wp2_with fail
        refine (LTake_any ga hd (by omega) _ hBa).mono ?_
        rw [HV.out]
        rintro e wA ⟨rfl, hBa2, hKa⟩
        have hBb2 := hBb.keep hKa (by omega)
        go_wp2_with fail
        refine (LTake_any gb hd (by omega) _ hBb2).mono ?_
        rw [HV.out]
        rintro e wB ⟨rfl, hBb3, hKb⟩
        have hBa3 := hBa2.keep hKb (by omega)
        go_wp2_with fail
        refine (DecUsed_any ga hd2 (by omega) _ hBa3).mono ?_
        rintro e wC ⟨rfl, hKc⟩
        go_wp2_with fail
        refine (DecUsed_any gb hd2 (by omega) _ (hBb3.keep hKc (fun h => h))).mono ?_
        rintro e wD ⟨rfl, hKd⟩
        go_wp2_with fail
        go_roundw
        case rel =>
          have q1 := hb.size
          have q2 := hKa.size
          have q3 := hKb.size
          have q4 := hKc.size
          refine ⟨k + 1, _, by omega, by go_num, hd2, (hBa3.keep hKc (fun h => h)).keep hKd (fun h => h), (hBb3.keep hKc (fun h => h)).keep hKd (fun h => h), ?_⟩
          exact (((hb.trans (hKa.below (by intro i h; omega) q1)).trans (hKb.below (by intro i h; omega) (by omega))).trans (hKc.below (by intro i h; exact h.elim) (by omega))).trans (hKd.below (by intro i h; exact h.elim) (by omega))
        case measure => simp [intOf]; omega
      · go_wp2_with fail
        go_ret
        exact ⟨rfl, hb⟩
  · go_enter Try.func5, Try.ntmps5
    go_wp2_with fail
    refine (awake08 _).mono ?_
    rintro e w1 ⟨rfl, hb1⟩
    go_wp2_with fail
    refine (awake08 _).mono ?_
    rintro e w2 ⟨rfl, hb2⟩
    go_wp2_with fail
    go_ret
    exact ⟨rfl, hb1.trans (hb2.mono hb1.size)⟩
end Go.Proofs.Ytlhjkichambaoaa
