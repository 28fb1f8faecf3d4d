/- The walks of the laws LaplPlays and LaplSides. -/
import Derived.Test.YtlhjkichambaoaaLaplR
import Derived.Test.YtlhjkichambaoaaLaplT
namespace Go.Proofs.Ytlhjkichambaoaa
open Go.RowKit

theorem cellOf_out {v : Int} (h : v < -24 ∨ 24 < v) : Sp.cellOf v = (0, 0, false) := by
  unfold Sp.cellOf
  split
  · rename_i c hc
    have h1 := Sp.lcells_v c (List.mem_of_find?_eq_some hc)
    have h2 := List.find?_some hc
    simp only [beq_iff_eq] at h2
    omega
  · rfl
theorem findOf_out {p : Int} (h : p < 0 ∨ 32768 ≤ p) : Sp.findOf p = (0, false) := by
  unfold Sp.findOf
  split
  · rename_i c hc
    have h1 := Sp.lcells_bd c (List.mem_of_find?_eq_some hc)
    have h2 := List.find?_some hc
    simp only [Sp.inCell, Bool.and_eq_true, decide_eq_true_eq] at h2
    omega
  · rfl
theorem sides : ∀ k < 25, 1 ≤ k → (Sp.cellOf (k : Nat)).2.2 = true ∧ Sp.cellOf (-((k : Nat) : Int)) = ((Sp.cellOf (k : Nat)).1 + (Sp.cellOf (k : Nat)).2.1, (Sp.cellOf (k : Nat)).2.1, true) ∧
    (Sp.cellOf ((k : Nat) - 1 : Int)).2.2 = true ∧ (Sp.cellOf (k : Nat)).2.1 ≤ (Sp.cellOf ((k : Nat) - 1 : Int)).2.1 ∧ Sp.costOf (k : Nat) = Sp.costOf (-((k : Nat) : Int)) ∧ Sp.costOf ((k : Nat) - 1 : Int) ≤ Sp.costOf (k : Nat) := by decide +kernel

set_option maxRecDepth 100000 in
set_option maxHeartbeats 1600000 in
theorem LaplSides_any (n : Int) (h0 : 0 ≤ n) (h1 : n < 256) (w : World) :
    Calls Try.prog 4 #[.int .u8 n] w fun e w' => e = .returned (.bool true) ∧ Below w.heap.size w w' := by
  obtain ⟨k, hk⟩ : ∃ k : Nat, 1 + n % 24 = k := ⟨(1 + n % 24).toNat, by omega⟩
  obtain ⟨s1, s2, s3, s4, s5, s6⟩ := sides k (by omega) (by omega)
  obtain ⟨a, c, ok, hc⟩ : ∃ a c ok, Sp.cellOf k = (a, c, ok) := ⟨_, _, _, rfl⟩
  obtain ⟨a2, c2, ok2, hc2⟩ : ∃ a c ok, Sp.cellOf ((k : Int) - 1) = (a, c, ok) := ⟨_, _, _, rfl⟩
  have hb := Sp.cellOf_bd k
  rw [hc] at s1 s2 s4 hb
  rw [hc2] at s3 s4
  simp only at s1 s2 s3 s4 hb
  subst s1 s3
  have H1 := Lib.hid hc
  have H2 := Lib.hid s2
  have H3 := Lib.hid hc2
  obtain ⟨x, hx⟩ : ∃ x, Sp.costOf k = x := ⟨_, rfl⟩
  obtain ⟨y, hy⟩ : ∃ y, Sp.costOf ((k : Int) - 1) = y := ⟨_, rfl⟩
  rw [hx] at s5 s6
  rw [hy] at s6
  have HX := Lib.hid hx
  have HY := Lib.hid hy
  have HZ := Lib.hid s5.symm
  have HK := Lib.hid hk
  clear hc hc2 s2 hx hy s5
  have hkb : 1 ≤ k ∧ k ≤ 24 := by omega
  clear hk
  go_enter Try.func4, Try.ntmps4
  go_wp2_with fail
  refine (awake08 _).mono ?_
  rintro e w1 ⟨rfl, g1⟩
  go_wp2_with fail
  rw [HK.out]
  refine (Cell_at H1.out _).mono ?_
  rintro e w2 ⟨rfl, g2⟩
  go_wp2_with fail
  refine (Cell_at H2.out _).mono ?_
  rintro e w3 ⟨rfl, g3⟩
  go_wp2_with fail
  refine (Cell_at H3.out _).mono ?_
  rintro e w4 ⟨rfl, g4⟩
  go_wp2_with fail
  refine (Cost_any _ _).mono ?_
  rw [HX.out]
  rintro e w5 ⟨rfl, g5⟩
  go_wp2_with fail
  refine (Cost_any _ _).mono ?_
  rw [HZ.out]
  rintro e w6 ⟨rfl, g6⟩
  go_wp2_with fail
  refine (Cost_any _ _).mono ?_
  rw [HX.out]
  rintro e w7 ⟨rfl, g7⟩
  go_wp2_with fail
  refine (Cost_any _ _).mono ?_
  rw [HY.out]
  rintro e w8 ⟨rfl, g8⟩
  go_wp2_with fail
  go_ret
  have e1 := g1.size
  have e2 := g2.size
  have e3 := g3.size
  have e4 := g4.size
  have e5 := g5.size
  have e6 := g6.size
  have e7 := g7.size
  refine ⟨rfl, ?_⟩
  exact ((((((g1.trans (g2.mono e1)).trans (g3.mono (by omega))).trans (g4.mono (by omega))).trans (g5.mono (by omega))).trans (g6.mono (by omega))).trans (g7.mono (by omega))).trans (g8.mono (by omega))

set_option maxHeartbeats 400000 in
theorem LTakeNil_any (w : World) : Calls Try.prog 12 #[.pointer none] w fun e w' => e = .returned (.tuple #[.int .i64 0, .int .i64 1]) ∧ w = w' := by
  have hAt : ∀ w, Calls Try.prog 20 #[.pointer none, .int .i64 32768] w fun e w' => e = .returned (.tuple #[.int .i64 0, .int .i64 1]) ∧ w = w' := by
    intro w
    go_enter Try.func20, Try.ntmps20
    go_wp2
    go_ret2
    exact ⟨rfl, rfl⟩
  have HA := Lib.hid hAt
  clear hAt
  go_enter Try.func12, Try.ntmps12
  go_wp2_with fail
  refine (HA.out _).mono ?_
  rintro e w1 ⟨rfl, rfl⟩
  go_wp2_with fail
  go_ret2
  exact ⟨rfl, rfl⟩
set_option maxHeartbeats 400000 in
theorem LPutNo_any (p : Value) (x : Int) (h : x < -24 ∨ 24 < x) (w : World) :
    Calls Try.prog 16 #[p, .int .i64 x] w fun r w' => r = .returned (.int .i64 1) ∧ Below w.heap.size w w' := by
  have HC := Lib.hid (cellOf_out h)
  clear h
  go_enter Try.func16, Try.ntmps16
  go_wp2_with fail
  refine (Cell_at HC.out _).mono ?_
  rintro r w1 ⟨rfl, hb1⟩
  go_wp2_with fail
  go_ret
  exact ⟨rfl, hb1⟩

set_option maxRecDepth 100000 in
set_option maxHeartbeats 3200000 in
theorem LaplPlays_any (v p : Int) (s : ByteArray) (w : World) :
    Calls Try.prog 6 #[.int .i64 v, .int .i64 p, .string s] w fun e w' => e = .returned (.bool true) ∧ Below w.heap.size w w' := by
  by_cases hs : s.size ≤ 300
  · obtain ⟨x, is, hf, hfx⟩ : ∃ x is, Sp.findOf p = (x, is) ∧ ((is = true ∧ 0 ≤ p ∧ p < 32768) ∨ (is = false ∧ x = 0 ∧ (p < 0 ∨ 32768 ≤ p))) := by
      by_cases hp : 0 ≤ p ∧ p < 32768
      · obtain ⟨x, h, _, _⟩ := Sp.find_in p hp.1 hp.2
        exact ⟨x, true, h, .inl ⟨rfl, hp.1, hp.2⟩⟩
      · exact ⟨0, false, findOf_out (by omega), .inr ⟨rfl, rfl, by omega⟩⟩
    have HF := Lib.hid hf
    clear hf
    have hdn := Sp.Dec.new_ok s
    obtain ⟨tv, _, _, htv, _, _, _, _, ht1, ht2⟩ := ltake_cell hdn
    have HT := Lib.hid htv
    clear htv
    by_cases hv : -24 ≤ v ∧ v ≤ 24
    · obtain ⟨hv1, hv2⟩ := hv
      obtain ⟨a, c, hci⟩ := Sp.cell_is v hv1 hv2
      have a0 := hci.a0
      have c8 := hci.c8
      have ac := hci.ac
      have HC := Lib.hid hci.eq
      clear hci
      rcases hfx with ⟨rfl, hp1, hp2⟩ | ⟨rfl, rfl, hp | hp⟩
      all_goals
        go_enter Try.func6, Try.ntmps6
        go_wp2_with fail
        refine (awake08 _).mono ?_
        rintro e w1 ⟨rfl, g1⟩
        go_wp2_with fail
        refine (Cell_at HC.out _).mono ?_
        rintro e w2 ⟨rfl, g2⟩
        go_wp2_with fail
        refine (Find_at HF.out _).mono ?_
        rintro e w3 ⟨rfl, g3⟩
        go_wp2_with fail
        refine (NewEnc_any 9 (by omega) (by omega) _).mono ?_
        rintro e w4 ⟨ge, hge, rfl, hE, g4⟩
        go_wp2_with fail
        refine (RCell_any v hv1 hv2 _).mono ?_
        rw [HC.out]
        rintro e w5 ⟨rfl, g5⟩
        have e1 := g1.size
        have e2 := g2.size
        have e3 := g3.size
        have e4 := g4.size
        have e5 := g5.size
        have g15 : Below w.heap.size w w5 := (((g1.trans (g2.mono e1)).trans (g3.mono (by omega))).trans (g4.mono (by omega))).trans (g5.mono (by omega))
        have hE5 := hE.newB g5
        clear hE g1 g2 g3 g4 g5
        have hge' : w.heap.size ≤ ge := by omega
        clear e1 e2 e3 e4 e5 hge
        go_wp2_with fail
        have hloop : ∀ m : Nat, 0 ≤ (32768 : Int) / 2 ^ m ∧ (32768 : Int) / 2 ^ m ≤ 32768 := fun m => ⟨Int.ediv_nonneg (by omega) (Int.pow_nonneg (by omega)), Int.ediv_le_self _ (by omega)⟩
        have hstep : ∀ m : Nat, (32768 : Int) / 2 ^ m / 2 = 32768 / 2 ^ (m + 1) := fun m => by rw [Int.pow_succ, Int.ediv_ediv_of_nonneg (Int.pow_nonneg (by omega))]
        have HL := Lib.hid hloop
        have HS := Lib.hid hstep
        clear hloop hstep
        go_loop [16, 17] (fun n t => ∃ m : Nat, m ≤ 12 ∧ n = .int .i64 m ∧ t = .int .i64 (32768 / 2 ^ m) ∧ Hid (∀ j, j < m → c < 32768 / 2 ^ j)) (fun n _ => 13 - (intOf n).toNat)
        case atStart => exact ⟨0, by omega, rfl, by simp, Lib.hid (fun j h => by omega)⟩
        case round =>
        obtain ⟨m, hm, rfl, rfl, hall⟩ := hrel
        obtain ⟨t, ht⟩ : ∃ t, (32768 : Int) / 2 ^ m = t := ⟨_, rfl⟩
        have htb := HL.out m
        rw [ht] at htb ⊢
        have HTT := Lib.hid ht
        clear ht
        by_cases hlt : c < t
        · have hm2 : m < 12 := by
            rcases Nat.lt_or_ge m 12 with h | h
            · exact h
            · obtain rfl : m = 12 := by omega
              have := HTT.out
              simp at this; omega
          go_wp2_with fail
          go_round
          case rel =>
            refine ⟨m + 1, by omega, by go_num, by rw [← HS.out, HTT.out], Lib.hid (fun j h => ?_)⟩
            rcases Nat.lt_or_ge j m with h' | h'
            · exact hall.out j h'
            · obtain rfl : j = m := by omega
              rw [HTT.out]; exact hlt
          case measure => simp [intOf]; omega
        · have hcost : Sp.costOf v = m := by
            rw [Sp.costOf, HC.out]
            exact congrArg Nat.cast (Sp.costW_eq (w := c) (n := m) (by omega) hall.out (by rw [HTT.out]; omega))
          have HCC := Lib.hid hcost
          clear hcost
          have hE6 := hE5.alloc (.cells #[.int .i64 a, .int .i64 c, .int .i64 32768] 42)
          go_wp2_with fail
          refine (Cost_any v _).mono ?_
          rw [HCC.out]
          rintro e w7 ⟨rfl, g7⟩
          have hE7 := hE6.newB g7
          go_wp2_with fail
          refine (LPut_any ge (Sp.Enc.new_ok 9) (by omega) v hv1 hv2 _ _ hE7 (Row.nil _ _)).mono ?_
          rintro e w8 ⟨rfl, v8, hE8, hR8, hK8, hF8⟩
          go_wp2_with fail
          have f5 := g15.size
          have f7 := g7.size
          simp only [World.size_alloc] at f7
          have gX : Below w.heap.size w w8 := ((g15.alloc f5 _).trans (g7.mono (by simp; omega))).trans (hK8.below (by rintro k (rfl | h) <;> first | exact hge' | simp [Value.ownBlock] at h) (by omega))
          clear g15 g7 hK8 hF8 hR8 hE8 hE7 hE6 hE5 f5 f7
          try (refine (RFind_any p hp1 hp2 _).mono ?_; rw [HF.out]; rintro e wz ⟨rfl, rfl⟩; go_wp2_with fail)
          refine (NewDec_any s _).mono ?_
          rintro e wD ⟨gd, hgd, rfl, hD, gD⟩
          go_wp2_with fail
          refine (LTake_any gd hdn (by omega) _ hD).mono ?_
          rw [HT.out]
          rintro e wF ⟨rfl, hDF, hKF⟩
          go_wp2_with fail
          refine (LTakeNil_any _).mono ?_
          rintro e wG ⟨rfl, rfl⟩
          go_wp2_with fail
          go_ret
          have f1 := gX.size
          have f2 := gD.size
          exact ⟨rfl, (gX.trans (gD.mono f1)).trans (hKF.below (by intro k h; omega) (by omega))⟩
    · have hvo : v < -24 ∨ 24 < v := by omega
      have HC := Lib.hid (cellOf_out hvo)
      have hcost : Sp.costOf v = 0 := by rw [Sp.costOf, HC.out]; rfl
      have HCC := Lib.hid hcost
      have HV := Lib.hid hvo
      clear hv hcost
      rcases hvo with hv | hv <;> rcases hfx with ⟨rfl, hp1, hp2⟩ | ⟨rfl, rfl, hp | hp⟩
      all_goals
        go_enter Try.func6, Try.ntmps6
        go_wp2_with fail
        refine (awake08 _).mono ?_
        rintro e w1 ⟨rfl, g1⟩
        go_wp2_with fail
        refine (Cell_at HC.out _).mono ?_
        rintro e w2 ⟨rfl, g2⟩
        go_wp2_with fail
        refine (Find_at HF.out _).mono ?_
        rintro e w3 ⟨rfl, g3⟩
        go_wp2_with fail
        refine (NewEnc_any 9 (by omega) (by omega) _).mono ?_
        rintro e w4 ⟨ge, hge, rfl, hE, g4⟩
        go_wp2_with fail
        refine (Cost_any v _).mono ?_
        rw [HCC.out]
        rintro e w5 ⟨rfl, g5⟩
        go_wp2_with fail
        refine (LPutNo_any _ v HV.out _).mono ?_
        rintro e w6 ⟨rfl, g6⟩
        go_wp2_with fail
        have e1 := g1.size
        have e2 := g2.size
        have e3 := g3.size
        have e4 := g4.size
        have e5 := g5.size
        have gX : Below w.heap.size w w6 := ((((g1.trans (g2.mono e1)).trans (g3.mono (by omega))).trans (g4.mono (by omega))).trans (g5.mono (by omega))).trans (g6.mono (by omega))
        clear hE g1 g2 g3 g4 g5 g6 e1 e2 e3 e4 e5 hge
        try (refine (RFind_any p hp1 hp2 _).mono ?_; rw [HF.out]; rintro e wz ⟨rfl, rfl⟩; go_wp2_with fail)
        refine (NewDec_any s _).mono ?_
        rintro e wD ⟨gd, hgd, rfl, hD, gD⟩
        go_wp2_with fail
        refine (LTake_any gd hdn (by omega) _ hD).mono ?_
        rw [HT.out]
        rintro e wF ⟨rfl, hDF, hKF⟩
        go_wp2_with fail
        refine (LTakeNil_any _).mono ?_
        rintro e wG ⟨rfl, rfl⟩
        go_wp2_with fail
        go_ret
        have f1 := gX.size
        have f2 := gD.size
        exact ⟨rfl, (gX.trans (gD.mono f1)).trans (hKF.below (by intro k h; omega) (by omega))⟩
  · go_enter Try.func6, Try.ntmps6
    go_wp2_with fail
    refine (awake08 _).mono ?_
    rintro e w1 ⟨rfl, hb1⟩
    go_wp2_with fail
    refine (awake08 _).mono ?_
    rintro e w2 ⟨rfl, hb2⟩
    go_wp2_with fail
    go_ret
    exact ⟨rfl, hb1.trans (hb2.mono hb1.size)⟩
end Go.Proofs.Ytlhjkichambaoaa
