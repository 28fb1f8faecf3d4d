/- The walks of vect.Count, vect.Bits and vect.Vector. -/
import Derived.Test.YtnohjidoelohkaaDoorDecA
import Derived.Test.YtnohjidoelohkaaDoorVect
import Derived.Test.YtnohjidoelohkaaDoorRangD
import Derived.Deep.RegionHeld3
namespace Go.Proofs.YtnohjidoelohkaaDoor
open Go.RowKit Go.Maps

set_option maxRecDepth 100000 in
set_option maxHeartbeats 800000 in
theorem Count_any (n k : Nat) (hn : n ≤ 8) (hk : k ≤ 8) (w : World) : Calls Tryd.prog 41 #[.int .i64 n, .int .i64 k] w fun e w' => e = .returned (.int .i64 (Sp.cnt n k : Nat)) ∧ Below w.heap.size w w' := by
  have hmm := @run_makeMap Tryd.prog
  have hT : (10 : Nat) ^ n ≤ 10 ^ 8 := Nat.pow_le_pow_right (by omega) hn
  have hO := World.ownsMap_made (H := Unit) w Tryd.prog 106 (plainElem Tryd.prog 3)
  go_enter Tryd.func41, Tryd.ntmps41
  go_wp2_with fail
  refine (of_any n hn k hk w.heap.size 0 (.map []) _ hO good_empty (by omega)).mono ?_
  rintro e w1 ⟨rfl, N1, D1, _, hO1, hG1, hK1⟩
  go_wp2_with fail
  go_ret
  exact ⟨rfl, ((Below.refl _ _).alloc (Nat.le_refl _) _).trans (hK1.below (fun i hi => by omega) (by simp))⟩
theorem VBits_any (n k : Nat) (hn : n ≤ 8) (hk : k ≤ 8) (w : World) : Calls Tryd.prog 39 #[.int .i64 n, .int .i64 k] w fun e w' => e = .returned (.int .i64 (Sp.vbits n k : Nat)) ∧ Below w.heap.size w w' := by
  have hbd := Sp.cnt_bd hn hk
  obtain ⟨c, hc⟩ : ∃ c, Sp.cnt n k = c := ⟨_, rfl⟩
  have hvb : Sp.vbits n k = Lib.bitLen (c - 1) := by unfold Sp.vbits; rw [hc]
  rw [hvb]
  have hC := Count_any n k hn hk w
  rw [hc] at hC hbd
  have hmx : max ((c : Int) - 1) 0 = ((c - 1 : Nat) : Int) := by omega
  go_enter Tryd.func39, Tryd.ntmps39
  go_wp2_with fail
  refine hC.mono ?_
  rintro e w1 ⟨rfl, hb1⟩
  go_wp2_with fail
  refine (Length_any ((c - 1 : Nat) : Int) (by omega) (by omega) _).mono ?_
  rw [Int.toNat_natCast]
  rintro e w2 ⟨rfl, rfl⟩
  go_wp2_with fail
  go_ret
  exact ⟨rfl, hb1⟩
theorem infoInt : (Tryd.prog.info? 3).map (fun i => (i.zero, i.size, i.bytes)) = some (some (.int .i64 0), 1, 8) := by kernel_rfl
theorem OwnC.notRow {W : World} {b N : Nat} {D : DataW Unit} {e : TypeId} {v : Value} {xs : List Value} (h : OwnC W b N D) (hR : W.ownsRow 0 e 1 v xs.length xs) {k : Nat} (hk : v.ownBlock = some k) : k ≠ b := by
  intro he
  subst he
  obtain ⟨es, clock, hb, _⟩ := h
  rcases hR.2 with ⟨rfl, _⟩ | ⟨g, cap, cur, rfl, _, hg, _⟩
  · simp [Value.ownBlock] at hk
  · obtain rfl : g = k := by simpa [Value.ownBlock] using hk
    rw [hb] at hg
    cases hg

set_option maxRecDepth 100000 in
set_option maxHeartbeats 3200000 in
theorem Vector_any (n k : Nat) (i : Int) (hn : n ≤ 8) (hk : k ≤ 8) (h0 : 0 ≤ i) (h1 : i < (Sp.cnt n k : Nat)) (w : World) : Calls Tryd.prog 40 #[.int .i64 n, .int .i64 k, .int .i64 i] w fun e w' =>
    ∃ v, e = .returned (.tuple #[v, .int .i64 0]) ∧ Row w' 3 v (intsV (Sp.vec n k i)) ∧ Below w.heap.size w w' ∧ Hid (∀ g, v.ownBlock = some g → w.heap.size ≤ g) := by
  obtain ⟨i0, hi, hz0, hz1, hz2⟩ := info_parts infoInt
  have hmm := @run_makeMap Tryd.prog
  have hcb := Sp.cnt_bd hn hk
  have hC := Count_any n k hn hk w
  have h1' : i < Sp.cntI n k := by rw [Sp.cntI_nat n hk]; exact h1
  obtain ⟨c, hc⟩ : ∃ c, Sp.cnt n k = c := ⟨_, rfl⟩
  rw [hc] at hC h1 hcb
  have HI := Lib.hid h1'
  obtain ⟨Y, hY⟩ : ∃ Y, Sp.vec n k i = Y := ⟨_, rfl⟩
  rw [hY]
  have HY := Lib.hid hY
  clear hc h1' hY
  go_enter Tryd.func40, Tryd.ntmps40
  go_wp2_with fail
  refine hC.mono ?_
  rintro e w1 ⟨rfl, hb1⟩
  have hO1 := World.ownsMap_made (H := Unit) w1 Tryd.prog 106 (plainElem Tryd.prog 3)
  have hb2 : Below w.heap.size w (w1.alloc (.map #[] 0)) := hb1.alloc hb1.size _
  have hmb : w.heap.size ≤ w1.heap.size := hb1.size
  have hR1 := Row.nil (w1.alloc (.map #[] 0)) 3
  obtain ⟨mb, hmbe⟩ : ∃ mb, w1.heap.size = mb := ⟨_, rfl⟩
  rw [hmbe] at hO1 hmb
  clear hC hb1
  go_wp2_with fail
  go_loopw [1, 2, 9, 23] (fun kv iv ov av wr => ∃ (a q : Nat) (y : Int) (pre : List Int) (N : Nat) (D : DataW Unit), a ≤ n ∧ kv = .int .i64 q ∧ iv = .int .i64 y ∧ av = .int .i64 a ∧ q ≤ 8 ∧ 0 ≤ y ∧ y ≤ 1000000 ∧ Hid (y < Sp.cntI (n - a) q) ∧ Hid (pre.length = a) ∧ Hid (pre ++ Sp.vec (n - a) q y = Y) ∧ N ≤ 36 * a * 100000000 ∧ OwnC wr mb N D ∧ Good D ∧ Row wr 3 ov (intsV pre) ∧ Below w.heap.size w wr ∧ Hid (∀ g, ov.ownBlock = some g → w.heap.size ≤ g)) (fun _ _ _ av _ => n - (intOf av).toNat)
  case atStart => exact ⟨0, k, i, [], 0, _, Nat.zero_le _, rfl, rfl, rfl, hk, h0, by omega, HI, Lib.hid rfl, Lib.hid HY.out, Nat.le_refl _, hO1, good_empty, hR1, hb2, Lib.hid (by intro g hg; simp [Value.ownBlock] at hg)⟩
  case round =>
    clear hO1 hR1 hb2 h0 h1 hcb
    obtain ⟨a, q, y, pre, N, D, ha, rfl, rfl, rfl, hq, hy0, hy1, HYB, HPL, HPV, hN, hO, hG, hR, hb, hF⟩ := hrel
    by_cases hlt : a < n
    · obtain ⟨m, hm⟩ : ∃ m, n - a = m + 1 := ⟨n - a - 1, by omega⟩
      have hd1 : (n : Int) - (a : Int) = ((m + 1 : Nat) : Int) := by omega
      have hm8 : m < 8 := by omega
      have hyb := HYB.out
      have hpv := HPV.out
      rw [hm] at hyb hpv
      have hs : Sp.sumUp m q (2 * (q : Int) + 1).toNat (-(q : Int)) = Sp.cntI (m + 1) q := by
        rw [show (2 * (q : Int) + 1).toNat = 2 * q + 1 from by omega, Sp.sumUp_all m hm8 q (by omega)]
        unfold Sp.cntI
        rw [if_neg (by omega)]
        simp
      rw [← hs] at hyb
      have hvf := Sp.vfind_ok m q (2 * (q : Int) + 1).toNat y (-(q : Int)) hy0 hyb
      obtain ⟨R, hRR⟩ : ∃ R, Sp.vfind m q (2 * (q : Int) + 1).toNat y (-(q : Int)) = R := ⟨_, rfl⟩
      rw [hRR] at hvf
      have hvec : Sp.vec (m + 1) q y = R.1 :: Sp.vec m ((q : Int) - max R.1 (-R.1)) R.2 := by rw [Sp.vec, hRR]
      rw [hvec] at hpv
      obtain ⟨r0, r1, r2, r3⟩ := hvf
      have HPV2 := Lib.hid hpv
      have HR := Lib.hid hRR
      have HSB := Lib.hid hyb
      have HR3 := Lib.hid r3
      have ha0 : (0 : Int) ≤ a := by omega
      have HMM := Lib.hid hm
      clear hpv hRR hyb HYB HPV hs hvec r3 hm
      go_wp2_with fail
      go_loopw [2, 11] (fun iv xv wr => ∃ (j : Nat) (z x : Int) (N2 : Nat) (D2 : DataW Unit), iv = .int .i64 z ∧ xv = .int .i64 x ∧ x + j = q + 1 ∧ -(q : Int) ≤ x ∧ 0 ≤ z ∧ z ≤ 1000000 ∧ Hid (z < Sp.sumUp m q j x) ∧ Hid (Sp.vfind m q j z x = R) ∧ N2 ≤ (36 * a + 2 * (17 - j)) * 100000000 ∧ OwnC wr mb N2 D2 ∧ Good D2 ∧ Row wr 3 u9 (intsV pre) ∧ Below w.heap.size w wr) (fun _ xv _ => (9 - intOf xv).toNat)
      case atStart =>
        have hN' : N ≤ (36 * a + 2 * (17 - (2 * (q : Int) + 1).toNat)) * 100000000 := Nat.le_trans hN (Nat.mul_le_mul_right _ (by omega))
        exact ⟨(2 * (q : Int) + 1).toNat, y, -(q : Int), N, D, rfl, rfl, by omega, by omega, hy0, hy1, HSB, HR, hN', hO, hG, hR, hb⟩
      case round =>
        clear hO hG hR hb HSB HR hN
        obtain ⟨j, z, x, N2, D2, rfl, rfl, hxj, hxq, hz0', hz1', HSB, HR, hN2, hO, hG, hR, hb⟩ := hrel
        obtain ⟨j, rfl⟩ : ∃ i, j = i + 1 := by
          cases j with
          | zero => have := HSB.out; simp only [Sp.sumUp] at this; omega
          | succ i => exact ⟨i, rfl⟩
        obtain ⟨s, hs⟩ : ∃ s : Nat, max x (-x) = s := ⟨(max x (-x)).toNat, by omega⟩
        obtain ⟨p, hp⟩ : ∃ p : Nat, (q : Int) - (s : Int) = p := ⟨((q : Int) - (s : Int)).toNat, by omega⟩
        have hcq : Sp.cntI m ((q : Int) - max x (-x)) = Sp.cnt m p := by rw [hs, hp, Sp.cntI_nat m (by omega)]
        have hcb := Sp.cnt_bd (n := m) (k := p) (by omega) (by omega)
        have hT : (10 : Nat) ^ m ≤ 100000000 := Nat.le_trans (Nat.pow_le_pow_right (by omega) (show m ≤ 8 by omega)) (Nat.le_of_eq (by rfl))
        have hmi : ((m + 1 : Nat) : Int) - 1 = (m : Int) := by omega
        have hvs := vsize_any x (by omega) (by omega)
        rw [hs] at hvs
        obtain ⟨c, hc⟩ : ∃ c, Sp.cnt m p = c := ⟨_, rfl⟩
        have hof := fun N D w => of_any m (by omega) p (by omega) mb N D w
        rw [hc] at hcq hcb hof
        have HOF := Lib.hid hof
        have HCQ := Lib.hid hcq
        have HS := Lib.hid hs
        clear hof hc hcq hs
        go_wp2_with fail
        refine (hvs _).mono ?_
        rintro e2 w2 ⟨rfl, rfl⟩
        go_wp2_with fail
        refine (HOF.out N2 D2 _ hO hG (by omega)).mono ?_
        rintro e3 w3 ⟨rfl, N3, D3, hN3, hO3, hG3, hK3⟩
        have hR3 := hR.keep hK3 (fun g hg => hO.notRow hR hg)
        have hb3 : Below w.heap.size w w3 := hb.trans (hK3.below (fun g hg => by rw [hg]; exact hmb) hb.size)
        clear hO hG hR hb hK3
        by_cases hcz : (c : Int) ≤ z
        · have hsb := HSB.out
          simp only [Sp.sumUp] at hsb
          rw [HCQ.out] at hsb
          have hr := HR.out
          rw [Sp.vfind_next (by rw [HCQ.out]; exact hcz), HCQ.out] at hr
          have HSB2 := Lib.hid (show z - (c : Int) < Sp.sumUp m q j (x + 1) by omega)
          have HR2 := Lib.hid hr
          clear hsb hr HSB HR
          go_wp2_with fail
          refine (hvs _).mono ?_
          rintro e4 w4 ⟨rfl, rfl⟩
          go_wp2_with fail
          refine (HOF.out N3 D3 _ hO3 hG3 (by omega)).mono ?_
          rintro e5 w5 ⟨rfl, N5, D5, hN5, hO5, hG5, hK5⟩
          have hR5 := hR3.keep hK5 (fun g hg => hO3.notRow hR3 hg)
          have hb5 : Below w.heap.size w w5 := hb3.trans (hK5.below (fun g hg => by rw [hg]; exact hmb) hb3.size)
          go_wp2_with fail
          go_roundw
          case rel => exact ⟨j, z - c, x + 1, N5, D5, rfl, rfl, by omega, by omega, by omega, by omega, HSB2, HR2, by omega, hO5, hG5, hR5, hb5⟩
          case measure => simp [intOf]; omega
        · have hr := HR.out
          rw [Sp.vfind_done (by rw [HCQ.out]; exact hcz)] at hr
          subst hr
          have hpv := HPV2.out
          simp only at hpv
          have HPV3 := Lib.hid hpv
          have hr3 := HR3.out
          simp only at hr3
          have hcq := HCQ.out
          have hmx : max x (-x) = (s : Int) := HS.out
          rw [hmx, hp] at hr3
          have HR4 := Lib.hid hr3
          clear hpv hr3 hcq HSB HR HPV2 HR3
          have hlen : (intsV pre).length = a := by rw [List.length_map, HPL.out]
          have HLEN := Lib.hid hlen
          clear hlen
          go_wp2_with (at_builtin; refine wpList_append_lies _ rfl (.tmp 54) (.tmp 56) 54 rfl 0 3 i0 (.int .i64 0) 1 8 Tryd.underlying54 hi hz0 hz1 hz2 rfl (by decide) u9 a (intsV pre) rfl (by have h := hR3.alloc (.cells #[.int .i64 x] 3); unfold Row at h; rw [HLEN.out] at h; exact h) ⟨w3.heap.size, 0, none⟩ 1 1 [.int .i64 x] rfl rfl (World.news_of_block (World.alloc_heap_new _ _)) (by simp [Value.oneCell']) (by decide) (by unfold maxLen; omega) (by omega) (Nat.zero_le _) _ rfl ?_; intro gb capb w6 hown6 hgrow6 hat6 hlt6)
          have hR6 : Row w6 3 (.slice (some ⟨gb, 0, none⟩) (a + 1) capb) (intsV (pre ++ [x])) := by
            rw [intsV, List.map_append]
            exact Row.mk hown6
          have hO6 := (hO3.alloc (.cells #[.int .i64 x] 3)).kept hgrow6 (by
            intro h
            exact hO3.notRow hR3 h.symm rfl)
          have hb6 : Below w.heap.size w w6 := (hb3.alloc hb3.size _).grown hgrow6 (by simp only [World.size_alloc]; have := hb3.size; omega) (fun g hg => hF.out g hg)
          have hF6 : Hid (∀ g, (Value.slice (some ⟨gb, 0, none⟩) (a + 1) capb).ownBlock = some g → w.heap.size ≤ g) := Lib.hid (fun g hg => by
            obtain rfl : gb = g := by simpa [Value.ownBlock] using hg
            rcases hat6 with h | h
            · exact hF.out _ h
            · have := hb3.size; simp at h; omega)
          refine (hvs _).mono ?_
          rintro e7 w7 ⟨rfl, rfl⟩
          go_wp2_with fail
          go_roundw
          case rel =>
            refine ⟨a + 1, p, z, pre ++ [x], N3, D3, by omega, rfl, rfl, by go_num, by omega, hz0', hz1', ?_, ?_, ?_, ?_, hO6, hG3, hR6, hb6, hF6⟩
            · exact Lib.hid (by rw [show n - (a + 1) = m from by have := HMM.out; omega]; exact HR4.out)
            · exact Lib.hid (by rw [List.length_append, HPL.out]; rfl)
            · refine Lib.hid ?_
              have h := HPV3.out
              rw [hmx, hp] at h
              rw [show n - (a + 1) = m from by have := HMM.out; omega, List.append_assoc]
              exact h
            · refine Nat.le_trans hN3 (Nat.le_trans (Nat.add_le_add hN2 hT) ?_)
              rw [show (36 * a + 2 * (17 - (j + 1))) * 100000000 + 100000000 = (36 * a + 2 * (17 - (j + 1)) + 1) * 100000000 from (Nat.succ_mul _ _).symm]
              exact Nat.mul_le_mul_right _ (by omega)
          case measure => simp [intOf]; omega
    · obtain rfl : a = n := by omega
      have hpv := HPV.out
      rw [Nat.sub_self, Sp.vec, List.append_nil] at hpv
      subst hpv
      go_wp2_with fail
      go_ret2
      exact ⟨_, rfl, hR, hb, hF⟩
end Go.Proofs.YtnohjidoelohkaaDoor
