/- The walks of vect.Pulses and vect.Number. -/
import Derived.Test.YthpjkgpngbdhbaaGreatDoorLevel
set_option linter.unusedSimpArgs false
set_option linter.unusedVariables false
namespace Go.Proofs.YthpjkgpngbdhbaaGreatDoor
open Go.RowKit Go.Maps

theorem drop_one {y : List Int} {i : Nat} (h : i < y.length) : y.drop i = y.getD i 0 :: y.drop (i + 1) := by
  rw [List.drop_eq_getElem_cons h, List.getD_eq_getElem?_getD, List.getElem?_eq_getElem h]; rfl
theorem getD_in {y : List Int} {i : Nat} (h : i < y.length) : y.getD i 0 ∈ y := by rw [List.getD_eq_getElem?_getD, List.getElem?_eq_getElem h]; exact List.getElem_mem _
set_option maxRecDepth 100000 in
set_option maxHeartbeats 1600000 in
theorem VPulses_any (y : List Int) (hy : ∀ x ∈ y, -8 ≤ x ∧ x ≤ 8) (n : Nat) (hn : y.length = n) (h1 : 1 ≤ n) (h8 : n ≤ 8) (k : Nat) (hk : k ≤ 8) (hs : Sp.sizes y = k) (pp : Option Addr) (cap lo hi : Nat) (w : World) (hS : SL w lo hi 1 pp n cap (intsV y)) :
    Calls Tryz.prog 116 #[.slice pp n cap] w fun e w' => e = .returned (.int .i64 k) ∧ Below w.heap.size w w' := by
  obtain ⟨g, o, rfl⟩ := sl_someE hS h1
  have hcap := hS.2.1
  have hcm := hS.2.2.1
  unfold maxLen at hcm
  have h8i : (n : Int) ≤ 8 := by omega
  have HY := Lib.hid hy
  have HN := Lib.hid hn
  have hnx := fun i (hi : i < n) => show Sp.sizes (y.drop i) = _ from by rw [drop_one (by rw [HN.out]; exact hi), Sp.sizes_cons]
  have hnn := fun i => sizes_nn (y.drop i)
  have hs0 : (0 : Int) + Sp.sizes (y.drop 0) = k := by rw [List.drop_zero, hs]; omega
  have hsn : Sp.sizes (y.drop n) = 0 := by rw [← HN.out, List.drop_length]; rfl
  have HNX := Lib.hid hnx
  have HNN := Lib.hid hnn
  have HS0 := Lib.hid hs0
  have HSN := Lib.hid hsn
  clear hy hn hnx hnn hs0 hsn hs
  have hki : (k : Int) ≤ 8 := by omega
  go_enter Tryz.func116, Tryz.ntmps116
  go_wp2_with fail
  go_loopw [3, 11] (fun nv iv wr => ∃ (i : Nat) (m : Int), i ≤ n ∧ iv = .int .i64 i ∧ nv = .int .i64 m ∧ 0 ≤ m ∧ Hid (m + Sp.sizes (y.drop i) = k) ∧ w = wr) (fun _ iv _ => n - (intOf iv).toNat)
  case atStart => exact ⟨0, 0, by omega, rfl, rfl, by omega, HS0, rfl⟩
  case round =>
    obtain ⟨i, m, hi2, rfl, rfl, hm0, HM, rfl⟩ := hrel
    by_cases hlt : i < n
    · have hlti : (i : Int) < (n : Int) := by omega
      have hx := HY.out _ (getD_in (i := i) (by rw [HN.out]; exact hlt))
      have cx := sl_get hS i (by rw [HN.out]; exact hlt)
      have hm := HM.out
      have hnx := HNX.out i hlt
      have hnn := HNN.out (i + 1)
      rw [hnx] at hm
      have hv := fun w => vsize_any (y.getD i 0) (by omega) (by omega) w
      obtain ⟨x, hxe⟩ : ∃ x, y.getD i 0 = x := ⟨_, rfl⟩
      rw [hxe] at cx hm hx
      simp only [hxe] at hv
      obtain ⟨z, hz⟩ : ∃ z, Sp.sizes (y.drop (i + 1)) = z := ⟨_, rfl⟩
      rw [hz] at hnn hm
      obtain ⟨s, hse⟩ : ∃ s, max x (-x) = s := ⟨_, rfl⟩
      rw [hse] at hm
      simp only [hse] at hv
      have hs0 : 0 ≤ s := by omega
      have HV := Lib.hid hv
      have HM2 := Lib.hid (show m + s + z = k by omega)
      have w1 : IntKind.i64.wrap (m + s) = m + s := IntWalk.i64_in _ (by omega)
      have HZ := Lib.hid hz
      clear hv hm hnx hnn hxe hse hz HM
      go_wp2_with fail
      refine (HV.out _).mono ?_
      rintro e w' ⟨rfl, rfl⟩
      go_wp2_with fail
      go_roundw
      case rel => exact ⟨i + 1, m + s, by omega, by go_num, by go_num, by omega, Lib.hid (by rw [HZ.out]; exact HM2.out), by first | trivial | rfl⟩
      case measure => simp [intOf]; omega
    · obtain rfl : n = i := by omega
      have hm := HM.out
      rw [HSN.out] at hm
      obtain rfl : m = k := by omega
      have hmn : min (k : Int) 9 = k := by omega
      go_wp2_with fail
      go_ret
      exact ⟨by (try rw [hmn]); rfl, Below.refl _ _⟩
theorem vnum_cons (x : Int) (r : List Int) (k : Int) : vnum (x :: r) k = Sp.sumUp r.length k (x + k).toNat (-k) + vnum r (k - max x (-x)) := rfl
theorem sumUp_one (m : Nat) (k : Int) (j : Nat) (x : Int) : Sp.sumUp m k (j + 1) x = Sp.cntI m (k - max x (-x)) + Sp.sumUp m k j (x + 1) := rfl
set_option maxRecDepth 100000 in
set_option maxHeartbeats 3200000 in
theorem Number_any (y : List Int) (hy : ∀ x ∈ y, -8 ≤ x ∧ x ≤ 8) (n : Nat) (hn : y.length = n) (h1 : 1 ≤ n) (h8 : n ≤ 8) (k : Nat) (hk : k ≤ 8) (hs : Sp.sizes y = k) (pp : Option Addr) (cap lo hi : Nat) (w : World) (hS : SL w lo hi 1 pp n cap (intsV y)) :
    Calls Tryz.prog 71 #[.slice pp n cap] w fun e w' => e = .returned (.tuple #[.int .i64 (vnum y k), .int .i64 0]) ∧ Below w.heap.size w w' := by
  have hmm := @run_makeMap Tryz.prog
  have hP := VPulses_any y hy n hn h1 h8 k hk hs pp cap lo hi w hS
  obtain ⟨g, o, rfl⟩ := sl_someE hS h1
  have hcap := hS.2.1
  have hcm := hS.2.2.1
  unfold maxLen at hcm
  have hV := vnum_ok y (by omega) k hk hs
  have hV2 := Sp.cntI_bd (n := y.length) (k := (k : Int)) (by omega) (by omega)
  obtain ⟨V, hVe⟩ : ∃ V, vnum y k = V := ⟨_, rfl⟩
  rw [hVe] at hV ⊢
  have hVb : V ≤ 1000000 := by omega
  have HY := Lib.hid hy
  have HN := Lib.hid hn
  have hnx := fun i (hi : i < n) => drop_one (y := y) (i := i) (by rw [HN.out]; exact hi)
  have hsn : y.drop n = [] := by rw [← HN.out, List.drop_length]
  have HNX := Lib.hid hnx
  have HSN := Lib.hid hsn
  have HV0 : Hid ((0 : Int) + vnum (y.drop 0) k = V) := Lib.hid (by rw [List.drop_zero, hVe]; omega)
  have HS0 : Hid (Sp.sizes (y.drop 0) = (k : Int)) := Lib.hid (by rw [List.drop_zero]; exact hs)
  clear hy hn hnx hsn hVe hs hV hV2
  have hki : (k : Int) ≤ 8 := by omega
  go_enter Tryz.func71, Tryz.ntmps71
  go_wp2_with fail
  refine hP.mono ?_
  rintro e w1 ⟨rfl, hb1⟩
  have hO1 := World.ownsMap_made (H := Unit) w1 Tryz.prog 181 (plainElem Tryz.prog 3)
  have hb2 : Below w.heap.size w (w1.alloc (.map #[] 0)) := hb1.alloc hb1.size _
  have hmb : w.heap.size ≤ w1.heap.size := hb1.size
  obtain ⟨mb, hmbe⟩ : ∃ mb, w1.heap.size = mb := ⟨_, rfl⟩
  rw [hmbe] at hO1 hmb
  clear hP hb1
  go_wp2_with fail
  go_loopw [4, 6, 17] (fun kv nv iv wr => ∃ (i q N : Nat) (m : Int) (D : DataW Unit), i ≤ n ∧ iv = .int .i64 i ∧ nv = .int .i64 m ∧ kv = .int .i64 q ∧ q ≤ 8 ∧ 0 ≤ m ∧ m ≤ 1000000 ∧ Hid (m + vnum (y.drop i) q = V) ∧ Hid (Sp.sizes (y.drop i) = (q : Int)) ∧ N ≤ 17 * i * 100000000 ∧ OwnC wr mb N D ∧ Good D ∧ Below w.heap.size w wr) (fun _ _ iv _ => n - (intOf iv).toNat)
  case atStart => exact ⟨0, k, 0, 0, _, by omega, rfl, rfl, rfl, hk, by omega, by omega, HV0, HS0, Nat.le_refl _, hO1, good_empty, hb2⟩
  case round =>
    clear hO1 hb2
    obtain ⟨i, q, N, m, D, hi2, rfl, rfl, rfl, hq, hm0, hm1, HM, HSZ, hN, hO, hG, hb⟩ := hrel
    by_cases hlt : i < n
    · have hlti : (i : Int) < (n : Int) := by omega
      have hx := HY.out _ (getD_in (i := i) (by rw [HN.out]; exact hlt))
      have cx := sl_get (hS.newB hb) i (by rw [HN.out]; exact hlt)
      have hm := HM.out
      have hsz := HSZ.out
      have hnx := HNX.out i hlt
      rw [hnx] at hm hsz
      rw [Sp.sizes_cons] at hsz
      rw [vnum_cons, List.length_drop, HN.out] at hm
      have hnn := sizes_nn (y.drop (i + 1))
      have hv := fun w => vsize_any (y.getD i 0) (by omega) (by omega) w
      obtain ⟨x, hxe⟩ : ∃ x, y.getD i 0 = x := ⟨_, rfl⟩
      rw [hxe] at cx hm hx hsz
      simp only [hxe] at hv
      obtain ⟨z, hz⟩ : ∃ z, Sp.sizes (y.drop (i + 1)) = z := ⟨_, rfl⟩
      rw [hz] at hnn hsz
      obtain ⟨s, hse⟩ : ∃ s : Nat, max x (-x) = s := ⟨(max x (-x)).toNat, by omega⟩
      rw [hse] at hm hsz
      simp only [hse] at hv
      obtain ⟨p, hp⟩ : ∃ p : Nat, (q : Int) - s = p := ⟨((q : Int) - s).toNat, by omega⟩
      rw [hp] at hm
      have hrl : (y.drop (i + 1)).length ≤ 8 := by rw [List.length_drop, HN.out]; omega
      have hrn := vnum_ok (y.drop (i + 1)) hrl p (by omega) (by rw [hz]; omega)
      obtain ⟨R, hRe⟩ : ∃ R, vnum (y.drop (i + 1)) p = R := ⟨_, rfl⟩
      rw [hRe] at hm hrn
      have hr0 := hrn.1
      obtain ⟨d, hd⟩ : ∃ d, n - (i + 1) = d := ⟨_, rfl⟩
      rw [hd] at hm
      have hd7 : d ≤ 7 := by omega
      have hdi : (n : Int) - (i : Int) - 1 = (d : Int) := by omega
      have hxq : x ≤ (q : Int) ∧ -(q : Int) ≤ x := by omega
      have HV := Lib.hid hv
      have HM2 := Lib.hid hm
      have HR := Lib.hid hRe
      have HZ := Lib.hid (show Sp.sizes (y.drop (i + 1)) = (p : Int) by rw [hz]; omega)
      have HNN := Lib.hid (fun j x => sumUp_nn (m := d) (k := (q : Int)) (by omega) (by omega) j x)
      have hq8 : (q : Int) ≤ 8 := by omega
      have hT : (10 : Nat) ^ d ≤ 100000000 := Nat.le_trans (Nat.pow_le_pow_right (by omega) (show d ≤ 8 by omega)) (Nat.le_of_eq (by rfl))
      clear hv hm hnx hnn hxe hz hRe hrn hrl HM HSZ hsz
      go_wp2_with fail
      go_loopw [6, 9] (fun nv zv wr => ∃ (j N2 : Nat) (m2 z : Int) (D2 : DataW Unit), nv = .int .i64 m2 ∧ zv = .int .i64 z ∧ z + j = x ∧ -(q : Int) ≤ z ∧ 0 ≤ m2 ∧ m2 ≤ 1000000 ∧ Hid (m2 + (Sp.sumUp d q j z + R) = V) ∧ N2 ≤ (17 * i + (16 - j)) * 100000000 ∧ OwnC wr mb N2 D2 ∧ Good D2 ∧ Below w.heap.size w wr) (fun _ zv _ => (9 - intOf zv).toNat)
      case atStart =>
        have hN' : N ≤ (17 * i + (16 - (x + q).toNat)) * 100000000 := Nat.le_trans hN (Nat.mul_le_mul_right _ (by omega))
        exact ⟨(x + q).toNat, N, m, -(q : Int), D, rfl, rfl, by omega, by omega, hm0, hm1, HM2, hN', hO, hG, hb⟩
      case round =>
        clear hO hG hb hN cx
        obtain ⟨j, N2, m2, z, D2, rfl, rfl, hzj, hzq, hm20, hm21, HM3, hN2, hO, hG, hb⟩ := hrel
        by_cases hlt2 : z < x
        · obtain ⟨j, rfl⟩ : ∃ i, j = i + 1 := ⟨j - 1, by omega⟩
          obtain ⟨sz, hsz⟩ : ∃ t : Nat, max z (-z) = t := ⟨(max z (-z)).toNat, by omega⟩
          obtain ⟨pz, hpz⟩ : ∃ t : Nat, (q : Int) - sz = t := ⟨((q : Int) - sz).toNat, by omega⟩
          have hm3 := HM3.out
          have hnn := HNN.out j (z + 1)
          rw [sumUp_one, hsz, hpz, Sp.cntI_nat d (by omega)] at hm3
          have hvz := fun w => vsize_any z (by omega) (by omega) w
          simp only [hsz] at hvz
          have hof := fun N D w => of_any d (by omega) pz (by omega) mb N D w
          obtain ⟨c, hc⟩ : ∃ c, Sp.cnt d pz = c := ⟨_, rfl⟩
          rw [hc] at hm3
          simp only [hc] at hof
          obtain ⟨u, hu⟩ : ∃ u, Sp.sumUp d q j (z + 1) = u := ⟨_, rfl⟩
          rw [hu] at hm3 hnn
          have w1 : IntKind.i64.wrap (m2 + (c : Int)) = m2 + c := IntWalk.i64_in _ (by omega)
          have hmc : m2 + (c : Int) ≤ 1000000 := by omega
          have HU := Lib.hid hu
          have HM4 := Lib.hid (show m2 + c + (u + R) = V by omega)
          have HVZ := Lib.hid hvz
          have HOF := Lib.hid hof
          clear hm3 hnn hvz hof hu hc HM3 hsz
          go_wp2_with fail
          refine (HVZ.out _).mono ?_
          rintro e w2 ⟨rfl, rfl⟩
          go_wp2_with fail
          refine (HOF.out N2 D2 _ hO hG (by omega)).mono ?_
          rintro e w3 ⟨rfl, N3, D3, hN3, hO3, hG3, hK3⟩
          have hb3 : Below w.heap.size w w3 := hb.trans (hK3.below (fun g hg => by rw [hg]; exact hmb) hb.size)
          go_wp2_with fail
          go_roundw
          case rel =>
            refine ⟨j, N3, m2 + c, z + 1, D3, by go_num, by go_num, by omega, by omega, by omega, hmc, Lib.hid (by rw [HU.out]; exact HM4.out), ?_, hO3, hG3, hb3⟩
            refine Nat.le_trans hN3 (Nat.le_trans (Nat.add_le_add hN2 hT) ?_)
            rw [show (17 * i + (16 - (j + 1))) * 100000000 + 100000000 = (17 * i + (16 - (j + 1)) + 1) * 100000000 from (Nat.succ_mul _ _).symm]
            exact Nat.mul_le_mul_right _ (by omega)
          case measure => simp [intOf]; omega
        · obtain rfl : x = z := by omega
          obtain rfl : j = 0 := by omega
          have hm3 := HM3.out
          have hm4 : m2 + R = V := by simp only [Sp.sumUp] at hm3; omega
          have HM4 := Lib.hid hm4
          clear hm3 hm4 HM3
          go_wp2_with fail
          refine (HV.out _).mono ?_
          rintro e w2 ⟨rfl, rfl⟩
          go_wp2_with fail
          go_roundw
          case rel =>
            exact ⟨i + 1, p, N2, m2, D2, by omega, by go_num, rfl, by rw [← hp], by omega, hm20, hm21, Lib.hid (by rw [HR.out]; exact HM4.out), HZ, Nat.le_trans hN2 (Nat.mul_le_mul_right _ (by omega)), hO, hG, hb⟩
          case measure => simp [intOf]; omega
    · obtain rfl : n = i := by omega
      have hm := HM.out
      rw [HSN.out] at hm
      obtain rfl : m = V := by simp only [vnum] at hm; omega
      go_wp2_with fail
      go_ret2
      exact ⟨rfl, hb⟩
end Go.Proofs.YthpjkgpngbdhbaaGreatDoor
