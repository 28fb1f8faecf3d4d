/- The walk of the document's counts of vectors (spoolref09.Count). The walk of the document's counts of vectors (spoolref09.Count). The walk of the document's Cost (spoolref11). The walk of the document's Vector (spoolref13). -/
import Derived.Test.YtmfihaaiddolmaaGreatDoorLot9
import Derived.Laws.OwnMore
set_option linter.unusedSimpArgs false
set_option linter.unusedVariables false
namespace Go.Proofs.YtmfihaaiddolmaaGreatDoor
open Go.RowKit

/-- The counts of i numbers, for 0 to k pulses. -/
def rowC (i k : Nat) : List Int := (List.range (k + 1)).map fun a => ((Sp.cnt i a : Nat) : Int)
theorem rowC_len (i k : Nat) : (rowC i k).length = k + 1 := by simp [rowC]
theorem rowC_get (i k a : Nat) (h : a ≤ k) : (rowC i k).getD a 0 = Sp.cnt i a := by
  simp [rowC, List.getD_eq_getElem?_getD, show a < k + 1 by omega]
theorem rowC_zero (k : Nat) : (List.replicate (k + 1) (0 : Int)).set 0 1 = rowC 0 k := by
  apply List.ext_getElem
  · simp [rowC]
  · intro i h1 h2
    simp only [rowC, List.getElem_map, List.getElem_range, List.getElem_set, List.getElem_replicate, Sp.cnt]
    cases i <;> simp
/-- The new row: what is done, then what is begun, then zeros. -/
def rowN (i k a : Nat) : List Int := (List.range (k + 1)).map fun b => if b < a then ((Sp.cnt (i + 1) b : Nat) : Int) else 0
theorem rowN_len (i k a : Nat) : (rowN i k a).length = k + 1 := by simp [rowN]
theorem rowN_zero (i k : Nat) : rowN i k 0 = List.replicate (k + 1) 0 := by
  apply List.ext_getElem
  · simp [rowN]
  · intro j h1 h2; simp [rowN]
theorem rowN_all (i k : Nat) : rowN i k (k + 1) = rowC (i + 1) k := by
  apply List.ext_getElem
  · simp [rowN, rowC]
  · intro j h1 h2
    simp [rowN, rowC] at h1 ⊢
    omega
theorem rowN_set (i k a : Nat) (s : Int) (hs : s = Sp.cnt (i + 1) a) : (rowN i k a).set a s = rowN i k (a + 1) := by
  subst hs
  apply List.ext_getElem
  · simp [rowN]
  · intro j h1 h2
    simp only [rowN, List.getElem_set, List.getElem_map, List.getElem_range]
    split
    · subst_vars; simp
    · by_cases hj : j < a
      · rw [if_pos hj, if_pos (by omega)]
      · rw [if_neg hj, if_neg (by omega)]
theorem sumUp_next (m : Nat) (k : Int) : ∀ (j : Nat) (x : Int), Sp.sumUp m k (j + 1) x = Sp.sumUp m k j x + Sp.cntI m (k - max (x + j) (-(x + j))) := by
  intro j
  induction j with
  | zero => intro x; simp [Sp.sumUp]
  | succ j ih =>
    intro x
    rw [Sp.sumUp, ih (x + 1), Sp.sumUp]
    rw [show x + 1 + (j : Int) = x + ((j + 1 : Nat) : Int) by omega]
    omega
theorem sumUp_bd (m : Nat) (hm : m ≤ 8) (k : Int) (hk : k ≤ 8) : ∀ (j : Nat) (x : Int), 0 ≤ Sp.sumUp m k j x ∧ Sp.sumUp m k j x ≤ 1000000 * j := by
  intro j
  induction j with
  | zero => intro x; simp [Sp.sumUp]
  | succ j ih =>
    intro x
    have h := ih (x + 1)
    have hc := Sp.cntI_bd (k := k - max x (-x)) hm (by omega)
    rw [Sp.sumUp]
    omega
theorem sumUp_cnt (m a : Nat) (hm : m < 8) (ha : a ≤ 8) : Sp.sumUp m (a : Nat) (2 * a + 1) (-((a : Nat) : Int)) = Sp.cnt (m + 1) a := by
  rw [Sp.sumUp_all m hm a (by omega), Sp.cnt_row (m + 1) a (by omega)]
end Go.Proofs.YtmfihaaiddolmaaGreatDoor

namespace Go.Proofs.YtmfihaaiddolmaaGreatDoor
open Go.RowKit

set_option maxRecDepth 100000 in
set_option maxHeartbeats 4000000 in
theorem RCount_any (n k : Nat) (hn : n ≤ 8) (hk : k ≤ 8) (w : World) : Calls Tryz.prog 54 #[.int .i64 n, .int .i64 k] w fun e w' => e = .returned (.int .i64 (Sp.cnt n k : Nat)) ∧ Below w.heap.size w w' := by
  obtain ⟨M, hM⟩ : ∃ M : Array Value, madeCells #[.int .i64 0] (k + 1) = M := ⟨_, rfl⟩
  have hmk : ∀ w, (Instr.makeSlice 83 (.int .i64 ((k : Int) + 1)) (.int .i64 ((k : Int) + 1))).run Tryz.prog w = .ok (.slice (some ⟨w.heap.size, 0, none⟩) (k + 1) (k + 1)) (w.alloc (.cells M 3)) := fun w => by
    have h := run_make_row' (P := Tryz.prog) 83 3 (.int .i64 0) 8 Tryz.underlying83 madeI rfl .i64 .i64 (k + 1) (by omega) (by omega) w
    rw [hM, show (((k + 1 : Nat)) : Int) = (k : Int) + 1 by omega] at h
    exact h
  have hmade : ∀ w : World, Row (w.alloc (.cells M 3)) 3 (.slice (some ⟨w.heap.size, 0, none⟩) (k + 1) (k + 1)) (intsV (List.replicate (k + 1) 0)) := fun w => by
    rw [← hM]; exact Row.made w (k + 1) (by omega)
  have HMA := Lib.hid hmade
  clear hmade hM
  have hR0 := HMA.out w
  have hb0 : Below w.heap.size w (w.alloc (.cells M 3)) := (Below.refl _ _).alloc (Nat.le_refl _) _
  obtain ⟨B, hB⟩ : ∃ B, w.heap.size = B := ⟨_, rfl⟩
  rw [hB] at hR0 hb0
  have c0 := hR0.cellAt (by simp) 0 (by omega)
  rw [ints_get (by simp)] at c0
  have f0 := hR0.frozenAt (by simp) 0
  have hR1 := hR0.stored (by simp) 0 (.int .i64 1)
  rw [ints_set, rowC_zero] at hR1
  have hb1 := hb0.setCell (p := ⟨B, 0, none⟩) (Nat.le_refl _) (.int .i64 1)
  go_enter Tryz.func54, Tryz.ntmps54
  go_upto_region 2 with (fail)
  try simp only [hB]
  generalize (w.alloc (.cells M 3)) = w0 at hR0 hb0 c0 f0 hR1 hb1 ⊢
  go_wp2_with fail
  go_loopw [5, 6] (fun v i wr => ∃ (m g : Nat), m ≤ n ∧ i = .int .i64 m ∧ v = .slice (some ⟨g, 0, none⟩) (k + 1) (k + 1) ∧ Row wr 3 (.slice (some ⟨g, 0, none⟩) (k + 1) (k + 1)) (intsV (rowC m k)) ∧ Below B w wr) (fun v i _ => n - (intOf i).toNat)
  case atStart => exact ⟨0, B, by omega, rfl, rfl, hR1, hb1⟩
  case round =>
    obtain ⟨m, g, hm, rfl, rfl, hR, hb⟩ := hrel
    by_cases hlt : m < n
    · have hg := hR.lt (k := g) rfl
      have hRa := hR.alloc (.cells M 3)
      have hN := HMA.out wr
      have hba := hb.alloc (by have := hb.size; omega) (.cells M 3)
      obtain ⟨h, hh⟩ : ∃ h, wr.heap.size = h := ⟨_, rfl⟩
      rw [hh] at hN hg
      rw [← rowN_zero m k] at hN
      have hBh : B ≤ h := by have := hb.size; omega
      clear hR hb
      go_wp2_with fail
      go_loopw [8] (fun v wr => ∃ a : Nat, a ≤ k + 1 ∧ v = .int .i64 a ∧ Row wr 3 (.slice (some ⟨g, 0, none⟩) (k + 1) (k + 1)) (intsV (rowC m k)) ∧ Row wr 3 (.slice (some ⟨h, 0, none⟩) (k + 1) (k + 1)) (intsV (rowN m k a)) ∧ Below B w wr) (fun v _ => k + 1 - (intOf v).toNat)
      case atStart => exact ⟨0, by omega, rfl, hRa, hN, hba⟩
      case round =>
        obtain ⟨a, ha, rfl, hR, hN, hb⟩ := hrel
        by_cases hak : a < k + 1
        · have hak1 : (a : Int) ≤ (k : Int) := by omega
          have hak2 : a ≤ k := by omega
          have hz : (rowN m k a).set a (Sp.sumUp m (a : Nat) 0 (-((a : Nat) : Int))) = rowN m k a := by
            apply List.ext_getElem
            · simp
            · intro j h1 h2
              simp only [List.getElem_set, Sp.sumUp]
              split
              · subst_vars; simp [rowN]
              · rfl
          go_wp2_with fail
          go_loopw [9] (fun v wr => ∃ j : Nat, j ≤ 2 * a + 1 ∧ v = .int .i64 (-((a : Nat) : Int) + (j : Nat)) ∧ Row wr 3 (.slice (some ⟨g, 0, none⟩) (k + 1) (k + 1)) (intsV (rowC m k)) ∧ Row wr 3 (.slice (some ⟨h, 0, none⟩) (k + 1) (k + 1)) (intsV ((rowN m k a).set a (Sp.sumUp m (a : Nat) j (-((a : Nat) : Int))))) ∧ Below B w wr) (fun v _ => (a + 1 - intOf v).toNat)
          case atStart => exact ⟨0, by omega, by go_num, hR, by rw [hz]; exact hN, hb⟩
          case round =>
            obtain ⟨j, hj, rfl, hR, hN, hb⟩ := hrel
            by_cases hjt : j < 2 * a + 1
            · have hs := sumUp_next m (a : Nat) j (-((a : Nat) : Int))
              have hs1 := sumUp_bd m (by omega) (a : Nat) (by omega) j (-((a : Nat) : Int))
              obtain ⟨S, hS⟩ : ∃ S, Sp.sumUp m (a : Nat) j (-((a : Nat) : Int)) = S := ⟨_, rfl⟩
              rw [hS] at hN hs hs1
              obtain ⟨x, hx⟩ : ∃ x : Int, -((a : Nat) : Int) + (j : Nat) = x := ⟨_, rfl⟩
              have hx0 : -(a : Int) ≤ x ∧ x ≤ a := by omega
              have hsize := fun w => RSize_any x (by omega) (by omega) w
              obtain ⟨q, hq⟩ : ∃ q : Nat, max x (-x) = q := ⟨(max x (-x)).toNat, by omega⟩
              have hqa : q ≤ a := by omega
              rw [hx, hq, show ((a : Nat) : Int) - (q : Int) = ((a - q : Nat) : Int) by omega, Sp.cntI_nat m (by omega)] at hs
              simp only [hq] at hsize
              have c1 := hN.cellAt (by simp [rowN_len]) a (by omega)
              rw [ints_get (by simp [rowN_len]; omega)] at c1
              rw [show ((rowN m k a).set a S).getD a 0 = S by rw [List.getD_eq_getElem?_getD, List.getElem?_set_self (by rw [rowN_len]; omega)]; rfl] at c1
              have c2 := hR.cellAt (by simp [rowC_len]) (a - q) (by omega)
              rw [ints_get (by rw [rowC_len]; omega), rowC_get m k (a - q) (by omega)] at c2
              have f1 := hN.frozenAt (by simp [rowN_len]) a
              have hcb := Sp.cnt_bd (n := m) (k := a - q) (by omega) (by omega)
              obtain ⟨C, hC⟩ : ∃ C, Sp.cnt m (a - q) = C := ⟨_, rfl⟩
              rw [hC] at c2 hcb hs
              obtain ⟨d, hd⟩ : ∃ d : Nat, d = a - q := ⟨_, rfl⟩
              have haq : (a : Int) - (q : Int) = (d : Int) := by omega
              have hdk : d < k + 1 := by omega
              have hdk2 : (a : Int) - (q : Int) < (k : Int) + 1 := by omega
              have hdk3 : (q : Int) ≤ (a : Int) := by omega
              have hdk4 : (d : Int) < (k : Int) + 1 := by omega
              have hd0 : (0 : Int) ≤ (d : Int) := by omega
              have hwd : IntKind.i64.wrap (d : Int) = (d : Int) := IntWalk.i64_in _ (by omega)
              have hws : IntKind.i64.wrap (S + (C : Int)) = S + (C : Int) := IntWalk.i64_in _ (by omega)
              have hd1 : (d : Int) ≤ (k : Int) := by omega
              have ha0 : (0 : Int) ≤ (a : Int) := by omega
              have ha1 : (a : Int) ≤ (k : Int) := by omega
              have ha2 : (a : Int) < (k : Int) + 1 := by omega
              have hnat : ((a : Int) - (q : Int)).toNat = d := by omega
              have hneg : ¬ ((a : Int) - (q : Int) < 0) := by omega
              have hwq : IntKind.i64.wrap ((a : Int) - (q : Int)) = (d : Int) := by rw [IntWalk.i64_in _ (by omega)]; exact haq
              rw [← hd] at c2
              clear hd
              have hN2 := hN.stored (by simp [rowN_len]) a (.int .i64 (S + (C : Nat)))
              rw [ints_set, List.set_set, ← hs] at hN2
              have hR2 := hR.far ⟨h, a, none⟩ (by simp [Value.ownBlock]; omega) (.int .i64 (S + (C : Nat)))
              have hb2 := hb.setCell (p := ⟨h, a, none⟩) (by show B ≤ h; omega) (.int .i64 (S + (C : Nat)))
              rw [hs] at hN2
              have HN2 := Lib.hid hN2
              have HS2 := Lib.hid hs
              have hxa : x ≤ (a : Int) := hx0.2
              clear hs hS hq hC hN2
              subst hx
              go_wp2_with fail
              go_region_with (first | (go_at_call 90; refine (hsize _).mono ?_; rintro r5 w5 ⟨rfl, rfl⟩))
              all_goals
                go_wp2_with fail
                go_roundw
                case rel => exact ⟨j + 1, hjt, by go_num, hR2.drew, by rw [HS2.out]; exact HN2.out.drew, hb2.drew⟩
                case measure => simp [intOf]; omega
            · obtain rfl : j = 2 * a + 1 := by omega
              have hsc := sumUp_cnt m a (by omega) (by omega)
              rw [rowN_set m k a _ hsc] at hN
              clear hsc hz
              go_wp2_with fail
              go_roundw
              case rel => exact ⟨a + 1, hak, by go_num, hR, hN, hb⟩
              case measure => simp [intOf]; omega
        · obtain rfl : a = k + 1 := by omega
          rw [rowN_all] at hN
          go_wp2_with fail
          go_roundw
          case rel => exact ⟨m + 1, h, hlt, by go_num, rfl, hN, hb⟩
          case measure => simp [intOf]; omega
    · obtain rfl : m = n := by omega
      have c2 := hR.cellAt (by simp [rowC_len]) k (by omega)
      rw [ints_get (by rw [rowC_len]; omega), rowC_get m k k (by omega)] at c2
      go_wp2_with fail
      go_ret
      exact ⟨rfl, by first | exact hb | (rw [hB]; exact hb)⟩
end Go.Proofs.YtmfihaaiddolmaaGreatDoor

namespace Go.Proofs.YtmfihaaiddolmaaGreatDoor
open Go.RowKit

set_option maxRecDepth 100000 in
set_option maxHeartbeats 1000000 in
theorem RCost_any (b k : Nat) (hb : b < 4) (hk : k ≤ 8) (w : World) : Calls Tryz.prog 51 #[.int .i64 b, .int .i64 k] w fun e w' => e = .returned (.int .i64 (costB b k : Nat)) ∧ Below w.heap.size w w' := by
  have hbn : bandN b ≤ 8 ∧ 2 ≤ bandN b := by
    have : b = 0 ∨ b = 1 ∨ b = 2 ∨ b = 3 := by omega
    rcases this with rfl | rfl | rfl | rfl <;> decide
  have hof : offN b ≤ 8 := by
    have : b = 0 ∨ b = 1 ∨ b = 2 ∨ b = 3 := by omega
    rcases this with rfl | rfl | rfl | rfl <;> decide
  have hcb := Sp.cnt_bd (n := bandN b) (k := k) hbn.1 hk
  have hbo := fun w => RBounds_any b hb w
  have hco := fun w => RCount_any (bandN b) k hbn.1 hk w
  obtain ⟨C, hC⟩ : ∃ C, Sp.cnt (bandN b) k = C := ⟨_, rfl⟩
  have hcost : costB b k = Lib.bitLen (C - 1) := by unfold costB Sp.vbits; rw [hC]
  rw [hcost]
  rw [hC] at hcb
  simp only [hC] at hco
  obtain ⟨O, hO⟩ : ∃ O, offN b = O := ⟨_, rfl⟩
  obtain ⟨N, hN⟩ : ∃ N, bandN b = N := ⟨_, rfl⟩
  simp only [hO, hN] at hbo hco
  rw [hN] at hbn
  rw [hO] at hof
  have hmx : max ((C : Int) - 1) 0 = ((C - 1 : Nat) : Int) := by omega
  have hle := fun w => RLength_any ((C - 1 : Nat) : Int) (by omega) (by omega) w
  rw [Int.toNat_natCast] at hle
  have hdif : (O : Int) + (N : Int) - (O : Int) = (N : Int) := by omega
  have hwd : IntKind.i64.wrap (N : Int) = N := IntWalk.i64_in _ (by omega)
  have HBO := Lib.hid hbo
  have HCO := Lib.hid hco
  have HLE := Lib.hid hle
  clear hC hcost hO hN hbo hco hle
  obtain ⟨B, hB⟩ : ∃ B, w.heap.size = B := ⟨_, rfl⟩
  go_enter Tryz.func51, Tryz.ntmps51
  go_wp2_with fail
  refine (HBO.out _).mono ?_
  rintro e w1 ⟨rfl, hb1⟩
  go_wp2_with fail
  refine (HCO.out _).mono ?_
  rintro e w2 ⟨rfl, hb2⟩
  go_wp2_with fail
  refine (HLE.out _).mono ?_
  rintro e w3 ⟨rfl, rfl⟩
  go_wp2_with fail
  go_ret
  exact ⟨rfl, by have h := hb1.trans (hb2.mono hb1.size); first | exact h | (rw [hB] at h; exact h)⟩
end Go.Proofs.YtmfihaaiddolmaaGreatDoor

namespace Go.Proofs.YtmfihaaiddolmaaGreatDoor
open Go.RowKit

set_option maxRecDepth 100000 in
set_option maxHeartbeats 8000000 in
theorem RVector_any (n k : Nat) (i : Int) (hn : n ≤ 8) (hk : k ≤ 8) (h0 : 0 ≤ i) (h1 : i < (Sp.cnt n k : Nat)) (w : World) : Calls Tryz.prog 53 #[.int .i64 n, .int .i64 k, .int .i64 i] w fun e w' =>
    ∃ v, e = .returned v ∧ Row w' 3 v (intsV (Sp.vec n k i)) ∧ Below w.heap.size w w' ∧ Hid (∀ g, v.ownBlock = some g → w.heap.size ≤ g) := by
  obtain ⟨i0, hi, hz0, hz1, hz2⟩ := info_parts infoInt
  have hcb := Sp.cnt_bd hn hk
  have h1' : i < Sp.cntI n k := by rw [Sp.cntI_nat n hk]; exact h1
  have HI := Lib.hid h1'
  obtain ⟨Y, hY⟩ : ∃ Y, Sp.vec n k i = Y := ⟨_, rfl⟩
  rw [hY]
  have HY := Lib.hid hY
  have hi1 : i ≤ 1000000 := by omega
  have hR1 := Row.nil w 3
  have hb2 := Below.refl w.heap.size w
  clear h1' hY h1 hcb
  go_enter Tryz.func53, Tryz.ntmps53
  go_wp2_with fail
  go_loopw [1, 2, 7, 8] (fun kv iv ov av wr => ∃ (a q : Nat) (y : Int) (pre : List Int), a ≤ n ∧ kv = .int .i64 q ∧ iv = .int .i64 y ∧ av = .int .i64 a ∧ q ≤ 8 ∧ 0 ≤ y ∧ y ≤ 1000000 ∧ Hid (y < Sp.cntI (n - a) q) ∧ Hid (pre.length = a) ∧ Hid (pre ++ Sp.vec (n - a) q y = Y) ∧ Row wr 3 ov (intsV pre) ∧ Below w.heap.size w wr ∧ Hid (∀ g, ov.ownBlock = some g → w.heap.size ≤ g)) (fun _ _ _ av _ => n - (intOf av).toNat)
  case atStart => exact ⟨0, k, i, [], Nat.zero_le _, rfl, rfl, rfl, hk, h0, hi1, HI, Lib.hid rfl, Lib.hid HY.out, hR1, hb2, Lib.hid (by intro g hg; simp [Value.ownBlock] at hg)⟩
  case round =>
    clear hR1 hb2 h0 hi1
    obtain ⟨a, q, y, pre, ha, rfl, rfl, rfl, hq, hy0, hy1, HYB, HPL, HPV, hR, hb, hF⟩ := hrel
    by_cases hlt : a < n
    · obtain ⟨m, hm⟩ : ∃ m, n - a = m + 1 := ⟨n - a - 1, by omega⟩
      have hm8 : m < 8 := by omega
      have hyb := HYB.out
      have hpv := HPV.out
      rw [hm] at hyb hpv
      have hs : Sp.sumUp m q (2 * (q : Int) + 1).toNat (-(q : Int)) = Sp.cntI (m + 1) q := by
        rw [show (2 * (q : Int) + 1).toNat = 2 * q + 1 from by omega, Sp.sumUp_all m hm8 q (by omega)]
        unfold Sp.cntI
        rw [if_neg (by omega)]
        simp
      rw [← hs] at hyb
      have hvf := Sp.vfind_ok m q (2 * (q : Int) + 1).toNat y (-(q : Int)) hy0 hyb
      obtain ⟨R, hRR⟩ : ∃ R, Sp.vfind m q (2 * (q : Int) + 1).toNat y (-(q : Int)) = R := ⟨_, rfl⟩
      rw [hRR] at hvf
      have hvec : Sp.vec (m + 1) q y = R.1 :: Sp.vec m ((q : Int) - max R.1 (-R.1)) R.2 := by rw [Sp.vec, hRR]
      rw [hvec] at hpv
      obtain ⟨r0, r1, r2, r3⟩ := hvf
      have HPV2 := Lib.hid hpv
      have HR := Lib.hid hRR
      have HSB := Lib.hid hyb
      have HR3 := Lib.hid r3
      have ha0 : (0 : Int) ≤ a := by omega
      have hd1 : (n : Int) - (a : Int) = ((m + 1 : Nat) : Int) := by omega
      have hw0 : IntKind.i64.wrap ((m + 1 : Nat) : Int) = ((m + 1 : Nat) : Int) := IntWalk.i64_in _ (by omega)
      have HMM := Lib.hid hm
      clear hpv hRR hyb HYB HPV hs hvec r3 hm
      go_wp2_with fail
      go_loopw [2, 9] (fun iv xv wr => ∃ (j : Nat) (z x : Int), iv = .int .i64 z ∧ xv = .int .i64 x ∧ x + j = q + 1 ∧ -(q : Int) ≤ x ∧ 0 ≤ z ∧ z ≤ 1000000 ∧ Hid (z < Sp.sumUp m q j x) ∧ Hid (Sp.vfind m q j z x = R) ∧ Row wr 3 u7 (intsV pre) ∧ Below w.heap.size w wr) (fun _ xv _ => (9 - intOf xv).toNat)
      case atStart =>
        exact ⟨(2 * (q : Int) + 1).toNat, y, -(q : Int), rfl, rfl, by omega, by omega, hy0, hy1, HSB, HR, hR, hb⟩
      case round =>
        clear hR hb HSB HR
        obtain ⟨j, z, x, rfl, rfl, hxj, hxq, hz0', hz1', HSB, HR, hR, hb⟩ := hrel
        obtain ⟨j, rfl⟩ : ∃ i, j = i + 1 := by
          cases j with
          | zero => have := HSB.out; simp only [Sp.sumUp] at this; omega
          | succ i => exact ⟨i, rfl⟩
        obtain ⟨s, hs⟩ : ∃ s : Nat, max x (-x) = s := ⟨(max x (-x)).toNat, by omega⟩
        obtain ⟨p, hp⟩ : ∃ p : Nat, (q : Int) - (s : Int) = p := ⟨((q : Int) - (s : Int)).toNat, by omega⟩
        have hcq : Sp.cntI m ((q : Int) - max x (-x)) = Sp.cnt m p := by rw [hs, hp, Sp.cntI_nat m (by omega)]
        have hcb := Sp.cnt_bd (n := m) (k := p) (by omega) (by omega)
        have hmi : ((m + 1 : Nat) : Int) - 1 = (m : Int) := by omega
        have hw1 : IntKind.i64.wrap (m : Int) = (m : Int) := IntWalk.i64_in _ (by omega)
        have hw2 : IntKind.i64.wrap (p : Int) = (p : Int) := IntWalk.i64_in _ (by omega)
        have hvs := RSize_any x (by omega) (by omega)
        rw [hs] at hvs
        obtain ⟨c, hc⟩ : ∃ c, Sp.cnt m p = c := ⟨_, rfl⟩
        have hof := fun w => RCount_any m p (by omega) (by omega) w
        rw [hc] at hcq hcb
        simp only [hc] at hof
        have HOF := Lib.hid hof
        have HCQ := Lib.hid hcq
        have HS := Lib.hid hs
        clear hof hc hcq hs
        go_wp2_with fail
        refine (hvs _).mono ?_
        rintro e2 w2 ⟨rfl, rfl⟩
        go_wp2_with fail
        refine (HOF.out _).mono ?_
        rintro e3 w3 ⟨rfl, hb3'⟩
        have hR3 := hR.keep (Kept.of_below hb3') (S := fun _ => False) (fun _ _ h => h)
        have hb3 : Below w.heap.size w w3 := hb.trans (hb3'.mono hb.size)
        clear hR hb hb3'
        by_cases hcz : (c : Int) ≤ z
        · have hsb := HSB.out
          simp only [Sp.sumUp] at hsb
          rw [HCQ.out] at hsb
          have hr := HR.out
          rw [Sp.vfind_next (by rw [HCQ.out]; exact hcz), HCQ.out] at hr
          have HSB2 := Lib.hid (show z - (c : Int) < Sp.sumUp m q j (x + 1) by omega)
          have HR2 := Lib.hid hr
          clear hsb hr HSB HR
          go_wp2_with fail
          refine (hvs _).mono ?_
          rintro e4 w4 ⟨rfl, rfl⟩
          go_wp2_with fail
          refine (HOF.out _).mono ?_
          rintro e5 w5 ⟨rfl, hb5'⟩
          have hR5 := hR3.keep (Kept.of_below hb5') (S := fun _ => False) (fun _ _ h => h)
          have hb5 : Below w.heap.size w w5 := hb3.trans (hb5'.mono hb3.size)
          go_wp2_with fail
          go_roundw
          case rel => exact ⟨j, z - c, x + 1, rfl, rfl, by omega, by omega, by omega, by omega, HSB2, HR2, hR5, hb5⟩
          case measure => simp [intOf]; omega
        · have hr := HR.out
          rw [Sp.vfind_done (by rw [HCQ.out]; exact hcz)] at hr
          subst hr
          have hpv := HPV2.out
          simp only at hpv
          have HPV3 := Lib.hid hpv
          have hr3 := HR3.out
          simp only at hr3
          have hcq := HCQ.out
          have hmx : max x (-x) = (s : Int) := HS.out
          rw [hmx, hp] at hr3
          have HR4 := Lib.hid hr3
          clear hpv hr3 hcq HSB HR HPV2 HR3
          have hlen : (intsV pre).length = a := by rw [List.length_map, HPL.out]
          have HLEN := Lib.hid hlen
          clear hlen
          go_wp2_with (at_builtin; refine wpList_append_lies _ rfl (.tmp 41) (.tmp 43) 83 rfl 0 3 i0 (.int .i64 0) 1 8 Tryz.underlying83 hi hz0 hz1 hz2 rfl (by decide) u7 a (intsV pre) rfl (by have h := hR3.alloc (.cells #[.int .i64 x] 3); unfold Row at h; rw [HLEN.out] at h; exact h) ⟨w3.heap.size, 0, none⟩ 1 1 [.int .i64 x] rfl rfl (World.news_of_block (World.alloc_heap_new _ _)) (by simp [Value.oneCell']) (by decide) (by unfold maxLen; omega) (by omega) (Nat.zero_le _) _ rfl ?_; intro gb capb w6 hown6 hgrow6 hat6 hlt6)
          have hR6 : Row w6 3 (.slice (some ⟨gb, 0, none⟩) (a + 1) capb) (intsV (pre ++ [x])) := by
            rw [intsV, List.map_append]
            exact Row.mk hown6
          have hb6 : Below w.heap.size w w6 := (hb3.alloc hb3.size _).grown hgrow6 (by simp only [World.size_alloc]; have := hb3.size; omega) (fun g hg => hF.out g hg)
          have hF6 : Hid (∀ g, (Value.slice (some ⟨gb, 0, none⟩) (a + 1) capb).ownBlock = some g → w.heap.size ≤ g) := Lib.hid (fun g hg => by
            obtain rfl : gb = g := by simpa [Value.ownBlock] using hg
            rcases hat6 with h | h
            · exact hF.out _ h
            · have := hb3.size; simp at h; omega)
          refine (hvs _).mono ?_
          rintro e7 w7 ⟨rfl, rfl⟩
          go_wp2_with fail
          go_roundw
          case rel =>
            refine ⟨a + 1, p, z, pre ++ [x], by omega, rfl, rfl, by go_num, by omega, hz0', hz1', ?_, ?_, ?_, hR6, hb6, hF6⟩
            · exact Lib.hid (by rw [show n - (a + 1) = m from by have := HMM.out; omega]; exact HR4.out)
            · exact Lib.hid (by rw [List.length_append, HPL.out]; rfl)
            · refine Lib.hid ?_
              have h := HPV3.out
              rw [hmx, hp] at h
              rw [show n - (a + 1) = m from by have := HMM.out; omega, List.append_assoc]
              exact h
          case measure => simp [intOf]; omega
    · obtain rfl : a = n := by omega
      have hpv := HPV.out
      rw [Nat.sub_self, Sp.vec, List.append_nil] at hpv
      subst hpv
      go_wp2_with fail
      go_ret
      exact ⟨_, rfl, hR, hb, hF⟩
end Go.Proofs.YtmfihaaiddolmaaGreatDoor
