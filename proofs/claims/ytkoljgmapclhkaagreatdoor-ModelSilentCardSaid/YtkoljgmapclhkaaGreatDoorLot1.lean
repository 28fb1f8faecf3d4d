/- The walks of package lapl: the iterator of all cells; Cell; Find. The walks of package lapl over the iterator of all cells: Cell and Find. The walks of package lapl over the iterator of all cells: Cell and Find. The walks of the range decoder. The walks of the range decoder: a new one; a small number taken. The walks of the range encoder: carry, settle. The walks of the range encoder: a cell put. The walks of (*rang.Enc).Bits and (*rang.Dec).Bits. The walks of small functions under the decoder: cuts, lengths, shifts, bands, sizes. The walks of package angle: whole-number cosines; and fix.Shift. The walk of (vect.counts).of: whatever it has found already, it finds how many vectors there are. The walks of vect.Count, vect.Bits and vect.Vector. -/
import Derived.Test.YtkoljgmapclhkaaGreatDoorLot0
import Derived.Test.YtkoljgmapclhkaaGreatDoorShelf
import Derived.StillTailTactics
import Derived.Maps.Own
import Derived.Maps.OwnSet
import Derived.DeepKeys4
import Derived.Deep.RegionHeld3
set_option linter.unusedSimpArgs false
set_option linter.unusedVariables false
namespace Go.Proofs.YtkoljgmapclhkaaGreatDoor
open Go.RowKit Go.Shelf
attribute [local go_sem] Oper.semAt_some

set_option maxHeartbeats 400000 in
theorem width_any (k : Nat) (h1 : 1 ≤ k) (h2 : k ≤ 60) (w : World) :
    Calls Tryz.prog 175 #[.int .i64 (k : Int)] w fun e w' => e = .returned (.int .i64 (Sp.lw k)) ∧ w = w' := by
  have hk : ((k : Int) - 1).toNat = k - 1 := by omega
  have Hk := Lib.hid hk
  clear hk
  go_enter Tryz.func175, Tryz.ntmps175
  go_wp2
  all_goals
    go_ret
    refine ⟨retInt ?_, rfl⟩
    unfold Sp.lw
    omega

set_option maxHeartbeats 400000 in
theorem zero_any (w : World) : Calls Tryz.prog 174 #[] w fun e w' => e = .returned (.int .i64 12568) ∧ w = w' := by
  go_enter Tryz.func174, Tryz.ntmps174
  go_wp2
  go_loop [1, 3] (fun n i => ∃ k : Nat, k ≤ 24 ∧ i = .int .i64 k ∧ n = .int .i64 (Sp.lrest k)) (fun _ i => 24 - (intOf i).toNat)
  case atStart => exact ⟨0, by omega, rfl, rfl⟩
  case round =>
    obtain ⟨k, hk, rfl, rfl⟩ := hrel
    have hb := Sp.lrest_bd k
    have hw := Sp.lw_bd (k + 1)
    by_cases hlt : k < 24
    · go_wp2_with (go_at_call 175; refine (width_any (k + 1) (by omega) (by omega) _).mono ?_; rintro e w' ⟨rfl, rfl⟩)
      go_round
      case rel => exact ⟨k + 1, by omega, by go_num, rfl⟩
      case measure => simp [intOf]; omega
    · obtain rfl : k = 24 := by omega
      go_wp2
      go_ret
      exact ⟨retInt Sp.lrest_24, rfl⟩

theorem cells_any (w : World) : Calls Tryz.prog 147 #[] w fun e w' => e = .returned (.func (.func 173) #[] #[]) ∧ w = w' := by
  go_enter Tryz.func147, Tryz.ntmps147
  go_wp2
  go_ret
  exact ⟨rfl, rfl⟩

def encLC (c : Sp.LC) : Array Value := #[.agg #[.int .i64 c.1, .int .i64 c.2.1, .int .i64 c.2.2]]
def anyKp (_ _ : World) : Prop := True

set_option maxRecDepth 100000 in
set_option maxHeartbeats 1000000 in
theorem cells_stops (n : Nat) (hn : 1 ≤ n) (w : World) :
    SeqStopsK Fence.wide n Tryz.prog 173 #[] encLC anyKp (fun xs => xs = Sp.lcells) (fun pre => pre <+: Sp.lcells) 49 w := fun l J Jx W _ _ _ hY h0 => by
  refine callsIn_of_wp Tryz.func173 rfl trivial ?_ rfl
  simp only [Tryz.ntmps173, List.size_toArray, List.length_cons, List.length_nil, Nat.reduceAdd, Nat.reduceSub, Array.replicate_succ, Array.replicate_zero, List.push_toArray, List.append_toArray, List.nil_append, List.cons_append]
  obtain ⟨f1, t1, a1, b1, hy1, hR1⟩ := hY [] (0, 0, 12568) W h0 (by simp)
  dsimp only [encLC] at hy1
  gi_wp2_with (refine ⟨trivial, ?_⟩; gi_at_call 174; refine (callsIn_wide.2 (zero_any _)).mono ?_; rintro e w' ⟨rfl, rfl⟩)
  refine hR1.mono ?_
  rintro e W1 (⟨rfl, hJ1, _⟩ | ⟨rfl, hx1⟩)
  · gi_wp2
    gi_loopw [2, 3] (fun a k wr => ∃ m : Nat, m ≤ 24 ∧ k = .int .i64 (m + 1) ∧ a = .int .i64 (Sp.lat m) ∧ J (Sp.lpre m) wr) (fun _ k _ => 25 - (intOf k).toNat)
    case atStart => exact ⟨0, by omega, rfl, rfl, hJ1⟩
    case round =>
      obtain ⟨m, hm, rfl, rfl, hJ⟩ := hrel
      have hb := Sp.lat_bd m
      have hw := Sp.lw_bd (m + 1)
      have hl := Sp.lpre_length m
      by_cases hlt : m < 24
      · obtain ⟨f1, t1, a1, b1, hy1, hR1⟩ := hY _ ((m : Int) + 1, Sp.lat m, Sp.lw (m + 1)) wr hJ (by omega)
        dsimp only [encLC] at hy1
        gi_wp2_with (refine ⟨trivial, ?_⟩; gi_at_call 175; refine (callsIn_wide.2 (width_any (m + 1) (by omega) (by omega) _)).mono ?_; rintro e w' ⟨rfl, rfl⟩)
        refine hR1.mono ?_
        rintro e W2 (⟨rfl, hJ2, _⟩ | ⟨rfl, hx2⟩)
        · obtain ⟨f2, t2, a2, b2, hy2, hR2⟩ := hY _ (-((m : Int) + 1), Sp.lat m + Sp.lw (m + 1), Sp.lw (m + 1)) W2 hJ2 (by rw [List.length_append]; simp; omega)
          dsimp only [encLC] at hy2
          gi_wp2
          refine hR2.mono ?_
          rintro e W3 (⟨rfl, hJ3, _⟩ | ⟨rfl, hx3⟩)
          · gi_wp2
            go_roundw
            case rel => exact ⟨m + 1, by omega, by go_num, by go_num, hJ3⟩
            case measure => simp [intOf]; omega
          · gi_wp2
            refine bodyPost_ret (results_none rfl _ _ _) rfl ?_
            exact ⟨⟨_, rfl⟩, .inr ⟨_, Sp.lpre_mono (n := m + 1) (by omega), hx3⟩⟩
        · gi_wp2
          refine ⟨fun _ h => (by cases h), ?_⟩
          gi_wp2
          refine bodyPost_ret (results_none rfl _ _ _) rfl ?_
          exact ⟨⟨_, rfl⟩, .inr ⟨_, (Sp.lpre_half m).trans (Sp.lpre_mono (by omega)), hx2⟩⟩
      · obtain rfl : m = 24 := by omega
        gi_wp2
        go_end0
        exact ⟨⟨_, rfl⟩, .inl ⟨_, rfl, hJ⟩⟩
  · gi_wp2
    refine bodyPost_ret (results_none rfl _ _ _) rfl ?_
    exact ⟨⟨_, rfl⟩, .inr ⟨_, Sp.lpre_mono (n := 0) (by omega), hx1⟩⟩
end Go.Proofs.YtkoljgmapclhkaaGreatDoor

namespace Go.Proofs.YtkoljgmapclhkaaGreatDoor
open Go.RowKit Go.Shelf
attribute [local go_sem] Oper.semAt_some

theorem anyKp_t {A B C : World} (_ : anyKp A B) (_ : anyKp B C) : anyKp A C := trivial

set_option maxRecDepth 100000 in
set_option maxHeartbeats 2000000 in
theorem Cell_any (v : Int) (w : World) :
    Calls Tryz.prog 111 #[.int .i64 v] w fun e W' => e = .returned (.tuple #[.int .i64 (Sp.cellOf v).1, .int .i64 (Sp.cellOf v).2.1, .bool (Sp.cellOf v).2.2]) ∧ Below w.heap.size w W' := by
  refine (callsIn_wide (n := 3)).1 ?_
  refine callsIn_of_wp_marks Tryz.func111 rfl trivial ?_ rfl
  simp only [Tryz.ntmps111, List.size_toArray, List.length_cons, List.length_nil, Nat.reduceAdd, Nat.reduceSub, Array.replicate_succ, Array.replicate_zero, List.push_toArray, List.append_toArray, List.nil_append, List.cons_append]
  gi_wp2_with (refine ⟨trivial, ?_⟩; gi_at_call 147; refine (callsIn_wide.2 (cells_any _)).mono ?_; rintro e w' ⟨rfl, rfl⟩)
  have b0 : Blk (w.alloc (.cells #[.int .i64 v] 3)) w.heap.size #[.int .i64 v] 3 := Blk.new _ _ _
  have b1 := Blk.new (w.alloc (.cells #[.int .i64 v] 3)) #[.int .i64 0] 3
  have b2 := Blk.new ((w.alloc (.cells #[.int .i64 v] 3)).alloc (.cells #[.int .i64 0] 3)) #[.int .i64 0] 3
  have b3 := Blk.new (((w.alloc (.cells #[.int .i64 v] 3)).alloc (.cells #[.int .i64 0] 3)).alloc (.cells #[.int .i64 0] 3)) #[.bool false] 4
  simp only [World.size_alloc] at b1 b2 b3
  have hB0 : Below w.heap.size w ((((w.alloc (.cells #[.int .i64 v] 3)).alloc (.cells #[.int .i64 0] 3)).alloc (.cells #[.int .i64 0] 3)).alloc (.cells #[.bool false] 4)) := by go_grown
  refine wpIn_rangeFunc_ownH rfl (by omega) (gf := 173) (lb := #[]) rfl trivial (enters_of Tryz.func173 (by kernel_rfl) rfl)
    (cells_stops 2 (by omega) w) anyKp_t (fun _ _ _ _ _ _ _ _ => trivial) hB0 (fun _ => rfl)
    (fun pre W => ((((Blk W w.heap.size #[.int .i64 v] 3 ∧ Blk W (w.heap.size + 1) #[.int .i64 0] 3) ∧ Blk W (w.heap.size + 1 + 1) #[.int .i64 0] 3) ∧ Blk W (w.heap.size + 1 + 1 + 1) #[.bool false] 4) ∧ pre.find? (fun c => c.1 == v) = none) ∧ Below w.heap.size w W)
    (fun c pre W => (c = .ret ∧ ∃ q x, pre = q ++ [x] ∧ q.find? (fun c => c.1 == v) = none ∧ x.1 = v ∧ Blk W (w.heap.size + 1) #[.int .i64 x.2.1] 3 ∧ Blk W (w.heap.size + 1 + 1) #[.int .i64 x.2.2] 3 ∧ Blk W (w.heap.size + 1 + 1 + 1) #[.bool true] 4) ∧ Below w.heap.size w W)
    (OwnFrom.and (OwnFrom.and (OwnFrom.and (OwnFrom.and (OwnFrom.and (Own.from (blk_own _ _ _) _) (Own.from (blk_own _ _ _) _)) (Own.from (blk_own _ _ _) _)) (Own.from (blk_own _ _ _) _)) (ownFrom_pure _ _)) (ownFrom_below (Nat.le_refl _) (by simp; omega)))
    (fun c => OwnFrom.and ?ix (ownFrom_below (Nat.le_refl _) (by simp; omega)))
    ⟨⟨⟨⟨⟨((b0.alloc _).alloc _).alloc _, (b1.alloc _).alloc _⟩, b2.alloc _⟩, b3⟩, rfl⟩, hB0⟩
    (fun x a' W => ∃ Bx, w.heap.size + 4 ≤ Bx ∧ Blk W Bx #[.int .i64 x.1, .int .i64 x.2.1, .int .i64 x.2.2] 193 ∧ a' = { tmps := #[.int .i64 v, .pointer (some ⟨w.heap.size, 0, none⟩), .pointer (some ⟨w.heap.size + 1, 0, none⟩), .pointer (some ⟨w.heap.size + 1 + 1, 0, none⟩), .pointer (some ⟨w.heap.size + 1 + 1 + 1, 0, none⟩), .pointer (some ⟨Bx, 0, none⟩), .func (.func 173) #[] #[], .agg #[.int .i64 x.1, .int .i64 x.2.1, .int .i64 x.2.2], undef, undef, undef, undef, undef, undef, undef, undef], defers := [] })
    ?ax ?assign ?body ?done ?stop
  case ix =>
    rintro pre A B row ⟨rfl, q, x, hq, hn, hx, k1, k2, k3⟩ hg hr
    exact ⟨rfl, q, x, hq, hn, hx, k1.ownF hg hr, k2.ownF hg hr, k3.ownF hg hr⟩
  case ax =>
    rintro x a' _ A B row ⟨Bx, h1, h2, h3⟩ hg hr
    exact ⟨Bx, h1, h2.ownF hg hr, h3⟩
  case assign =>
    rintro l pre x W K ⟨⟨⟨⟨⟨k0, k1⟩, k2⟩, k3⟩, hf⟩, hB⟩ hK
    dsimp only [encLC]
    gi_wp2
    have hsz := hB.size
    have hs3 := k3.lt
    exact hK _ _ ((KeepsOthers.alloc _ _).from _) trivial ⟨⟨⟨⟨⟨k0.alloc _, k1.alloc _⟩, k2.alloc _⟩, k3.alloc _⟩, hf⟩, hB.alloc hsz _⟩ ⟨W.heap.size, by omega, Blk.new _ _ _, rfl⟩
  case body =>
    rintro l pre x a' W hl ⟨r, hr⟩ ⟨⟨⟨⟨⟨k0, k1⟩, k2⟩, k3⟩, hf⟩, hB⟩ ⟨Bx, hBx, bX, rfl⟩ hlt
    have e0 := k0.cell 0
    have e1 := bX.cell 0
    have e2 := bX.cell 1
    have e3 := bX.cell 2
    have g1 := k1.cell 0
    have g2 := k2.cell 0
    have g3 := k3.cell 0
    simp only [List.getElem?_toArray, List.getElem?_cons_zero, List.getElem?_cons_succ] at e0 e1 e2 e3 g1 g2 g3
    have f1 := k1.frozen 0
    have f2 := k2.frozen 0
    have f3 := k3.frozen 0
    have hs3 := k3.lt
    have hmx : Tryz.prog.follows .mixedOrders = true := by kernel_rfl
    have n1 : w.heap.size + 1 ≠ Bx := by omega
    have n2 : w.heap.size + 1 + 1 ≠ Bx := by omega
    gi_wp2
    · gi_region_with_o (fail)
      all_goals gi_wp2
      all_goals (try go_bits)
      all_goals
        have hx : x.1 = v := by simpa using ‹(x.1 == v) = true›
        refine ⟨?_, ⟨rfl, pre, x, rfl, hf, hx, ?_, ?_, ?_⟩, ?_⟩
        · (with_reducible refine KeepsOthers.from ?_ _; repeat (first | (with_reducible exact KeepsOthers.refl _) | (with_reducible refine KeepsOthers.trans ?_ (KeepsOthers.setCell _ _ _)) | (with_reducible refine KeepsOthers.trans ?_ (KeepsOthers.alloc _ _)) | (with_reducible refine KeepsOthers.trans ?_ (KeepsOthers.drew _))))
        · repeat' (first | (with_reducible assumption) | (with_reducible refine Blk.drew ?_) | (with_reducible refine Blk.drewN ?_ _) | (with_reducible apply Blk.set1) | ((with_reducible refine Blk.other ?_ ?ne _); case ne => (first | (simp only []; omega) | omega)) | (with_reducible refine Blk.alloc ?_ _))
        · repeat' (first | (with_reducible assumption) | (with_reducible refine Blk.drew ?_) | (with_reducible refine Blk.drewN ?_ _) | (with_reducible apply Blk.set1) | ((with_reducible refine Blk.other ?_ ?ne _); case ne => (first | (simp only []; omega) | omega)) | (with_reducible refine Blk.alloc ?_ _))
        · repeat' (first | (with_reducible assumption) | (with_reducible refine Blk.drew ?_) | (with_reducible refine Blk.drewN ?_ _) | (with_reducible apply Blk.set1) | ((with_reducible refine Blk.other ?_ ?ne _); case ne => (first | (simp only []; omega) | omega)) | (with_reducible refine Blk.alloc ?_ _))
        · go_grown
    · refine ⟨(KeepsOthers.refl _).from _, trivial, ⟨⟨⟨⟨k0, k1⟩, k2⟩, k3⟩, ?_⟩, hB⟩
      refine Sp.find_none_append hf ?_
      assumption
  case done =>
    rintro D ys W hD rfl ⟨⟨⟨⟨⟨k0, k1⟩, k2⟩, k3⟩, hf⟩, hB⟩ hK
    have f1 := k1.frozen 0
    have f2 := k2.frozen 0
    have f3 := k3.frozen 0
    have g1 := k1.cell 0
    have g2 := k2.cell 0
    have g3 := k3.cell 0
    simp only [List.getElem?_toArray, List.getElem?_cons_zero, List.getElem?_cons_succ] at g1 g2 g3
    gi_wp2
    have hK1 := (KeepsOthers.setCell W ⟨w.heap.size + 1, 0, none⟩ (.int .i64 0)).same D _ hK rfl
    have hK2 := (KeepsOthers.setCell _ ⟨w.heap.size + 1 + 1, 0, none⟩ (.int .i64 0)).same D _ hK1 rfl
    have hK3 := (KeepsOthers.setCell _ ⟨w.heap.size + 1 + 1 + 1, 0, none⟩ (.bool false)).same D _ hK2 rfl
    refine ⟨by simp, .inl ⟨_, _, rfl, run_takeDeferred hK3, ?_⟩⟩
    obtain ⟨W3, hW3⟩ : ∃ W3, ((W.setCell ⟨w.heap.size + 1, 0, none⟩ (.int .i64 0)).setCell ⟨w.heap.size + 1 + 1, 0, none⟩ (.int .i64 0)).setCell ⟨w.heap.size + 1 + 1 + 1, 0, none⟩ (.bool false) = W3 := ⟨_, rfl⟩
    have k1' : Blk W3 (w.heap.size + 1) #[.int .i64 0] 3 := by rw [← hW3]; repeat' (first | (with_reducible assumption) | (with_reducible refine Blk.drew ?_) | (with_reducible refine Blk.drewN ?_ _) | (with_reducible apply Blk.set1) | ((with_reducible refine Blk.other ?_ ?ne _); case ne => (first | (simp only []; omega) | omega)) | (with_reducible refine Blk.alloc ?_ _))
    have k2' : Blk W3 (w.heap.size + 1 + 1) #[.int .i64 0] 3 := by rw [← hW3]; repeat' (first | (with_reducible assumption) | (with_reducible refine Blk.drew ?_) | (with_reducible refine Blk.drewN ?_ _) | (with_reducible apply Blk.set1) | ((with_reducible refine Blk.other ?_ ?ne _); case ne => (first | (simp only []; omega) | omega)) | (with_reducible refine Blk.alloc ?_ _))
    have k3' : Blk W3 (w.heap.size + 1 + 1 + 1) #[.bool false] 4 := by rw [← hW3]; repeat' (first | (with_reducible assumption) | (with_reducible refine Blk.drew ?_) | (with_reducible refine Blk.drewN ?_ _) | (with_reducible apply Blk.set1) | ((with_reducible refine Blk.other ?_ ?ne _); case ne => (first | (simp only []; omega) | omega)) | (with_reducible refine Blk.alloc ?_ _))
    have hB3 : Below w.heap.size w W3 := by rw [← hW3]; go_grown
    rw [hW3] at hK3 ⊢
    have r1 := (k1'.ownF (n := 0) (grownBy_putObj' _ D (.deferred none)) (fun r e => by cases e; exact ⟨Nat.zero_le _, _, hK3, rfl⟩)).cell 0
    have r2 := (k2'.ownF (n := 0) (grownBy_putObj' _ D (.deferred none)) (fun r e => by cases e; exact ⟨Nat.zero_le _, _, hK3, rfl⟩)).cell 0
    have r3 := (k3'.ownF (n := 0) (grownBy_putObj' _ D (.deferred none)) (fun r e => by cases e; exact ⟨Nat.zero_le _, _, hK3, rfl⟩)).cell 0
    simp only [List.getElem?_toArray, List.getElem?_cons_zero] at r1 r2 r3
    refine ⟨.tuple #[.int .i64 0, .int .i64 0, .bool false], ?_, by rw [Sp.cellOf_miss hf], hB3.trans (belowK_b (w := w) (Nat.le_refl _) _ D _ _ (by simp at hD; omega) hK3 rfl rfl)⟩
    simp [results, Tryz.f111, go_sem, r1, r2, r3]
  case stop =>
    rintro D c pre W hD hpre ⟨⟨rfl, q, x, rfl, hq, hx, k1, k2, k3⟩, hB⟩ hK
    gi_wp2
    refine ⟨by simp, .inl ⟨_, _, rfl, run_takeDeferred hK, ?_⟩⟩
    have r1 := (k1.ownF (n := 0) (grownBy_putObj' _ D (.deferred none)) (fun r e => by cases e; exact ⟨Nat.zero_le _, _, hK, rfl⟩)).cell 0
    have r2 := (k2.ownF (n := 0) (grownBy_putObj' _ D (.deferred none)) (fun r e => by cases e; exact ⟨Nat.zero_le _, _, hK, rfl⟩)).cell 0
    have r3 := (k3.ownF (n := 0) (grownBy_putObj' _ D (.deferred none)) (fun r e => by cases e; exact ⟨Nat.zero_le _, _, hK, rfl⟩)).cell 0
    simp only [List.getElem?_toArray, List.getElem?_cons_zero] at r1 r2 r3
    refine ⟨.tuple #[.int .i64 x.2.1, .int .i64 x.2.2, .bool true], ?_, by rw [Sp.cellOf_hit hpre hq hx], hB.trans (belowK_b (w := w) (Nat.le_refl _) _ D _ _ (by simp at hD; omega) hK rfl rfl)⟩
    simp [results, Tryz.f111, go_sem, r1, r2, r3]
end Go.Proofs.YtkoljgmapclhkaaGreatDoor

namespace Go.Proofs.YtkoljgmapclhkaaGreatDoor
open Go.RowKit Go.Shelf
attribute [local go_sem] Oper.semAt_some


def inW (p : Int) (c : Sp.LC) : Bool := decide (c.2.1 ≤ p) && decide (p < wrap64 (c.2.1 + c.2.2))
theorem inW_eq (p : Int) : Sp.lcells.find? (inW p) = Sp.lcells.find? (Sp.inCell p) := Sp.find_congr fun x hx => by
  have := Sp.lcells_bd x hx
  unfold inW Sp.inCell
  rw [show wrap64 (x.2.1 + x.2.2) = x.2.1 + x.2.2 from by unfold wrap64; omega]
def IxF (p : Int) (b : Nat) (c : Code) (pre : List Sp.LC) (W : World) : Prop :=
  c = .ret ∧ ∃ q x, pre = q ++ [x] ∧ q.find? (inW p) = none ∧ inW p x = true ∧ Blk W (b + 1) #[.int .i64 x.1] 3 ∧ Blk W (b + 1 + 1) #[.bool true] 4

set_option maxRecDepth 100000 in
set_option maxHeartbeats 2000000 in
theorem Find_any (p : Int) (w : World) :
    Calls Tryz.prog 110 #[.int .i64 p] w fun e W' => e = .returned (.tuple #[.int .i64 (Sp.findOf p).1, .bool (Sp.findOf p).2]) ∧ Below w.heap.size w W' := by
  refine (callsIn_wide (n := 3)).1 ?_
  refine callsIn_of_wp_marks Tryz.func110 rfl trivial ?_ rfl
  simp only [Tryz.ntmps110, List.size_toArray, List.length_cons, List.length_nil, Nat.reduceAdd, Nat.reduceSub, Array.replicate_succ, Array.replicate_zero, List.push_toArray, List.append_toArray, List.nil_append, List.cons_append]
  gi_wp2_with (refine ⟨trivial, ?_⟩; gi_at_call 147; refine (callsIn_wide.2 (cells_any _)).mono ?_; rintro e w' ⟨rfl, rfl⟩)
  have b0 : Blk (w.alloc (.cells #[.int .i64 p] 3)) w.heap.size #[.int .i64 p] 3 := Blk.new _ _ _
  have b1 := Blk.new (w.alloc (.cells #[.int .i64 p] 3)) #[.int .i64 0] 3
  have b2 := Blk.new ((w.alloc (.cells #[.int .i64 p] 3)).alloc (.cells #[.int .i64 0] 3)) #[.bool false] 4
  simp only [World.size_alloc] at b1 b2
  have hB0 : Below w.heap.size w (((w.alloc (.cells #[.int .i64 p] 3)).alloc (.cells #[.int .i64 0] 3)).alloc (.cells #[.bool false] 4)) := by go_grown
  refine wpIn_rangeFunc_ownH rfl (by omega) (gf := 173) (lb := #[]) rfl trivial (enters_of Tryz.func173 (by kernel_rfl) rfl)
    (cells_stops 2 (by omega) w) anyKp_t (fun _ _ _ _ _ _ _ _ => trivial) hB0 (fun _ => rfl)
    (fun pre W => (((Blk W w.heap.size #[.int .i64 p] 3 ∧ Blk W (w.heap.size + 1) #[.int .i64 0] 3) ∧ Blk W (w.heap.size + 1 + 1) #[.bool false] 4) ∧ Sp.Miss (inW p) pre) ∧ Below w.heap.size w W)
    (fun c pre W => IxF p w.heap.size c pre W ∧ Below w.heap.size w W)
    (OwnFrom.and (OwnFrom.and (OwnFrom.and (OwnFrom.and (Own.from (blk_own _ _ _) _) (Own.from (blk_own _ _ _) _)) (Own.from (blk_own _ _ _) _)) (ownFrom_pure _ _)) (ownFrom_below (Nat.le_refl _) (by simp; omega)))
    (fun c => OwnFrom.and ?ix (ownFrom_below (Nat.le_refl _) (by simp; omega)))
    ⟨⟨⟨⟨(b0.alloc _).alloc _, b1.alloc _⟩, b2⟩, rfl⟩, hB0⟩
    (fun x a' W => ∃ Bx, w.heap.size + 3 ≤ Bx ∧ Blk W Bx #[.int .i64 x.1, .int .i64 x.2.1, .int .i64 x.2.2] 193 ∧ a' = { tmps := #[.int .i64 p, .pointer (some ⟨w.heap.size, 0, none⟩), .pointer (some ⟨w.heap.size + 1, 0, none⟩), .pointer (some ⟨w.heap.size + 1 + 1, 0, none⟩), .pointer (some ⟨Bx, 0, none⟩), .func (.func 173) #[] #[], .agg #[.int .i64 x.1, .int .i64 x.2.1, .int .i64 x.2.2], undef, undef, undef, undef, undef, undef, undef, undef, undef, undef, undef, undef, undef, undef, undef], defers := [] })
    ?ax ?assign ?body ?done ?stop
  case ix =>
    rintro pre A B row ⟨rfl, q, x, hq, hn, hx, k1, k2⟩ hg hr
    exact ⟨rfl, q, x, hq, hn, hx, k1.ownF hg hr, k2.ownF hg hr⟩
  case ax =>
    rintro x a' _ A B row ⟨Bx, h1, h2, h3⟩ hg hr
    exact ⟨Bx, h1, h2.ownF hg hr, h3⟩
  case assign =>
    rintro l pre x W K ⟨⟨⟨⟨k0, k1⟩, k2⟩, hf⟩, hB⟩ hK
    dsimp only [encLC]
    gi_wp2
    have hsz := hB.size
    have hs3 := k2.lt
    exact hK _ _ ((KeepsOthers.alloc _ _).from _) trivial ⟨⟨⟨⟨k0.alloc _, k1.alloc _⟩, k2.alloc _⟩, hf⟩, hB.alloc hsz _⟩ ⟨W.heap.size, by omega, Blk.new _ _ _, rfl⟩
  case body =>
    rintro l pre x a' W hl ⟨r, hr⟩ ⟨⟨⟨⟨k0, k1⟩, k2⟩, hf⟩, hB⟩ ⟨Bx, hBx, bX, rfl⟩ hlt
    have e0 := k0.cell 0
    have e1 := bX.cell 0
    have e2 := bX.cell 1
    have e3 := bX.cell 2
    have g1 := k1.cell 0
    have g2 := k2.cell 0
    simp only [List.getElem?_toArray, List.getElem?_cons_zero, List.getElem?_cons_succ] at e0 e1 e2 e3 g1 g2
    have f1 := k1.frozen 0
    have f2 := k2.frozen 0
    have hs3 := k2.lt
    have hmx : Tryz.prog.follows .mixedOrders = true := by kernel_rfl
    have n1 : w.heap.size + 1 ≠ Bx := by omega
    by_cases h1 : x.2.1 ≤ p
    · by_cases h2 : p < wrap64 (x.2.1 + x.2.2)
      · gi_wp2
        refine ⟨?_, ⟨rfl, pre, x, rfl, hf, by simp [inW, h1, h2], ?_, ?_⟩, ?_⟩
        · (with_reducible refine KeepsOthers.from ?_ _; repeat (first | (with_reducible exact KeepsOthers.refl _) | (with_reducible refine KeepsOthers.trans ?_ (KeepsOthers.setCell _ _ _)) | (with_reducible refine KeepsOthers.trans ?_ (KeepsOthers.alloc _ _)) | (with_reducible refine KeepsOthers.trans ?_ (KeepsOthers.drew _))))
        · repeat' (first | (with_reducible assumption) | (with_reducible refine Blk.drew ?_) | (with_reducible refine Blk.drewN ?_ _) | (with_reducible apply Blk.set1) | ((with_reducible refine Blk.other ?_ ?ne _); case ne => (first | (simp only []; omega) | omega)) | (with_reducible refine Blk.alloc ?_ _))
        · repeat' (first | (with_reducible assumption) | (with_reducible refine Blk.drew ?_) | (with_reducible refine Blk.drewN ?_ _) | (with_reducible apply Blk.set1) | ((with_reducible refine Blk.other ?_ ?ne _); case ne => (first | (simp only []; omega) | omega)) | (with_reducible refine Blk.alloc ?_ _))
        · go_grown
      · gi_wp2
        exact ⟨(KeepsOthers.refl _).from _, trivial, ⟨⟨⟨k0, k1⟩, k2⟩, Sp.find_none_append hf (by simp [inW]; omega)⟩, hB⟩
    · gi_wp2
      exact ⟨(KeepsOthers.refl _).from _, trivial, ⟨⟨⟨k0, k1⟩, k2⟩, Sp.find_none_append hf (by simp [inW]; omega)⟩, hB⟩
  case done =>
    rintro D ys W hD rfl ⟨⟨⟨⟨k0, k1⟩, k2⟩, hf⟩, hB⟩ hK
    have f1 := k1.frozen 0
    have f2 := k2.frozen 0
    have g1 := k1.cell 0
    have g2 := k2.cell 0
    simp only [List.getElem?_toArray, List.getElem?_cons_zero, List.getElem?_cons_succ] at g1 g2
    gi_wp2
    have hK1 := (KeepsOthers.setCell W ⟨w.heap.size + 1, 0, none⟩ (.int .i64 0)).same D _ hK rfl
    have hK3 := (KeepsOthers.setCell _ ⟨w.heap.size + 1 + 1, 0, none⟩ (.bool false)).same D _ hK1 rfl
    refine ⟨by simp, .inl ⟨_, _, rfl, run_takeDeferred hK3, ?_⟩⟩
    obtain ⟨W3, hW3⟩ : ∃ W3, (W.setCell ⟨w.heap.size + 1, 0, none⟩ (.int .i64 0)).setCell ⟨w.heap.size + 1 + 1, 0, none⟩ (.bool false) = W3 := ⟨_, rfl⟩
    have k1' : Blk W3 (w.heap.size + 1) #[.int .i64 0] 3 := by rw [← hW3]; repeat' (first | (with_reducible assumption) | (with_reducible refine Blk.drew ?_) | (with_reducible refine Blk.drewN ?_ _) | (with_reducible apply Blk.set1) | ((with_reducible refine Blk.other ?_ ?ne _); case ne => (first | (simp only []; omega) | omega)) | (with_reducible refine Blk.alloc ?_ _))
    have k2' : Blk W3 (w.heap.size + 1 + 1) #[.bool false] 4 := by rw [← hW3]; repeat' (first | (with_reducible assumption) | (with_reducible refine Blk.drew ?_) | (with_reducible refine Blk.drewN ?_ _) | (with_reducible apply Blk.set1) | ((with_reducible refine Blk.other ?_ ?ne _); case ne => (first | (simp only []; omega) | omega)) | (with_reducible refine Blk.alloc ?_ _))
    have hB3 : Below w.heap.size w W3 := by rw [← hW3]; go_grown
    rw [hW3] at hK3 ⊢
    have r1 := (k1'.ownF (n := 0) (grownBy_putObj' _ D (.deferred none)) (fun r e => by cases e; exact ⟨Nat.zero_le _, _, hK3, rfl⟩)).cell 0
    have r2 := (k2'.ownF (n := 0) (grownBy_putObj' _ D (.deferred none)) (fun r e => by cases e; exact ⟨Nat.zero_le _, _, hK3, rfl⟩)).cell 0
    simp only [List.getElem?_toArray, List.getElem?_cons_zero] at r1 r2
    refine ⟨.tuple #[.int .i64 0, .bool false], ?_, by rw [Sp.findOf_miss ((inW_eq p).symm.trans hf)], hB3.trans (belowK_b (w := w) (Nat.le_refl _) _ D _ _ (by simp at hD; omega) hK3 rfl rfl)⟩
    simp [results, Tryz.f110, go_sem, r1, r2]
  case stop =>
    rintro D c pre W hD hpre ⟨⟨rfl, q, x, rfl, hq, hx, k1, k2⟩, hB⟩ hK
    gi_wp2
    refine ⟨by simp, .inl ⟨_, _, rfl, run_takeDeferred hK, ?_⟩⟩
    have r1 := (k1.ownF (n := 0) (grownBy_putObj' _ D (.deferred none)) (fun r e => by cases e; exact ⟨Nat.zero_le _, _, hK, rfl⟩)).cell 0
    have r2 := (k2.ownF (n := 0) (grownBy_putObj' _ D (.deferred none)) (fun r e => by cases e; exact ⟨Nat.zero_le _, _, hK, rfl⟩)).cell 0
    simp only [List.getElem?_toArray, List.getElem?_cons_zero] at r1 r2
    refine ⟨.tuple #[.int .i64 x.1, .bool true], ?_, by rw [Sp.findOf, ← inW_eq, Sp.find_some_prefix hpre hq hx], hB.trans (belowK_b (w := w) (Nat.le_refl _) _ D _ _ (by simp at hD; omega) hK rfl rfl)⟩
    simp [results, Tryz.f110, go_sem, r1, r2]
end Go.Proofs.YtkoljgmapclhkaaGreatDoor

namespace Go.Proofs.YtkoljgmapclhkaaGreatDoor
open Go.RowKit

def decC (d : Sp.Dec) : Array Value := #[.string d.s, .int .i64 d.pos, .int .u32 d.code, .int .u32 d.rng, .int .i64 d.gone]

set_option maxHeartbeats 400000 in
theorem cell_yes {a b t : Int} (h : Sp.cellIs a b t) (w : World) :
    Calls Tryz.prog 148 #[.int .i64 a, .int .i64 b, .int .i64 t] w fun e w' => e = .returned (.bool true) ∧ w = w' := by
  obtain ⟨h1, h2, h3, h4, h5, h6⟩ := h
  go_enter Tryz.func148, Tryz.ntmps148
  go_wp2
  go_ret
  exact ⟨rfl, rfl⟩

set_option maxHeartbeats 400000 in
theorem next_any (g : Nat) (s : ByteArray) (a c r n : Int) (w : World) (h0 : 0 ≤ a) (h1 : a ≤ 2000000000000) (hB : Blk w g #[.string s, .int .i64 a, .int .u32 c, .int .u32 r, .int .i64 n] 154) :
    Calls Tryz.prog 108 #[.pointer (some ⟨g, 0, none⟩)] w fun e w' => e = .returned (.int .u32 (Sp.byteAt s a)) ∧ Blk w' g #[.string s, .int .i64 (a + 1), .int .u32 c, .int .u32 r, .int .i64 n] 154 ∧ Kept (· = g) w w' := by
  obtain ⟨a, rfl⟩ := Int.eq_ofNat_of_zero_le h0
  have c0 := hB.cell 0
  have c1 := hB.cell 1
  simp only [List.getElem?_toArray, List.getElem?_cons_zero, List.getElem?_cons_succ] at c0 c1
  have f1 := hB.frozen 1
  by_cases hlt : a < s.size
  · go_enter Tryz.func108, Tryz.ntmps108
    go_wp2
    go_quiet (fail)
    go_wp2
    go_quiet (fail)
    go_wp2
    go_ret
    refine ⟨retInt (by rw [Sp.byteAt, dif_pos (by simpa using hlt)]; simp only [Int.toNat_natCast]; have := s[a].toNat_lt; omega), ?_, ?_⟩
    · (apply Blk.mk_eq; (case h => repeat' (first | (with_reducible assumption) | (with_reducible apply Blk.drew) | (with_reducible apply Blk.drewN) | (with_reducible apply Blk.set) | ((with_reducible refine Blk.other ?_ ?ne _); case ne => (first | (simp only []; omega) | omega)) | (with_reducible apply Blk.alloc))); (case e => first | rfl | simp))
    · repeat (first | (with_reducible exact Kept.refl _ _) | (with_reducible assumption) | (with_reducible refine Kept.drew ?_) | (with_reducible refine Kept.drewN ?_ _) | ((with_reducible refine Kept.setCell ?_ ?hp _); case hp => (first | exact Or.inl rfl | (left; simp; done) | (right; simp only [World.size_alloc, World.size_setCell, World.size_drew]; omega))) | (with_reducible refine Kept.alloc ?_ _))
  · go_enter Tryz.func108, Tryz.ntmps108
    go_wp2
    go_quiet (fail)
    go_wp2
    go_ret
    refine ⟨retInt (by rw [Sp.byteAt, dif_neg (by simp; omega)]), ?_, ?_⟩
    · (apply Blk.mk_eq; (case h => repeat' (first | (with_reducible assumption) | (with_reducible apply Blk.drew) | (with_reducible apply Blk.drewN) | (with_reducible apply Blk.set) | ((with_reducible refine Blk.other ?_ ?ne _); case ne => (first | (simp only []; omega) | omega)) | (with_reducible apply Blk.alloc))); (case e => first | rfl | simp))
    · repeat (first | (with_reducible exact Kept.refl _ _) | (with_reducible assumption) | (with_reducible refine Kept.drew ?_) | (with_reducible refine Kept.drewN ?_ _) | ((with_reducible refine Kept.setCell ?_ ?hp _); case hp => (first | exact Or.inl rfl | (left; simp; done) | (right; simp only [World.size_alloc, World.size_setCell, World.size_drew]; omega))) | (with_reducible refine Kept.alloc ?_ _))

set_option maxHeartbeats 400000 in
theorem cell_no {a b t : Int} (h : ¬ Sp.cellIs a b t) (w : World) :
    Calls Tryz.prog 148 #[.int .i64 a, .int .i64 b, .int .i64 t] w fun e w' => e = .returned (.bool false) ∧ w = w' := by
  by_cases h1 : 1 ≤ t
  · by_cases h2 : t ≤ 32768
    · by_cases h3 : 0 ≤ a
      · by_cases h4 : 1 ≤ b
        · by_cases h5 : a < t
          · have h6 : ¬ b ≤ t - a := fun h6 => h ⟨h1, h2, h3, h4, h5, h6⟩
            clear h
            go_enter Tryz.func148, Tryz.ntmps148
            go_wp2
            go_ret
            exact ⟨rfl, rfl⟩
          all_goals
            clear h
            go_enter Tryz.func148, Tryz.ntmps148
            go_wp2
            go_ret
            exact ⟨rfl, rfl⟩
        all_goals
          clear h
          go_enter Tryz.func148, Tryz.ntmps148
          go_wp2
          go_ret
          exact ⟨rfl, rfl⟩
      all_goals
        clear h
        go_enter Tryz.func148, Tryz.ntmps148
        go_wp2
        go_ret
        exact ⟨rfl, rfl⟩
    all_goals
      clear h
      go_enter Tryz.func148, Tryz.ntmps148
      go_wp2
      go_ret
      exact ⟨rfl, rfl⟩
  all_goals
    clear h
    go_enter Tryz.func148, Tryz.ntmps148
    go_wp2
    go_ret
    exact ⟨rfl, rfl⟩

set_option maxHeartbeats 400000 in
theorem used_any (n r : Int) (hn0 : 0 ≤ n) (hn1 : n ≤ 2000000000000) (hr0 : 0 ≤ r) (hr1 : r ≤ 4294967295) (w : World) :
    Calls Tryz.prog 115 #[.int .i64 n, .int .u32 r] w fun e w' => e = .returned (.int .i64 (8 * n + (32 - (Lib.bitLen r.toNat : Int)))) ∧ w = w' := by
  have hb := Lib.bitLen_le r.toNat 32 (by omega) (by omega)
  go_enter Tryz.func115, Tryz.ntmps115
  go_wp2_with (go_at_call 149; refine (Tryz.bits_LeadingZeros32 _ _ hr0 hr1).mono ?_; rintro e w' ⟨rfl, hw⟩; obtain rfl := hw.symm)
  go_ret
  exact ⟨rfl, rfl⟩

set_option maxHeartbeats 400000 in
theorem DecUsed_any (g : Nat) {b : Int} {d : Sp.Dec} (hd : d.Ok b) (hb : b ≤ 2000000000000) (w : World) (hB : Blk w g (decC d) 154) :
    Calls Tryz.prog 64 #[.pointer (some ⟨g, 0, none⟩)] w fun e w' => e = .returned (.int .i64 d.used) ∧ Kept (fun _ => False) w w' := by
  obtain ⟨s, a, c, r, n⟩ := d
  obtain ⟨h1, h2, h3, h4, h5, h6, h7, h8⟩ := hd
  simp only at h1 h2 h3 h4 h5 h6 h7 h8
  have c3 := hB.cell 3
  have c4 := hB.cell 4
  simp only [decC, List.getElem?_toArray, List.getElem?_cons_zero, List.getElem?_cons_succ] at c3 c4
  go_enter Tryz.func64, Tryz.ntmps64
  go_wp2_with fail
  go_quiet ((go_at_call 115; exact quiet_same (used_any _ _ (by omega) (by omega) (by omega) (by omega) _)))
  go_wp2
  go_ret
  refine ⟨rfl, ?_⟩
  repeat (first | (with_reducible exact Kept.refl _ _) | (with_reducible assumption) | (with_reducible refine Kept.drew ?_) | (with_reducible refine Kept.drewN ?_ _) | ((with_reducible refine Kept.setCell ?_ ?hp _); case hp => (first | exact Or.inl rfl | (left; simp; done) | (right; simp only [World.size_alloc, World.size_setCell, World.size_drew]; omega))) | (with_reducible refine Kept.alloc ?_ _))

set_option maxHeartbeats 400000 in
theorem At_any (g : Nat) {b : Int} {d : Sp.Dec} (hd : d.Ok b) (t : Int) (ht0 : 1 ≤ t) (ht1 : t ≤ 32768) (w : World) (hB : Blk w g (decC d) 154) :
    Calls Tryz.prog 109 #[.pointer (some ⟨g, 0, none⟩), .int .i64 t] w fun e w' => e = .returned (.tuple #[.int .i64 (d.place t), .int .i64 0]) ∧ Kept (fun _ => False) w w' := by
  obtain ⟨s, a, c, r, n⟩ := d
  obtain ⟨h1, h2, h3, h4, h5, h6, h7, h8⟩ := hd
  simp only at h1 h2 h3 h4 h5 h6 h7 h8
  obtain ⟨b1, b2, b3⟩ := Sp.step_bd h5 h6 ht0 ht1
  have c2 := hB.cell 2
  have c3 := hB.cell 3
  simp only [decC, List.getElem?_toArray, List.getElem?_cons_zero, List.getElem?_cons_succ] at c2 c3
  have b4 : 0 ≤ c / (r / t) ∧ c / (r / t) ≤ 4294967295 := ⟨Int.ediv_nonneg h3 (by omega), Int.le_trans (Int.ediv_le_self _ h3) h4⟩
  go_enter Tryz.func109, Tryz.ntmps109
  go_wp2_with fail
  go_quiet (fail)
  go_wp2
  go_ret2
  refine ⟨rfl, ?_⟩
  repeat (first | (with_reducible exact Kept.refl _ _) | (with_reducible assumption) | (with_reducible refine Kept.drew ?_) | (with_reducible refine Kept.drewN ?_ _) | ((with_reducible refine Kept.setCell ?_ ?hp _); case hp => (first | exact Or.inl rfl | (left; simp; done) | (right; simp only [World.size_alloc, World.size_setCell, World.size_drew]; omega))) | (with_reducible refine Kept.alloc ?_ _))

set_option maxHeartbeats 800000 in
theorem Take_any (g : Nat) {b : Int} {d : Sp.Dec} (hd : d.Ok b) (hb : b ≤ 1000000000000) {x y t : Int} (hc : Sp.cellIs x y t) (w : World) (hB : Blk w g (decC d) 154) :
    Calls Tryz.prog 112 #[.pointer (some ⟨g, 0, none⟩), .int .i64 x, .int .i64 y, .int .i64 t] w fun e w' => e = .returned (.int .i64 0) ∧ Blk w' g (decC (d.take x y t)) 154 ∧ Kept (· = g) w w' := by
  have hmid := Sp.Dec.raw_mid hd hc
  obtain ⟨R, hR⟩ : ∃ R, d.take x y t = R := ⟨_, rfl⟩
  rw [hR]
  have HR := Lib.hid hR
  clear hR
  have HM := Lib.hid hmid
  clear hmid
  have HC := Lib.hid hc
  obtain ⟨s, a, c, r, n⟩ := d
  obtain ⟨h1, h2, h3, h4, h5, h6, h7, h8⟩ := hd
  obtain ⟨g1, g2, g3, g4, g5, g6⟩ := hc
  simp only at h1 h2 h3 h4 h5 h6 h7 h8
  obtain ⟨b1, b2, b3⟩ := Sp.step_bd h5 h6 g1 g2
  have m1 := Sp.mul_bd b1 g4 (by omega : y ≤ t) b3
  have m2 := Sp.mul_bd0 b1 g3 (by omega : x ≤ t) b3
  have c2 := hB.cell 2
  have c3 := hB.cell 3
  simp only [decC, List.getElem?_toArray, List.getElem?_cons_zero, List.getElem?_cons_succ] at c2 c3
  have f2 := hB.frozen 2
  have f3 := hB.frozen 3
  go_enter Tryz.func112, Tryz.ntmps112
  go_wp2_with (go_at_call 148; refine (cell_yes HC.out _).mono ?_; rintro e w' ⟨rfl, rfl⟩)
  go_loopw [] (fun wr => ∃ (k : Nat) (d : Sp.Dec), d.Mid (b + 3) k ∧ Hid (d.norm k = R) ∧ Blk wr g (decC d) 154 ∧ Kept (· = g) w wr) (fun wr => far32 wr g 3)
  case atStart =>
    refine ⟨3, _, HM.out, HR, ?_, ?_⟩
    · show Blk _ g #[.string s, .int .i64 a, .int .u32 ((c - r / t * x) % 4294967296), .int .u32 (r / t * y), .int .i64 n] _
      (apply Blk.mk_eq; (case h => repeat' (first | (with_reducible assumption) | (with_reducible apply Blk.drew) | (with_reducible apply Blk.drewN) | (with_reducible apply Blk.set) | ((with_reducible refine Blk.other ?_ ?ne _); case ne => (first | (simp only []; omega) | omega)) | (with_reducible apply Blk.alloc))); (case e => first | rfl | simp))
    · repeat (first | (with_reducible exact Kept.refl _ _) | (with_reducible assumption) | (with_reducible refine Kept.drew ?_) | (with_reducible refine Kept.drewN ?_ _) | ((with_reducible refine Kept.setCell ?_ ?hp _); case hp => (first | exact Or.inl rfl | (left; simp; done) | (right; simp only [World.size_alloc, World.size_setCell, World.size_drew]; omega))) | (with_reducible refine Kept.alloc ?_ _))
  case round =>
    obtain ⟨k, d, hm, hn, hB1, hK1⟩ := hrel
    have HM1 := Lib.hid hm
    have hmid := hm
    obtain ⟨s1, a1, e1, r1, n1⟩ := d
    obtain ⟨q1, q2, q3, q4, q5, q6, q7, q8, q9⟩ := hm
    simp only at q1 q2 q3 q4 q5 q6 q7 q8
    clear q9
    have c2 := hB1.cell 2
    have c3 := hB1.cell 3
    have c4 := hB1.cell 4
    simp only [decC, List.getElem?_toArray, List.getElem?_cons_zero, List.getElem?_cons_succ] at c2 c3 c4
    have f2 := hB1.frozen 2
    have f3 := hB1.frozen 3
    have f4 := hB1.frozen 4
    by_cases hr : r1 < 16777216
    · obtain ⟨j, rfl⟩ := hmid.pos hr
      clear hmid
      have hcall := next_any g s1 a1 e1 r1 n1 wr.drew (by omega) (by omega) hB1.drew
      go_wp2_with fail
      go_region_with (go_at_call 108; refine hcall.mono ?_; rintro e w' ⟨rfl, hB2, hK2⟩; have d2 := hB2.cell 2; simp only [List.getElem?_toArray, List.getElem?_cons_zero, List.getElem?_cons_succ] at d2; have e2 := hB2.frozen 2)
      all_goals
        have d3 := hB2.cell 3
        have d4 := hB2.cell 4
        simp only [List.getElem?_toArray, List.getElem?_cons_zero, List.getElem?_cons_succ] at d3 d4
        have e3 := hB2.frozen 3
        have e4 := hB2.frozen 4
        go_wp2
        rw [u32_shl8_or _ _ (Sp.byteAt_bd s1 a1).1 (Sp.byteAt_bd s1 a1).2]
        go_roundw
        case rel =>
          refine ⟨j, _, Sp.Dec.step_mid HM1.out hr, ?_, ?_, ?_⟩
          · have := hn.out
            rw [Sp.Dec.norm_step hr] at this
            exact this
          · show Blk _ g #[.string s1, .int .i64 (a1 + 1), .int .u32 (e1 * 256 % 4294967296 + Sp.byteAt s1 a1), .int .u32 (r1 * 256), .int .i64 (n1 + 1)] _
            (apply Blk.mk_eq; (case h => repeat' (first | (with_reducible assumption) | (with_reducible apply Blk.drew) | (with_reducible apply Blk.drewN) | (with_reducible apply Blk.set) | ((with_reducible refine Blk.other ?_ ?ne _); case ne => (first | (simp only []; omega) | omega)) | (with_reducible apply Blk.alloc))); (case e => first | rfl | simp))
          · have hK3 := hK1.trans hK2.undrew
            repeat (first | (with_reducible exact Kept.refl _ _) | (with_reducible assumption) | (with_reducible refine Kept.drew ?_) | (with_reducible refine Kept.drewN ?_ _) | ((with_reducible refine Kept.setCell ?_ ?hp _); case hp => (first | exact Or.inl rfl | (left; simp; done) | (right; simp only [World.size_alloc, World.size_setCell, World.size_drew]; omega))) | (with_reducible refine Kept.alloc ?_ _))
        case measure =>
          rw [far32_eq c3]
          refine Nat.lt_of_le_of_lt (Nat.le_of_eq (far32_eq (k := .u32) (n := r1 * 256) ?_)) (by omega)
          refine (Blk.cell (cs := #[.string s1, .int .i64 (a1 + 1), .int .u32 (e1 * 256 % 4294967296 + Sp.byteAt s1 a1), .int .u32 (r1 * 256), .int .i64 (n1 + 1)]) (t := 154) ?_ 3).trans rfl
          (apply Blk.mk_eq; (case h => repeat' (first | (with_reducible assumption) | (with_reducible apply Blk.drew) | (with_reducible apply Blk.drewN) | (with_reducible apply Blk.set) | ((with_reducible refine Blk.other ?_ ?ne _); case ne => (first | (simp only []; omega) | omega)) | (with_reducible apply Blk.alloc))); (case e => first | rfl | simp))
    · clear hmid
      go_wp2
      go_ret
      have := hn.out
      rw [Sp.Dec.norm_done (by simp only; omega)] at this
      subst this
      exact ⟨rfl, hB1, hK1⟩
end Go.Proofs.YtkoljgmapclhkaaGreatDoor

namespace Go.Proofs.YtkoljgmapclhkaaGreatDoor
open Go.RowKit

theorem Cell_at {v a c : Int} {ok : Bool} (h : Sp.cellOf v = (a, c, ok)) (w : World) :
    Calls Tryz.prog 111 #[.int .i64 v] w fun e W' => e = .returned (.tuple #[.int .i64 a, .int .i64 c, .bool ok]) ∧ Below w.heap.size w W' :=
  (Cell_any v w).mono fun e W' ⟨he, hb⟩ => ⟨by rw [he, h], hb⟩
theorem Find_at {p v : Int} {ok : Bool} (h : Sp.findOf p = (v, ok)) (w : World) :
    Calls Tryz.prog 110 #[.int .i64 p] w fun e W' => e = .returned (.tuple #[.int .i64 v, .bool ok]) ∧ Below w.heap.size w W' :=
  (Find_any p w).mono fun e W' ⟨he, hb⟩ => ⟨by rw [he, h], hb⟩

set_option maxHeartbeats 800000 in
theorem NewDec_any (s : ByteArray) (w : World) :
    Calls Tryz.prog 60 #[.string s] w fun e w' => ∃ g, w.heap.size ≤ g ∧ e = .returned (.pointer (some ⟨g, 0, none⟩)) ∧ Blk w' g (decC (Sp.Dec.new s)) 154 ∧ Below w.heap.size w w' := by
  go_enter Tryz.func60, Tryz.ntmps60
  go_wp2_with fail
  go_loopw [10] (fun i wr => ∃ k : Nat, k ≤ 4 ∧ i = .int .i64 k ∧ Blk wr w.heap.size (decC (Sp.Dec.first s k)) 154 ∧ Below w.heap.size w wr) (fun i _ => 4 - (intOf i).toNat)
  case atStart => exact ⟨0, by omega, rfl, Blk.new _ _ _, by go_grown⟩
  case round =>
    obtain ⟨k, hk, rfl, hB, hK⟩ := hrel
    obtain ⟨p1, p2, p3, p4, p5, p6⟩ := Sp.Dec.first_ok s k
    by_cases hlt : k < 4
    · have hfin : Sp.Dec.first s (k + 1) = ⟨s, (Sp.Dec.first s k).pos + 1, (Sp.Dec.first s k).code * 256 % 4294967296 + Sp.byteAt s (Sp.Dec.first s k).pos, 4294967295, 0⟩ := rfl
      have HF := Lib.hid hfin
      clear hfin
      obtain ⟨a, ha⟩ : ∃ a, (Sp.Dec.first s k).pos = a := ⟨_, rfl⟩
      obtain ⟨c, hc⟩ : ∃ c, (Sp.Dec.first s k).code = c := ⟨_, rfl⟩
      rw [decC, p1, ha, hc, p5, p6] at hB
      rw [ha] at p2 HF
      rw [hc] at p3 p4 HF
      have hs := hK.size
      have c2 := hB.cell 2
      simp only [List.getElem?_toArray, List.getElem?_cons_zero, List.getElem?_cons_succ] at c2
      have f2 := hB.frozen 2
      have hcall := next_any w.heap.size s a c 4294967295 0 wr.drew (by omega) (by omega) hB.drew
      clear p1 p2 p5 p6 ha hc
      go_wp2_with fail
      go_region_with (go_at_call 108; refine hcall.mono ?_; rintro e w' ⟨rfl, hB2, hK2⟩; have d2 := hB2.cell 2; simp only [List.getElem?_toArray, List.getElem?_cons_zero, List.getElem?_cons_succ] at d2; have e2 := hB2.frozen 2)
      all_goals
        go_wp2
        rw [u32_shl8_or _ _ (Sp.byteAt_bd s a).1 (Sp.byteAt_bd s a).2]
        go_roundw
        case rel =>
          refine ⟨k + 1, by omega, by go_num, ?_, ?_⟩
          · rw [HF.out]
            show Blk _ _ #[.string s, .int .i64 (a + 1), .int .u32 (c * 256 % 4294967296 + Sp.byteAt s a), .int .u32 4294967295, .int .i64 0] _
            (apply Blk.mk_eq; (case h => repeat' (first | (with_reducible assumption) | (with_reducible apply Blk.drew) | (with_reducible apply Blk.drewN) | (with_reducible apply Blk.set) | ((with_reducible refine Blk.other ?_ ?ne _); case ne => (first | (simp only []; omega) | omega)) | (with_reducible apply Blk.alloc))); (case e => first | rfl | simp))
          · have hK3 : Below w.heap.size w _ := hK.trans ((hK2.undrew).below (by intro k h; omega) hs)
            go_grown
        case measure => simp [intOf]; omega
    · obtain rfl : k = 4 := by omega
      go_wp2
      go_ret
      exact ⟨w.heap.size, Nat.le_refl _, rfl, hB, hK⟩

/-- A number taken: which, and the decoder then. -/
def ltakeV (d : Sp.Dec) : Int := (Sp.findOf (d.place 32768)).1
def ltakeD (d : Sp.Dec) : Sp.Dec := d.take (Sp.cellOf (ltakeV d)).1 (Sp.cellOf (ltakeV d)).2.1 32768
theorem place_bd {d : Sp.Dec} {b : Int} (h : d.Ok b) : 0 ≤ d.place 32768 ∧ d.place 32768 < 32768 := by
  obtain ⟨b1, b2, b3⟩ := Sp.step_bd h.rng0 h.rng1 (by omega : (1 : Int) ≤ 32768) (by omega)
  have := Int.ediv_nonneg h.code0 (by omega : 0 ≤ d.rng / 32768)
  unfold Sp.Dec.place; omega
theorem ltake_cell {d : Sp.Dec} {b : Int} (h : d.Ok b) : ∃ v a c, ltakeV d = v ∧ Sp.findOf (d.place 32768) = (v, true) ∧ Sp.cellOf v = (a, c, true) ∧ Sp.cellIs a c 32768 ∧ ltakeD d = d.take a c 32768 ∧ -24 ≤ v ∧ v ≤ 24 := by
  have hp := place_bd h
  obtain ⟨v, hf, h1, h2⟩ := Sp.find_in _ hp.1 hp.2
  obtain ⟨a, c, hc⟩ := Sp.cell_is v h1 h2
  have hv : ltakeV d = v := by rw [ltakeV, hf]
  refine ⟨v, a, c, hv, hf, hc.eq, ?_, by rw [ltakeD, hv, hc.eq], h1, h2⟩
  have h3 := hc.a0
  have h4 := hc.c8
  have h5 := hc.ac
  unfold Sp.cellIs; omega

set_option maxHeartbeats 800000 in
theorem LTake_any (g : Nat) {b : Int} {d : Sp.Dec} (hd : d.Ok b) (hb : b ≤ 1000000000000) (w : World) (hB : Blk w g (decC d) 154) :
    Calls Tryz.prog 61 #[.pointer (some ⟨g, 0, none⟩)] w fun e w' => e = .returned (.tuple #[.int .i64 (ltakeV d), .int .i64 0]) ∧ Blk w' g (decC (ltakeD d)) 154 ∧ Kept (· = g) w w' := by
  obtain ⟨v, a, c, hv, hf, hc, hci, hD, h1, h2⟩ := ltake_cell hd
  rw [hv, hD]
  have HC := Lib.hid hc
  have HF := Lib.hid hf
  clear hc hf hv hD
  have hlt := hB.lt
  go_enter Tryz.func61, Tryz.ntmps61
  go_wp2_with fail
  refine (At_any g hd 32768 (by omega) (by omega) _ hB).mono ?_
  rintro e w1 ⟨rfl, hK1⟩
  go_wp2_with fail
  refine (Find_at HF.out _).mono ?_
  rintro e w2 ⟨rfl, hK2⟩
  go_wp2_with fail
  refine (Cell_at HC.out _).mono ?_
  rintro e w3 ⟨rfl, hK3⟩
  have hB3 := ((hB.keep hK1 (fun h => h)).newB hK2).newB hK3
  go_wp2_with fail
  refine (Take_any g hd hb hci _ hB3).mono ?_
  rintro e w4 ⟨rfl, hB4, hK4⟩
  go_wp2_with fail
  go_ret2
  exact ⟨rfl, hB4, (((hK1.mono (fun _ h => h.elim)).thenBelow hK2).thenBelow hK3).trans hK4⟩
end Go.Proofs.YtkoljgmapclhkaaGreatDoor

namespace Go.Proofs.YtkoljgmapclhkaaGreatDoor
open Go.RowKit

abbrev encC (e : Sp.Enc) (v : Value) : Array Value := #[.int .i64 e.size, .int .u64 e.low, .int .u32 e.rng, v, .int .i64 e.gone]
abbrev bytesV (l : List Int) : List Value := l.map (Value.int .u8)

set_option maxHeartbeats 800000 in
theorem carry_any (g : Nat) (a0 a1 a2 v a4 : Value) (l : List Int) (hl : Sp.Bytes l) (hn : (l.length : Int) ≤ 1000000000000) (w : World)
    (hB : Blk w g #[a0, a1, a2, v, a4] 177) (hR : Row w 5 v (bytesV l)) :
    Calls Tryz.prog 180 #[.pointer (some ⟨g, 0, none⟩)] w fun e w' => e = .returned (.tuple #[]) ∧ Row w' 5 v (bytesV (Sp.carryL l)) ∧ Kept (fun k => v.ownBlock = some k) w w' := by
  have c3 := hB.cell 3
  simp only [List.getElem?_toArray, List.getElem?_cons_zero, List.getElem?_cons_succ] at c3
  by_cases hx : l = []
  · subst hx
    obtain ⟨h1, h2⟩ := hR
    rcases h2 with ⟨rfl, _⟩ | ⟨ob, cap, cur, rfl, _, hg, hc, hm, hs, ht⟩
    · go_enter Tryz.func180, Tryz.ntmps180
      go_wp2
      refine wp_loop_rounds 1 ?_
      rw [rounds_succ]
      go_wp2
      go_end0
      exact ⟨rfl, Row.nil _ _, Kept.refl _ _⟩
    · go_enter Tryz.func180, Tryz.ntmps180
      go_wp2
      refine wp_loop_rounds 1 ?_
      rw [rounds_succ]
      go_wp2
      go_end0
      exact ⟨rfl, ⟨h1, .inr ⟨ob, cap, cur, rfl, Nat.zero_le _, hg, hc, hm, hs, ht⟩⟩, Kept.refl _ _⟩
  · obtain ⟨ob, cap, rfl, hob⟩ := hR.slice (by simpa using hx)
    have hgo : g ≠ ob := fun e => hR.ne hB (by decide) (by simp [Value.ownBlock, e])
    simp only [List.length_map] at hR c3 hB ⊢
    have hpos : 0 < l.length := List.length_pos_iff.2 hx
    obtain ⟨R, hRr⟩ : ∃ R, Sp.carryL l = R := ⟨_, rfl⟩
    rw [hRr]
    have HR := Lib.hid hRr
    clear hRr
    obtain ⟨n, hn1⟩ : ∃ n, l.length = n := ⟨_, rfl⟩
    rw [hn1] at hR c3 hB hpos hn ⊢
    have HN := Lib.hid hn1
    clear hn1
    go_enter Tryz.func180, Tryz.ntmps180
    go_wp2
    go_loopw [2] (fun i wr => ∃ (j : Nat) (m : List Int), j ≤ n ∧ i = .int .i64 ((j : Int) - 1) ∧ Hid (m.length = n) ∧ Sp.Bytes m ∧ Hid (Sp.carryAt j m = R) ∧ Row wr 5 (.slice (some ⟨ob, 0, none⟩) n cap) (bytesV m) ∧ Kept (fun k => (Value.slice (some ⟨ob, 0, none⟩) n cap).ownBlock = some k) w wr) (fun i _ => (intOf i + 1).toNat)
    case atStart => exact ⟨n, l, Nat.le_refl _, rfl, HN, hl, by have := HR.out; rw [Sp.carryL, HN.out] at this; exact this, hR, Kept.refl _ _⟩
    case round =>
      obtain ⟨j, m, hj, rfl, hml, hmb, hmR, hRow, hK⟩ := hrel
      have hBr := hB.keep hK (by simp [Value.ownBlock]; omega)
      have d3 := hBr.cell 3
      simp only [List.getElem?_toArray, List.getElem?_cons_zero, List.getElem?_cons_succ] at d3
      rcases j with _ | j
      · go_wp2
        go_end0
        have := hmR.out
        simp only [Sp.carryAt] at this
        subst this
        exact ⟨rfl, hRow, hK⟩
      · rw [show (((j + 1 : Nat) : Int)) - 1 = (j : Int) from by omega]
        have hjm : j < m.length := by rw [hml.out]; omega
        have hbd := hmb.get hjm
        have hml' : (bytesV m).length = n := by rw [List.length_map, hml.out]
        have hcell := hRow.cellAt hml' j (by omega)
        rw [bytes_get hjm] at hcell
        have hfz := hRow.frozenAt hml' j
        have HM := Lib.hid hml'
        clear hml'
        obtain ⟨x, hxx⟩ : ∃ x, m.getD j 0 = x := ⟨_, rfl⟩
        rw [hxx] at hbd hcell
        have HX := Lib.hid hxx
        clear hxx
        go_wp2
        · rename_i hne
          refine bodyPost_ret (results_none rfl _ _ _) rfl ?_
          have hb : ¬ (x + 1) % 256 = 0 := by simpa using hne
          have := hmR.out
          rw [Sp.carryAt, HX.out] at this
          simp only [if_neg hb] at this
          subst this
          refine ⟨rfl, ?_, hK.setCell (p := ⟨ob, j, none⟩) (.inl rfl) _⟩
          rw [bytesV, ← ints_set]
          exact hRow.stored HM.out j _
        · rename_i hne
          have hb : (x + 1) % 256 = 0 := by simpa using hne
          go_roundw
          case rel =>
            have := hmR.out
            rw [Sp.carryAt, HX.out] at this
            simp only [if_pos hb] at this
            refine ⟨j, _, by omega, rfl, Lib.hid (by rw [List.length_set]; exact hml.out), hmb.set j (by omega) (by omega), Lib.hid this, ?_, hK.setCell (p := ⟨ob, j, none⟩) (.inl rfl) _⟩
            rw [bytesV, ← ints_set]
            exact hRow.stored HM.out j _
          case measure => simp [intOf]

set_option maxHeartbeats 800000 in
theorem settle_any (g : Nat) (e : Sp.Enc) (v : Value) (h0 : 0 ≤ e.low) (h1 : e.low ≤ 8589934591) (hl : Sp.Bytes e.out) (hn : (e.out.length : Int) ≤ 1000000000000) (w : World)
    (hB : Blk w g (encC e v) 177) (hR : Row w 5 v (bytesV e.out)) :
    Calls Tryz.prog 161 #[.pointer (some ⟨g, 0, none⟩)] w fun x w' => x = .returned (.tuple #[]) ∧ Blk w' g (encC e.settle v) 177 ∧ Row w' 5 v (bytesV e.settle.out) ∧ Kept (fun k => k = g ∨ v.ownBlock = some k) w w' := by
  obtain ⟨E, hE⟩ : ∃ E, e.settle = E := ⟨_, rfl⟩
  rw [hE]
  obtain ⟨sz, lo, rn, out, go⟩ := e
  simp only at h0 h1 hl hn hR
  have c1 := hB.cell 1
  simp only [List.getElem?_toArray, List.getElem?_cons_zero, List.getElem?_cons_succ] at c1
  by_cases hlt : 4294967295 < lo
  · have hE' : E = ⟨sz, lo % 4294967296, rn, Sp.carryL out, go⟩ := by rw [← hE, Sp.Enc.settle, if_pos (by simpa using hlt)]
    subst hE'
    clear hE
    have hne := hR.ne hB (by decide)
    go_enter Tryz.func161, Tryz.ntmps161
    go_wp2_with fail
    refine (carry_any g _ _ _ v _ out hl hn _ hB hR).mono ?_
    rintro x w1 ⟨rfl, hR1, hK1⟩
    have hB1 := hB.keep hK1 hne
    have d1 := hB1.cell 1
    simp only [List.getElem?_toArray, List.getElem?_cons_zero, List.getElem?_cons_succ] at d1
    have f1 := hB1.frozen 1
    go_wp2_with fail
    rw [u64_and32 lo h0 (by omega)]
    go_end0
    refine ⟨rfl, ?_, ?_, ?_⟩
    · show Blk _ g #[.int .i64 sz, .int .u64 (lo % 4294967296), .int .u32 rn, v, .int .i64 go] _
      (apply Blk.mk_eq; (case h => repeat' (first | (with_reducible assumption) | (with_reducible apply Blk.drew) | (with_reducible apply Blk.drewN) | (with_reducible apply Blk.set) | ((with_reducible refine Blk.other ?_ ?ne _); case ne => (first | (simp only []; omega) | omega)) | (with_reducible apply Blk.alloc))); (case e => first | rfl | simp))
    · repeat' (first | (with_reducible assumption) | (with_reducible refine Row.drew ?_) | (with_reducible refine Row.drewN ?_ _) | (with_reducible refine Row.alloc ?_ _) | ((with_reducible refine Row.far ?_ _ ?ne _); case ne => (first | (with_reducible assumption) | (simp only []; assumption))))
    · exact (hK1.mono (T := fun k => k = g ∨ v.ownBlock = some k) (fun k h => Or.inr h)).setCell (p := ⟨g, 1, none⟩) (.inl (Or.inl (Eq.refl g))) _
  · have hE' : E = ⟨sz, lo, rn, out, go⟩ := by rw [← hE, Sp.Enc.settle, if_neg (by simpa using hlt)]
    subst hE'
    clear hE
    go_enter Tryz.func161, Tryz.ntmps161
    go_wp2
    go_end0
    exact ⟨rfl, hB, hR, Kept.refl _ _⟩
end Go.Proofs.YtkoljgmapclhkaaGreatDoor

namespace Go.Proofs.YtkoljgmapclhkaaGreatDoor
open Go.RowKit

theorem infoU8 : (Tryz.prog.info? 5).map (fun i => (i.zero, i.size, i.bytes)) = some (some (.int .u8 0), 1, 1) := by kernel_rfl

/-- The blocks that an encoder's calls may turn. -/
abbrev EncS (g : Nat) (v : Value) : Nat → Prop := fun k => k = g ∨ v.ownBlock = some k

set_option maxHeartbeats 1600000 in
theorem Put_any (g : Nat) {b : Int} {e : Sp.Enc} (hd : e.Ok b) (hb : b ≤ 1000000000) {x y t : Int} (hc : Sp.cellIs x y t) (v : Value) (w : World) (hB : Blk w g (encC e v) 177) (hR : Row w 5 v (bytesV e.out)) :
    Calls Tryz.prog 133 #[.pointer (some ⟨g, 0, none⟩), .int .i64 x, .int .i64 y, .int .i64 t] w fun r w' => r = .returned (.int .i64 0) ∧ ∃ v', Blk w' g (encC (e.put x y t) v') 177 ∧ Row w' 5 v' (bytesV (e.put x y t).out) ∧
      Kept (EncS g v) w w' ∧ (∀ k, v'.ownBlock = some k → v.ownBlock = some k ∨ w.heap.size ≤ k) := by
  obtain ⟨i0, hi, hz0, hz1, hz2⟩ := info_parts infoU8
  have hmid := Sp.Enc.raw_mid hd hc
  obtain ⟨R, hRR⟩ : ∃ R, e.put x y t = R := ⟨_, rfl⟩
  rw [hRR]
  have HR := Lib.hid hRR
  clear hRR
  have HM := Lib.hid hmid
  clear hmid
  have HC := Lib.hid hc
  obtain ⟨sz, lo, r, out, n⟩ := e
  obtain ⟨h1, h2, h3, h4, h5, h6, h7, h8⟩ := hd
  obtain ⟨g1, g2, g3, g4, g5, g6⟩ := hc
  simp only at h1 h2 h3 h4 h5 h6 h7 h8
  obtain ⟨b1, b2, b3⟩ := Sp.step_bd h3 h4 g1 g2
  have m1 := Sp.mul_bd b1 g4 (by omega : y ≤ t) b3
  have m2 := Sp.mul_bd0 b1 g3 (by omega : x ≤ t) b3
  have c1 := hB.cell 1
  have c2 := hB.cell 2
  simp only [List.getElem?_toArray, List.getElem?_cons_zero, List.getElem?_cons_succ] at c1 c2
  have f1 := hB.frozen 1
  have hne := hR.ne hB (by decide)
  have H5 := Lib.hid h5
  clear h5
  go_enter Tryz.func133, Tryz.ntmps133
  go_wp2_with (go_at_call 148; refine (cell_yes HC.out _).mono ?_; rintro e w' ⟨rfl, rfl⟩)
  have hB1 : Blk (w.setCell ⟨g, 1, none⟩ (.int .u64 (lo + r / t * x))) g (encC ⟨sz, lo + r / t * x, r, out, n⟩ v) 177 := by (apply Blk.mk_eq; (case h => repeat' (first | (with_reducible assumption) | (with_reducible apply Blk.drew) | (with_reducible apply Blk.drewN) | (with_reducible apply Blk.set) | ((with_reducible refine Blk.other ?_ ?ne _); case ne => (first | (simp only []; omega) | omega)) | (with_reducible apply Blk.alloc))); (case e => first | rfl | simp))
  refine (settle_any g ⟨sz, lo + r / t * x, r, out, n⟩ v (by simp only; omega) (by simp only; omega) H5.out (by simp only; omega) _ hB1 (hR.far ⟨g, 1, none⟩ hne _)).mono ?_
  rintro e w1 ⟨rfl, hB2, hR2, hK2⟩
  obtain ⟨E, hE⟩ : ∃ E, Sp.Enc.settle ⟨sz, lo + r / t * x, r, out, n⟩ = E := ⟨_, rfl⟩
  have q1 := Sp.Enc.settle_rng ⟨sz, lo + r / t * x, r, out, n⟩
  have hraw : Sp.Enc.raw ⟨sz, lo, r, out, n⟩ x y t = { E with rng := r / t * y } := by rw [Sp.Enc.raw, hE]
  rw [hE] at hB2 hR2 q1
  have HRW := Lib.hid hraw
  have HE := Lib.hid hE
  clear hraw hE hB1
  have hK3 : Kept (EncS g v) w w1 := ((Kept.refl _ w).setCell (p := ⟨g, 1, none⟩) (.inl (.inl (Eq.refl g))) _).trans hK2
  clear hK2
  have d2 := hB2.cell 2
  simp only [List.getElem?_toArray, List.getElem?_cons_zero, List.getElem?_cons_succ] at d2
  have e2 := hB2.frozen 2
  obtain ⟨esz, elo, er, eout, en⟩ := E
  simp only at q1
  obtain rfl : er = r := q1
  go_wp2_with fail
  go_loopw [] (fun wr => ∃ (k : Nat) (d : Sp.Enc) (v' : Value), d.Mid (b + 3) k ∧ Hid (d.norm k = R) ∧ Blk wr g (encC d v') 177 ∧ Row wr 5 v' (bytesV d.out) ∧ Kept (EncS g v) w wr ∧ Hid (∀ k, v'.ownBlock = some k → v.ownBlock = some k ∨ w.heap.size ≤ k)) (fun wr => far32 wr g 2)
  case atStart =>
    have hm := HM.out
    rw [HRW.out] at hm
    have hr2 := HR.out
    rw [Sp.Enc.put, HRW.out] at hr2
    refine ⟨3, _, v, hm, Lib.hid hr2, ?_, ?_, ?_, Lib.hid (fun k h => .inl h)⟩
    · show Blk _ g #[.int .i64 esz, .int .u64 elo, .int .u32 (er / t * y), v, .int .i64 en] _
      (apply Blk.mk_eq; (case h => repeat' (first | (with_reducible assumption) | (with_reducible apply Blk.drew) | (with_reducible apply Blk.drewN) | (with_reducible apply Blk.set) | ((with_reducible refine Blk.other ?_ ?ne _); case ne => (first | (simp only []; omega) | omega)) | (with_reducible apply Blk.alloc))); (case e => first | rfl | simp))
    · repeat' (first | (with_reducible assumption) | (with_reducible refine Row.drew ?_) | (with_reducible refine Row.drewN ?_ _) | (with_reducible refine Row.alloc ?_ _) | ((with_reducible refine Row.far ?_ _ ?ne _); case ne => (first | (with_reducible assumption) | (simp only []; assumption))))
    · exact hK3.setCell (p := ⟨g, 2, none⟩) (.inl (.inl (Eq.refl g))) _
  case round =>
    obtain ⟨k, d, v1, hm, hn, hB1, hR1, hK1, hF1⟩ := hrel
    have HM1 := Lib.hid hm
    have hmid := hm
    obtain ⟨s1, l1, r1, o1, n1⟩ := d
    obtain ⟨q1, q2, q3, q4, q5, q6, q7, q8, q9⟩ := hm
    simp only at q1 q2 q3 q4 q5 q6 q7 q8 hR1
    clear q9 q5
    have c1 := hB1.cell 1
    have c2 := hB1.cell 2
    have c3 := hB1.cell 3
    simp only [List.getElem?_toArray, List.getElem?_cons_zero, List.getElem?_cons_succ] at c1 c2 c3
    by_cases hr : r1 < 16777216
    · obtain ⟨j, rfl⟩ := hmid.pos hr
      have hl64 : o1.length + 1 ≤ 140737488355328 := by omega
      have hne1 := hR1.ne hB1 (by decide)
      have hgl := hB1.lt
      have hgn : g ≠ wr.heap.size := by omega
      clear hmid
      go_wp2_with fail
      go_region_law ((refine step_append_lies _ rfl (.tmp 56) (.tmp 63) 66 rfl 0 5 i0 (.int .u8 0) 1 1 Tryz.underlying66 hi hz0 hz1 hz2 rfl (by decide) v1 o1.length (bytesV o1) rfl (by have h := (hR1.drew).alloc (.cells #[.int .u8 (l1 / 16777216 % 256)] 5); unfold Row at h; rw [List.length_map] at h; exact h) ⟨wr.heap.size, 0, none⟩ 1 1 [.int .u8 (l1 / 16777216 % 256)] rfl rfl (World.news_of_block (World.alloc_heap_new wr.drew _)) (by simp [Value.oneCell']) (by decide) (by unfold maxLen; omega) (by omega) (Nat.zero_le _) _ rfl ?_); intro g2 cap2 w2 hown2 hgrow2 hat2 hlt2; have hB2 := ((hB1.drew).alloc (.cells #[.int .u8 (l1 / 16777216 % 256)] 5)).kept hgrow2 (fun e => hne1 e.symm); have e3 := hB2.cell 3; simp only [List.getElem?_toArray, List.getElem?_cons_zero, List.getElem?_cons_succ] at e3; have f3 := hB2.frozen 3)
      all_goals
        have d1 := hB2.cell 1
        have d2 := hB2.cell 2
        have d4 := hB2.cell 4
        simp only [List.getElem?_toArray, List.getElem?_cons_zero, List.getElem?_cons_succ] at d1 d2 d4
        have f1 := hB2.frozen 1
        have f2 := hB2.frozen 2
        have f4 := hB2.frozen 4
        go_wp2
        rw [u64_and32 _ (by omega) (by omega)]
        have hrow2 : Row w2 5 (.slice (some ⟨g2, 0, none⟩) (o1.length + 1) cap2) (bytesV (o1 ++ [l1 / 16777216 % 256])) := by
          rw [bytesV, List.map_append]
          exact Row.mk hown2
        have hne2 := hrow2.ne hB2 (by decide)
        have hsz := hK1.size
        have hK4 : Kept (EncS g v) w w2 := (hK1.drew.alloc _).grown hgrow2 (fun k hk => (hF1.out k hk).elim (fun h => .inl (.inr h)) .inr)
        have hF4 : ∀ k, (Value.slice (some ⟨g2, 0, none⟩) (o1.length + 1) cap2).ownBlock = some k → v.ownBlock = some k ∨ w.heap.size ≤ k := by
          intro k hk
          obtain rfl : g2 = k := by simpa [Value.ownBlock] using hk
          rcases hat2 with h | h
          · exact hF1.out _ h
          · right; rw [h]; simp [World.size_drew]; omega
        have HF4 := Lib.hid hF4
        clear hF4
        go_roundw
        case rel =>
          have hn2 := hn.out
          rw [Sp.Enc.norm_step hr] at hn2
          refine ⟨j, _, .slice (some ⟨g2, 0, none⟩) (o1.length + 1) cap2, Sp.Enc.step_mid HM1.out hr, Lib.hid hn2, ?_, ?_, ?_, HF4⟩
          · show Blk _ g #[.int .i64 s1, .int .u64 (l1 * 256 % 4294967296), .int .u32 (r1 * 256), .slice (some ⟨g2, 0, none⟩) (o1.length + 1) cap2, .int .i64 (n1 + 1)] _
            (apply Blk.mk_eq; (case h => repeat' (first | (with_reducible assumption) | (with_reducible apply Blk.drew) | (with_reducible apply Blk.drewN) | (with_reducible apply Blk.set) | ((with_reducible refine Blk.other ?_ ?ne _); case ne => (first | (simp only []; omega) | omega)) | (with_reducible apply Blk.alloc))); (case e => first | rfl | simp))
          · show Row _ 5 _ (bytesV (o1 ++ [l1 / 16777216 % 256]))
            repeat' (first | (with_reducible assumption) | (with_reducible refine Row.drew ?_) | (with_reducible refine Row.drewN ?_ _) | (with_reducible refine Row.alloc ?_ _) | ((with_reducible refine Row.far ?_ _ ?ne _); case ne => (first | (with_reducible assumption) | (simp only []; assumption))))
          · exact (((hK4.setCell (p := ⟨g, 3, none⟩) (.inl (.inl (Eq.refl g))) _).setCell (p := ⟨g, 1, none⟩) (.inl (.inl (Eq.refl g))) _).setCell (p := ⟨g, 2, none⟩) (.inl (.inl (Eq.refl g))) _).setCell (p := ⟨g, 4, none⟩) (.inl (.inl (Eq.refl g))) _
        case measure =>
          rw [far32_eq c2]
          refine Nat.lt_of_le_of_lt (Nat.le_of_eq (far32_eq (k := .u32) (n := r1 * 256) ?_)) (by omega)
          refine (Blk.cell (cs := #[.int .i64 s1, .int .u64 (l1 * 256 % 4294967296), .int .u32 (r1 * 256), .slice (some ⟨g2, 0, none⟩) (o1.length + 1) cap2, .int .i64 (n1 + 1)]) (t := 177) ?_ 2).trans rfl
          (apply Blk.mk_eq; (case h => repeat' (first | (with_reducible assumption) | (with_reducible apply Blk.drew) | (with_reducible apply Blk.drewN) | (with_reducible apply Blk.set) | ((with_reducible refine Blk.other ?_ ?ne _); case ne => (first | (simp only []; omega) | omega)) | (with_reducible apply Blk.alloc))); (case e => first | rfl | simp))
    · clear hmid
      go_wp2
      go_ret
      have := hn.out
      rw [Sp.Enc.norm_done (by simp only; omega)] at this
      subst this
      exact ⟨rfl, v1, hB1, hR1, hK1, hF1.out⟩

set_option maxHeartbeats 400000 in
theorem NewEnc_any (n : Int) (h0 : 1 ≤ n) (h1 : n ≤ 4096) (w : World) :
    Calls Tryz.prog 88 #[.int .i64 n] w fun e w' => ∃ g, w.heap.size ≤ g ∧ e = .returned (.tuple #[.pointer (some ⟨g, 0, none⟩), .int .i64 0]) ∧ Blk w' g (encC (Sp.Enc.new n) (.slice none 0 0)) 177 ∧ Below w.heap.size w w' := by
  go_enter Tryz.func88, Tryz.ntmps88
  go_wp2
  go_ret2
  exact ⟨w.heap.size, Nat.le_refl _, rfl, Blk.new _ _ _, by go_grown⟩

set_option maxHeartbeats 400000 in
theorem EncUsed_any (g : Nat) {b : Int} {e : Sp.Enc} (hd : e.Ok b) (hb : b ≤ 2000000000000) (v : Value) (w : World) (hB : Blk w g (encC e v) 177) :
    Calls Tryz.prog 91 #[.pointer (some ⟨g, 0, none⟩)] w fun r w' => r = .returned (.int .i64 e.used) ∧ Kept (fun _ => False) w w' := by
  obtain ⟨sz, lo, r, out, n⟩ := e
  obtain ⟨h1, h2, h3, h4, h5, h6, h7, h8⟩ := hd
  simp only at h1 h2 h3 h4 h6 h7 h8
  clear h5
  have c2 := hB.cell 2
  have c4 := hB.cell 4
  simp only [List.getElem?_toArray, List.getElem?_cons_zero, List.getElem?_cons_succ] at c2 c4
  go_enter Tryz.func91, Tryz.ntmps91
  go_wp2_with fail
  go_quiet ((go_at_call 115; exact quiet_same (used_any _ _ (by omega) (by omega) (by omega) (by omega) _)))
  go_wp2
  go_ret
  refine ⟨rfl, ?_⟩
  repeat (first | (with_reducible exact Kept.refl _ _) | (with_reducible assumption) | (with_reducible refine Kept.drew ?_) | (with_reducible refine Kept.drewN ?_ _) | ((with_reducible refine Kept.setCell ?_ ?hp _); case hp => (first | exact Or.inl rfl | (left; simp; done) | (right; simp only [World.size_alloc, World.size_setCell, World.size_drew]; omega))) | (with_reducible refine Kept.alloc ?_ _))
end Go.Proofs.YtkoljgmapclhkaaGreatDoor

namespace Go.Proofs.YtkoljgmapclhkaaGreatDoor
open Go.RowKit

theorem i64_and_nat (a b : Nat) (ha : a < 9223372036854775808) (hb : b < 9223372036854775808) : bits .and .i64 (a : Int) (b : Int) = ((a &&& b : Nat) : Int) := by
  have h := Nat.and_le_left (n := a) (m := b)
  show IntKind.i64.wrap ((BitVec.ofInt 64 (a : Int) &&& BitVec.ofInt 64 (b : Int)).toNat : Nat) = _
  rw [BitVec.toNat_and, BitVec.toNat_ofInt, BitVec.toNat_ofInt, show ((a : Int) % ((2 ^ 64 : Nat) : Int)).toNat = a from by omega, show ((b : Int) % ((2 ^ 64 : Nat) : Int)).toNat = b from by omega, IntKind.wrap_i64]
  omega
theorem i64_or_nat (a b : Nat) (ha : a < 9223372036854775808) (hb : b < 9223372036854775808) : bits .or .i64 (a : Int) (b : Int) = ((a ||| b : Nat) : Int) := by
  have h : a ||| b < 2 ^ 63 := Nat.or_lt_two_pow (by omega) (by omega)
  show IntKind.i64.wrap ((BitVec.ofInt 64 (a : Int) ||| BitVec.ofInt 64 (b : Int)).toNat : Nat) = _
  rw [BitVec.toNat_or, BitVec.toNat_ofInt, BitVec.toNat_ofInt, show ((a : Int) % ((2 ^ 64 : Nat) : Int)).toNat = a from by omega, show ((b : Int) % ((2 ^ 64 : Nat) : Int)).toNat = b from by omega, IntKind.wrap_i64]
  omega
/-- The lowest m bits. -/
theorem i64_low (x : Int) (m : Nat) (h0 : 0 ≤ x) (h1 : x ≤ 9223372036854775807) (hm : m ≤ 8) : bits .and .i64 x (2 ^ m - 1) = x % 2 ^ m := by
  obtain ⟨p0, p1⟩ := Sp.pow_bd m hm
  have h2 := i64_and_nat x.toNat (2 ^ m - 1) (by omega) (by have : (2 : Nat) ^ m ≤ 2 ^ 8 := Nat.pow_le_pow_right (by omega) hm; omega)
  have e : (((2 : Nat) ^ m - 1 : Nat) : Int) = 2 ^ m - 1 := by
    have : 1 ≤ (2 : Nat) ^ m := Nat.one_le_two_pow
    rw [Int.natCast_sub this]; simp
  rw [e, Int.toNat_of_nonneg h0, Nat.and_two_pow_sub_one_eq_mod] at h2
  rw [h2]
  push_cast
  rw [Int.toNat_of_nonneg h0]
/-- Bits above those that were there. -/
theorem i64_join (x p : Int) (a : Nat) (h0 : 0 ≤ x) (h1 : x < 2 ^ a) (p0 : 0 ≤ p) (p1 : p ≤ 255) (ha : a ≤ 16) : bits .or .i64 x (p * 2 ^ a) = x + p * 2 ^ a := by
  have hA : (2 : Nat) ^ a ≤ 2 ^ 16 := Nat.pow_le_pow_right (by omega) ha
  have h1' : x.toNat < 2 ^ a := by
    have : ((x.toNat : Nat) : Int) < ((2 ^ a : Nat) : Int) := by rw [Int.toNat_of_nonneg h0]; simpa using h1
    omega
  have hb : p.toNat * 2 ^ a ≤ 255 * 65536 := Nat.mul_le_mul (by omega) (by omega)
  have h2 := i64_or_nat x.toNat (p.toNat * 2 ^ a) (by omega) (by omega)
  have e2 : ((p.toNat * 2 ^ a : Nat) : Int) = p * 2 ^ a := by push_cast; rw [Int.toNat_of_nonneg p0]
  rw [e2, Int.toNat_of_nonneg h0] at h2
  rw [h2, Nat.or_comm, Nat.mul_comm, ← Nat.two_pow_add_eq_or_of_lt h1']
  push_cast
  rw [Int.toNat_of_nonneg h0, Int.toNat_of_nonneg p0, Int.mul_comm]
  omega
theorem Sp.pow_bd16 {a : Nat} (h : a ≤ 16) : (1 : Int) ≤ 2 ^ a ∧ (2 : Int) ^ a ≤ 65536 := by
  have h2 : (2 : Int) ^ a ≤ 2 ^ 16 := by exact_mod_cast (Nat.pow_le_pow_right (by omega : 0 < 2) h)
  have h3 : (0 : Int) < 2 ^ a := Int.pow_pos (by omega)
  omega
/-- A callee's frame behind another's, where what the second may turn the first might, or made. -/
theorem Kept.then' {S T : Nat → Prop} {w w1 w2 : World} (h : Kept S w w1) (k : Kept T w1 w2) (hs : ∀ i, T i → S i ∨ w.heap.size ≤ i) : Kept S w w2 :=
  ⟨k.os.trans h.os, k.tape.trans h.tape, k.output.trans h.output, Nat.le_trans h.size k.size, fun i hi hn => (k.block i (Nat.lt_of_lt_of_le hi h.size) (fun t => (hs i t).elim hn (fun g => by omega))).trans (h.block i hi hn)⟩

set_option maxRecDepth 100000 in
set_option maxHeartbeats 500000 in
theorem EBits_any (g : Nat) {b : Int} {e : Sp.Enc} (hd : e.Ok b) (hb : b ≤ 900000000) (x : Int) (n : Nat) (hn : n ≤ 24) (hx0 : 0 ≤ x) (hx1 : x < 2 ^ n) (v : Value) (w : World) (hB : Blk w g (encC e v) 177) (hR : Row w 5 v (bytesV e.out)) :
    Calls Tryz.prog 96 #[.pointer (some ⟨g, 0, none⟩), .int .i64 x, .int .i64 n] w fun r w' => r = .returned (.int .i64 0) ∧ ∃ v', Blk w' g (encC (e.puts (Sp.bitF 3 x n)) v') 177 ∧ Row w' 5 v' (bytesV (e.puts (Sp.bitF 3 x n)).out) ∧
      Kept (EncS g v) w w' ∧ (∀ k, v'.ownBlock = some k → v.ownBlock = some k ∨ w.heap.size ≤ k) := by
  have hxq : x / 2 ^ n = 0 := Int.ediv_eq_zero_of_lt hx0 hx1
  have hx2 : x ≤ 16777216 := by
    have h2 : (2 : Int) ^ n ≤ 2 ^ 24 := by exact_mod_cast (Nat.pow_le_pow_right (by omega : 0 < 2) hn)
    omega
  clear hx1
  obtain ⟨R, hRR⟩ : ∃ R, e.puts (Sp.bitF 3 x n) = R := ⟨_, rfl⟩
  rw [hRR]
  have HR := Lib.hid hRR
  clear hRR
  go_enter Tryz.func96, Tryz.ntmps96
  go_wp2_with fail
  go_loopw [1, 2] (fun xv nv wr => ∃ (f m : Nat) (y : Int) (q : Sp.Enc) (v1 : Value), xv = .int .i64 y ∧ nv = .int .i64 m ∧ 0 ≤ y ∧ y ≤ 16777216 ∧ m ≤ 24 ∧ m ≤ 8 * f ∧ f ≤ 3 ∧ q.Ok (b + 9 - 3 * f) ∧ Hid (q.puts (Sp.bitF f y m) = R) ∧ Blk wr g (encC q v1) 177 ∧ Row wr 5 v1 (bytesV q.out) ∧ Kept (EncS g v) w wr ∧ Hid (∀ k, v1.ownBlock = some k → v.ownBlock = some k ∨ w.heap.size ≤ k)) (fun _ nv _ => (intOf nv).toNat)
  case atStart => exact ⟨3, n, x, e, v, rfl, rfl, hx0, hx2, hn, by omega, Nat.le_refl _, by rw [show b + 9 - 3 * ((3 : Nat) : Int) = b from by omega]; exact hd, HR, hB, hR, Kept.refl _ _, Lib.hid (fun k hk => .inl hk)⟩
  case round =>
    clear hB hR hxq
    obtain ⟨f, m, y, q, v1, rfl, rfl, hy0, hy1, hm0, hmf, hf3, hq, HQ, hB, hR, hK, hF⟩ := hrel
    by_cases hz : m = 0
    · subst hz
      go_wp2_with fail
      go_ret
      have h := HQ.out
      rw [Sp.bitF_zero, Sp.Enc.puts, List.foldl_nil] at h
      subst h
      exact ⟨rfl, v1, hB, hR, hK, hF.out⟩
    · obtain ⟨f, rfl⟩ : ∃ j, f = j + 1 := ⟨f - 1, by omega⟩
      have hnext := Lib.hid (Sp.bitF_next f y m hz)
      have hm1 : (0 : Int) < m := by omega
      by_cases hle : m ≤ 8
      · obtain ⟨p0, p1⟩ := Sp.pow_bd m hle
        have hc := Sp.bit_cell y m hle
        have hand := i64_low y m hy0 (by omega) hle
        have hmin : min m 8 = m := by omega
        have hnx := hnext.out
        rw [hmin] at hnx
        obtain ⟨p, hp⟩ : ∃ p, (2 : Int) ^ m = p := ⟨_, rfl⟩
        rw [hp] at p0 p1 hc hand hnx
        have hq2 := HQ.out
        rw [hnx, Sp.Enc.puts_cons] at hq2
        have HQ2 := Lib.hid hq2
        clear hq2 hnx hnext
        have hmn : min (m : Int) 8 = (m : Int) := by omega
        have hy3 : y / p ≤ 16777216 := Int.le_trans (Int.ediv_le_self _ hy0) hy1
        have hy4 : 0 ≤ y / p := Int.ediv_nonneg hy0 (by omega)
        go_wp2_with fail
        go_still_tail 8, (by kernel_rfl)
        change wpList _ _ _ _ _ (World.drew _)
        go_wp2_with fail
        rw [hand]
        refine (Put_any g hq (by omega) hc v1 _ hB.drew hR.drew).mono ?_
        rintro e2 w2 ⟨rfl, v2, hB2, hR2, hK2, hF2⟩
        have hq3 := Sp.Enc.put_ok hq hc
        have hK3 : Kept (EncS g v) w w2 := hK.drew.then' hK2 (fun i hi => hi.elim (fun h => .inl (.inl h)) (fun h => (hF.out i h).elim (fun h => .inl (.inr h)) .inr))
        have hF3 := Lib.hid (fun k (hk : v2.ownBlock = some k) => (show v.ownBlock = some k ∨ w.heap.size ≤ k from by
          rcases hF2 k hk with h | h
          · exact hF.out k h
          · have := hK.size; simp only [World.size_drew] at h; right; omega))
        rw [show b + 9 - 3 * ((f + 1 : Nat) : Int) + 3 = b + 9 - 3 * (f : Int) from by omega] at hq3
        clear hB hR hK hF hK2 hF2 hq
        go_wp2_with fail
        go_roundw
        case rel => exact ⟨f, 0, y / p, _, v2, rfl, by go_num, hy4, hy3, by omega, by omega, by omega, hq3, Lib.hid (by have h := HQ2.out; rw [Nat.sub_self] at h; exact h), hB2, hR2, hK3, hF3⟩
        case measure => simp [intOf]; omega
      · have hc := Sp.bit_cell y 8 (by omega)
        have hand := i64_low y 8 hy0 (by omega) (by omega)
        have hmin : min m 8 = 8 := by omega
        have hnx := hnext.out
        rw [hmin] at hnx
        simp only [show (2 : Int) ^ 8 = 256 from rfl] at hc hand hnx
        have hq2 := HQ.out
        rw [hnx, Sp.Enc.puts_cons] at hq2
        have HQ2 := Lib.hid hq2
        clear hq2 hnx hnext
        have hmn : min (m : Int) 8 = 8 := by omega
        have hy3 : y / 256 ≤ 16777216 := by omega
        have hy4 : 0 ≤ y / 256 := by omega
        go_wp2_with fail
        go_still_tail 8, (by kernel_rfl)
        change wpList _ _ _ _ _ (World.drew _)
        go_wp2_with fail
        rw [hand]
        refine (Put_any g hq (by omega) hc v1 _ hB.drew hR.drew).mono ?_
        rintro e2 w2 ⟨rfl, v2, hB2, hR2, hK2, hF2⟩
        have hq3 := Sp.Enc.put_ok hq hc
        have hK3 : Kept (EncS g v) w w2 := hK.drew.then' hK2 (fun i hi => hi.elim (fun h => .inl (.inl h)) (fun h => (hF.out i h).elim (fun h => .inl (.inr h)) .inr))
        have hF3 := Lib.hid (fun k (hk : v2.ownBlock = some k) => (show v.ownBlock = some k ∨ w.heap.size ≤ k from by
          rcases hF2 k hk with h | h
          · exact hF.out k h
          · have := hK.size; simp only [World.size_drew] at h; right; omega))
        rw [show b + 9 - 3 * ((f + 1 : Nat) : Int) + 3 = b + 9 - 3 * (f : Int) from by omega] at hq3
        clear hB hR hK hF hK2 hF2 hq
        go_wp2_with fail
        go_roundw
        case rel => exact ⟨f, m - 8, y / 256, _, v2, rfl, by go_num, hy4, hy3, by omega, by omega, by omega, hq3, HQ2, hB2, hR2, hK3, hF3⟩
        case measure => simp [intOf]; omega

set_option maxRecDepth 100000 in
set_option maxHeartbeats 500000 in
theorem DBits_any (g : Nat) {b : Int} {d : Sp.Dec} (hd : d.Ok b) (hb : b ≤ 900000000000) (n : Nat) (hn : n ≤ 24) (w : World) (hB : Blk w g (decC d) 154) :
    Calls Tryz.prog 65 #[.pointer (some ⟨g, 0, none⟩), .int .i64 n] w fun e w' => e = .returned (.tuple #[.int .i64 (Sp.Dec.bitF 3 d n 0 0).1, .int .i64 0]) ∧ Blk w' g (decC (Sp.Dec.bitF 3 d n 0 0).2) 154 ∧ Kept (· = g) w w' := by
  obtain ⟨R, hRR⟩ : ∃ R, Sp.Dec.bitF 3 d n 0 0 = R := ⟨_, rfl⟩
  rw [hRR]
  have HR := Lib.hid hRR
  clear hRR
  go_enter Tryz.func65, Tryz.ntmps65
  go_wp2_with fail
  go_loopw [6, 7] (fun xv av wr => ∃ (f a : Nat) (acc : Int) (q : Sp.Dec), xv = .int .i64 acc ∧ av = .int .i64 a ∧ 0 ≤ acc ∧ acc ≤ 16777216 ∧ Hid (acc < 2 ^ a) ∧ f ≤ 3 ∧ Hid (a = 8 * (3 - f)) ∧ n ≤ a + 8 * f ∧ q.Ok (b + 9 - 3 * f) ∧ Hid (Sp.Dec.bitF f q (n - a) a acc = R) ∧ Blk wr g (decC q) 154 ∧ Kept (· = g) w wr) (fun _ av _ => 32 - (intOf av).toNat)
  case atStart => exact ⟨3, 0, 0, d, rfl, rfl, by omega, by omega, Lib.hid (by simp), Nat.le_refl _, Lib.hid (by omega), by omega, by rw [show b + 9 - 3 * ((3 : Nat) : Int) = b from by omega]; exact hd, HR, hB, Kept.refl _ _⟩
  case round =>
    clear hB
    obtain ⟨f, a, acc, q, rfl, rfl, h0, hacc, HA, hf3, ha8, hna, hq, HQ, hB, hK⟩ := hrel
    by_cases hlt : a < n
    · have ha16 : a ≤ 16 := by have := ha8.out; omega
      obtain ⟨f, rfl⟩ : ∃ j, f = j + 1 := ⟨f - 1, by omega⟩
      obtain ⟨r, hr⟩ : ∃ r, n - a = r := ⟨_, rfl⟩
      have hq1 := HQ.out
      rw [hr, Sp.Dec.bitF_next _ _ _ _ _ (by omega : r ≠ 0)] at hq1
      have hri : (n : Int) - (a : Int) = (r : Int) := by omega
      by_cases hle : r ≤ 8
      · rw [show min r 8 = r from by omega] at hq1
        obtain ⟨p0, p1⟩ := Sp.pow_bd r hle
        have hc := Sp.Dec.bit_cell hq r hle
        have hzb := Sp.Dec.place_bd hq p0 (by omega)
        obtain ⟨p, hp⟩ : ∃ p, (2 : Int) ^ r = p := ⟨_, rfl⟩
        rw [hp] at p0 p1 hc hq1 hzb
        have hmn : min (r : Int) 8 = (r : Int) := by omega
        have hA := Sp.pow_bd16 ha16
        have hjoin := fun z (hz0 : 0 ≤ z) (hz1 : z ≤ 255) => i64_join acc z a h0 HA.out hz0 hz1 ha16
        have hacc2 := HA.out
        have hfin1 : (2 : Int) ^ (a + 8) = 2 ^ a * 256 := by rw [Int.pow_add]; rfl
        obtain ⟨A, hAA⟩ : ∃ A, (2 : Int) ^ a = A := ⟨_, rfl⟩
        rw [hAA] at hA hq1 hacc2 hfin1
        simp only [hAA] at hjoin
        obtain ⟨z, hz⟩ : ∃ z, q.place p = z := ⟨_, rfl⟩
        rw [hz] at hc hzb hq1
        have hor := hjoin z hzb.1 (by omega)
        have m0 : 0 ≤ z * A := Int.mul_nonneg hzb.1 (by omega)
        have m1 : z * A ≤ 255 * A := Int.mul_le_mul_of_nonneg_right (by omega) (by omega)
        have hfin : acc + z * A < 2 ^ (a + 8) := by rw [hfin1]; omega
        have m2 : acc + z * A ≤ 16777216 := by omega
        have HFIN := Lib.hid hfin
        clear hfin
        have HZ := Lib.hid hz
        have HQ2 := Lib.hid hq1
        clear hz hq1 hjoin hfin1 HQ
        go_wp2_with fail
        refine (At_any g hq p (by omega) (by omega) _ hB).mono ?_
        rw [HZ.out]
        rintro e1 w1 ⟨rfl, hK1⟩
        have hB1 := hB.keep hK1 (fun h => h)
        have hK1' : Kept (· = g) w w1 := hK.trans (hK1.mono (fun _ h => h.elim))
        clear hB hK hK1
        go_wp2_with fail
        refine (Take_any g hq (by omega) hc _ hB1).mono ?_
        rintro e2 w2 ⟨rfl, hB2, hK2⟩
        have hK3 := hK1'.trans hK2
        have hq3 := Sp.Dec.take_ok hq hc
        rw [show b + 9 - 3 * ((f + 1 : Nat) : Int) + 3 = b + 9 - 3 * (f : Int) from by omega] at hq3
        clear hB1 hK1' hK2 hq
        go_wp2_with fail
        go_roundw
        case rel => exact ⟨f, a + 8, acc + z * A, _, rfl, by go_num, by omega, by omega, HFIN, by omega, Lib.hid (by have := ha8.out; omega), by omega, hq3, Lib.hid (by have h := HQ2.out; rw [show r - r = n - (a + 8) from by omega] at h; exact h), hB2, hK3⟩
        case measure => simp [intOf]; omega
      · rw [show min r 8 = 8 from by omega] at hq1
        have hc := Sp.Dec.bit_cell hq 8 (by omega)
        have hzb := Sp.Dec.place_bd hq (show (1 : Int) ≤ 2 ^ 8 by decide) (by decide)
        simp only [show (2 : Int) ^ 8 = 256 from rfl] at hc hq1 hzb
        have hmn : min (r : Int) 8 = 8 := by omega
        have hA := Sp.pow_bd16 ha16
        have hjoin := fun z (hz0 : 0 ≤ z) (hz1 : z ≤ 255) => i64_join acc z a h0 HA.out hz0 hz1 ha16
        have hacc2 := HA.out
        have hfin1 : (2 : Int) ^ (a + 8) = 2 ^ a * 256 := by rw [Int.pow_add]; rfl
        obtain ⟨A, hAA⟩ : ∃ A, (2 : Int) ^ a = A := ⟨_, rfl⟩
        rw [hAA] at hA hq1 hacc2 hfin1
        simp only [hAA] at hjoin
        obtain ⟨z, hz⟩ : ∃ z, q.place 256 = z := ⟨_, rfl⟩
        rw [hz] at hc hzb hq1
        have hor := hjoin z hzb.1 (by omega)
        have m0 : 0 ≤ z * A := Int.mul_nonneg hzb.1 (by omega)
        have m1 : z * A ≤ 255 * A := Int.mul_le_mul_of_nonneg_right (by omega) (by omega)
        have hfin : acc + z * A < 2 ^ (a + 8) := by rw [hfin1]; omega
        have m2 : acc + z * A ≤ 16777216 := by omega
        have HFIN := Lib.hid hfin
        clear hfin
        have HZ := Lib.hid hz
        have HQ2 := Lib.hid hq1
        clear hz hq1 hjoin hfin1 HQ
        go_wp2_with fail
        refine (At_any g hq 256 (by omega) (by omega) _ hB).mono ?_
        rw [HZ.out]
        rintro e1 w1 ⟨rfl, hK1⟩
        have hB1 := hB.keep hK1 (fun h => h)
        have hK1' : Kept (· = g) w w1 := hK.trans (hK1.mono (fun _ h => h.elim))
        clear hB hK hK1
        go_wp2_with fail
        refine (Take_any g hq (by omega) hc _ hB1).mono ?_
        rintro e2 w2 ⟨rfl, hB2, hK2⟩
        have hK3 := hK1'.trans hK2
        have hq3 := Sp.Dec.take_ok hq hc
        rw [show b + 9 - 3 * ((f + 1 : Nat) : Int) + 3 = b + 9 - 3 * (f : Int) from by omega] at hq3
        clear hB1 hK1' hK2 hq
        go_wp2_with fail
        go_roundw
        case rel => exact ⟨f, a + 8, acc + z * A, _, rfl, by go_num, by omega, by omega, HFIN, by omega, Lib.hid (by have := ha8.out; omega), by omega, hq3, Lib.hid (by have h := HQ2.out; rw [show r - 8 = n - (a + 8) from by omega] at h; exact h), hB2, hK3⟩
        case measure => simp [intOf]; omega
    · go_wp2_with fail
      go_ret2
      have h := HQ.out
      rw [show n - a = 0 from by omega, Sp.Dec.bitF_zero] at h
      subst h
      exact ⟨rfl, hB, hK⟩
end Go.Proofs.YtkoljgmapclhkaaGreatDoor

namespace Go.Proofs.YtkoljgmapclhkaaGreatDoor
open Go.RowKit

set_option maxHeartbeats 400000 in
theorem Cut16 (x : Int) (w : World) : Calls Tryz.prog 71 #[.int .i64 x, .int .i64 16] w fun e w' => e = .returned (.int .i64 (Sp.cut 16 x)) ∧ w = w' := by
  go_enter Tryz.func71, Tryz.ntmps71
  go_wp2
  go_ret
  exact ⟨rfl, rfl⟩
set_option maxHeartbeats 400000 in
theorem Cut22 (x : Int) (w : World) : Calls Tryz.prog 71 #[.int .i64 x, .int .i64 22] w fun e w' => e = .returned (.int .i64 (Sp.cut 22 x)) ∧ w = w' := by
  go_enter Tryz.func71, Tryz.ntmps71
  go_wp2
  go_ret
  exact ⟨rfl, rfl⟩
set_option maxHeartbeats 400000 in
theorem Cut32 (x : Int) (w : World) : Calls Tryz.prog 71 #[.int .i64 x, .int .i64 32] w fun e w' => e = .returned (.int .i64 (Sp.cut 32 x)) ∧ w = w' := by
  go_enter Tryz.func71, Tryz.ntmps71
  go_wp2
  go_ret
  exact ⟨rfl, rfl⟩
set_option maxHeartbeats 400000 in
theorem Length_any (x : Int) (h0 : 0 ≤ x) (h1 : x ≤ 9223372036854775807) (w : World) : Calls Tryz.prog 131 #[.int .i64 x] w fun e w' => e = .returned (.int .i64 (Lib.bitLen x.toNat : Int)) ∧ w = w' := by
  go_enter Tryz.func131, Tryz.ntmps131
  go_wp2_with fail
  refine (Tryz.bits_Len64 x _ h0 (by omega)).mono ?_
  rintro e w1 ⟨rfl, rfl⟩
  go_wp2_with fail
  go_ret
  exact ⟨rfl, rfl⟩
theorem vsize_any (x : Int) (h0 : -8 ≤ x) (h1 : x ≤ 8) (w : World) : Calls Tryz.prog 140 #[.int .i64 x] w fun e w' => e = .returned (.int .i64 (max x (-x))) ∧ w = w' := by
  go_enter Tryz.func140, Tryz.ntmps140
  go_wp2
  go_ret
  exact ⟨rfl, rfl⟩
theorem may_yes (b : Nat) (hb : b < 4) (w : World) : Calls Tryz.prog 116 #[.int .i64 b] w fun e w' => e = .returned (.bool true) ∧ w = w' := by
  go_enter Tryz.func116, Tryz.ntmps116
  go_wp2
  go_ret
  exact ⟨by simp; omega, rfl⟩
/-- The table of the bands' first waves lies in its variable. -/
def BandsW (W : World) : Prop := Blk W 0 #[.int .i64 0, .int .i64 2, .int .i64 4, .int .i64 8, .int .i64 16] 164
def bandN (b : Nat) : Nat := [2, 2, 4, 8].getD b 0
set_option maxHeartbeats 400000 in
theorem Size_any (b : Nat) (hb : b < 4) (w : World) (hW : BandsW w) : Calls Tryz.prog 98 #[.int .i64 b] w fun e w' => e = .returned (.int .i64 (bandN b)) ∧ Kept (fun _ => False) w w' := by
  have hm := may_yes b hb w
  have c0 := hW.cell 0
  have c1 := hW.cell 1
  have c2 := hW.cell 2
  have c3 := hW.cell 3
  have c4 := hW.cell 4
  simp only [List.getElem?_toArray, List.getElem?_cons_zero, List.getElem?_cons_succ] at c0 c1 c2 c3 c4
  have hb4 : b = 0 ∨ b = 1 ∨ b = 2 ∨ b = 3 := by omega
  rcases hb4 with rfl | rfl | rfl | rfl
  all_goals
    go_enter Tryz.func98, Tryz.ntmps98
    go_wp2_with fail
    refine hm.mono ?_
    rintro e w1 ⟨rfl, rfl⟩
    go_wp2_with fail
    go_quiet (fail)
    go_wp2_with fail
    go_ret
    exact ⟨rfl, by repeat (first | (with_reducible exact Kept.refl _ _) | (with_reducible assumption) | (with_reducible refine Kept.drew ?_) | (with_reducible refine Kept.drewN ?_ _) | ((with_reducible refine Kept.setCell ?_ ?hp _); case hp => (first | exact Or.inl rfl | (left; simp; done) | (right; simp only [World.size_alloc, World.size_setCell, World.size_drew]; omega))) | (with_reducible refine Kept.alloc ?_ _))⟩
end Go.Proofs.YtkoljgmapclhkaaGreatDoor

namespace Go.Proofs.YtkoljgmapclhkaaGreatDoor
open Go.RowKit

set_option maxHeartbeats 800000 in
theorem Shift15 (x : Int) (w : World) : Calls Tryz.prog 104 #[.int .i64 x, .int .i64 15] w fun e w' => e = .returned (.int .i64 (Sp.shiftN 15 x)) ∧ w = w' := by
  unfold Sp.shiftN
  by_cases h1 : x < -1099511627776
  · rw [if_pos (.inl h1)]
    go_enter Tryz.func104, Tryz.ntmps104
    go_wp2
    go_ret
    exact ⟨rfl, rfl⟩
  by_cases h2 : 1099511627776 < x
  · rw [if_pos (.inr h2)]
    go_enter Tryz.func104, Tryz.ntmps104
    go_wp2
    go_ret
    exact ⟨rfl, rfl⟩
  rw [if_neg (by omega)]
  go_enter Tryz.func104, Tryz.ntmps104
  go_wp2
  go_ret
  exact ⟨rfl, rfl⟩
theorem by_any (a b : Int) (h0 : 0 ≤ a * b) (h1 : a * b ≤ 1152921504606846976) (w : World) : Calls Tryz.prog 197 #[.int .i64 a, .int .i64 b] w fun e w' => e = .returned (.int .i64 (Sp.byS a b)) ∧ w = w' := by
  unfold Sp.byS
  go_enter Tryz.func197, Tryz.ntmps197
  go_wp2
  go_ret
  exact ⟨rfl, rfl⟩
theorem byS_bd {a b : Int} (a0 : 0 ≤ a) (a1 : a ≤ 1073741824) (b0 : 0 ≤ b) (b1 : b ≤ 1073741824) : 0 ≤ a * b ∧ a * b ≤ 1152921504606846976 ∧ 0 ≤ Sp.byS a b ∧ Sp.byS a b ≤ 1073741824 := by
  have h0 := Int.mul_nonneg a0 b0
  have h1 : a * b ≤ 1073741824 * 1073741824 := Int.mul_le_mul a1 b1 b0 (by omega)
  unfold Sp.byS
  omega
set_option maxHeartbeats 800000 in
theorem cosine_any (u : Int) (h0 : 0 ≤ u) (h1 : u ≤ 16) (w : World) : Calls Tryz.prog 190 #[.int .i64 u] w fun e w' => e = .returned (.int .i64 (Sp.cosS u)) ∧ w = w' := by
  unfold Sp.cosS
  obtain ⟨x, hx⟩ : ∃ x, u * 105414357 / 2 = x := ⟨_, rfl⟩
  have hx0 : 0 ≤ x := by omega
  have hx1 : x ≤ 1073741824 := by omega
  rw [hx]
  simp only []
  obtain ⟨m0, m1, y0, y1⟩ := byS_bd hx0 hx1 hx0 hx1
  have hby := fun w => by_any x x m0 m1 w
  obtain ⟨y, hy⟩ : ∃ y, Sp.byS x x = y := ⟨_, rfl⟩
  simp only [hy] at y0 y1 hby ⊢
  obtain ⟨n0, n1, q0, q1⟩ := byS_bd y0 y1 y0 y1
  have hbq := fun w => by_any y y n0 n1 w
  obtain ⟨q, hq⟩ : ∃ q, Sp.byS y y = q := ⟨_, rfl⟩
  simp only [hq] at q0 q1 hbq ⊢
  obtain ⟨p0, p1, _, _⟩ := byS_bd q0 q1 y0 y1
  obtain ⟨r0, r1, _, _⟩ := byS_bd q0 q1 q0 q1
  clear hy hq
  go_enter Tryz.func190, Tryz.ntmps190
  go_wp2_with fail
  refine (hby _).mono ?_
  rintro e w1 ⟨rfl, rfl⟩
  go_wp2_with fail
  refine (hbq _).mono ?_
  rintro e w1 ⟨rfl, rfl⟩
  go_wp2_with fail
  go_ret
  exact ⟨rfl, rfl⟩
set_option maxHeartbeats 800000 in
theorem sine_any (u : Int) (h0 : 0 ≤ u) (h1 : u ≤ 16) (w : World) : Calls Tryz.prog 189 #[.int .i64 u] w fun e w' => e = .returned (.int .i64 (Sp.sinS u)) ∧ w = w' := by
  unfold Sp.sinS
  obtain ⟨x, hx⟩ : ∃ x, u * 105414357 / 2 = x := ⟨_, rfl⟩
  have hx0 : 0 ≤ x := by omega
  have hx1 : x ≤ 1073741824 := by omega
  rw [hx]
  simp only []
  obtain ⟨m0, m1, y0, y1⟩ := byS_bd hx0 hx1 hx0 hx1
  have hby := fun w => by_any x x m0 m1 w
  obtain ⟨y, hy⟩ : ∃ y, Sp.byS x x = y := ⟨_, rfl⟩
  simp only [hy] at y0 y1 hby ⊢
  obtain ⟨n0, n1, q0, q1⟩ := byS_bd y0 y1 y0 y1
  have hbq := fun w => by_any y y n0 n1 w
  obtain ⟨q, hq⟩ : ∃ q, Sp.byS y y = q := ⟨_, rfl⟩
  simp only [hq] at q0 q1 hbq ⊢
  obtain ⟨p0, p1, z0, z1⟩ := byS_bd q0 q1 y0 y1
  have hbz := fun w => by_any q y p0 p1 w
  obtain ⟨z, hz⟩ : ∃ z, Sp.byS q y = z := ⟨_, rfl⟩
  simp only [hz] at z0 z1 hbz ⊢
  obtain ⟨r0, r1, _, _⟩ := byS_bd hx0 hx1 y0 y1
  obtain ⟨s0, s1, _, _⟩ := byS_bd hx0 hx1 q0 q1
  obtain ⟨t0, t1, _, _⟩ := byS_bd hx0 hx1 z0 z1
  clear hy hq hz
  go_enter Tryz.func189, Tryz.ntmps189
  go_wp2_with fail
  refine (hby _).mono ?_
  rintro e w1 ⟨rfl, rfl⟩
  go_wp2_with fail
  refine (hbq _).mono ?_
  rintro e w1 ⟨rfl, rfl⟩
  go_wp2_with fail
  refine (hbz _).mono ?_
  rintro e w1 ⟨rfl, rfl⟩
  go_wp2_with fail
  go_ret
  exact ⟨rfl, rfl⟩
theorem told_any (x : Int) (w : World) : Calls Tryz.prog 188 #[.int .i64 x] w fun e w' => e = .returned (.int .i64 (Sp.shiftN 15 x)) ∧ w = w' := by
  go_enter Tryz.func188, Tryz.ntmps188
  go_wp2_with fail
  refine (Shift15 x _).mono ?_
  rintro e w1 ⟨rfl, rfl⟩
  go_wp2_with fail
  go_ret
  exact ⟨rfl, rfl⟩
theorem shift_bd (x : Int) : -33554433 ≤ Sp.shiftN 15 x ∧ Sp.shiftN 15 x ≤ 33554433 := by
  unfold Sp.shiftN
  split <;> omega
theorem tm_bd (u : Int) : -128 ≤ u.tmod 128 ∧ u.tmod 128 ≤ 128 ∧ (u.tmod 128 + 128) % 128 = u % 128 := by
  rcases Int.le_total 0 u with h | h
  · rw [Int.tmod_eq_emod_of_nonneg h]; omega
  · have e : u.tmod 128 = -((-u) % 128) := by
      have h2 := Int.neg_tmod (-u) 128
      rw [Int.neg_neg] at h2
      rw [h2, Int.tmod_eq_emod_of_nonneg (by omega)]
    rw [e]; omega
theorem tm128 (u : Int) : (u.tmod 128 + 128).tmod 128 = u % 128 := by
  have h := tm_bd u
  rw [Int.tmod_eq_emod_of_nonneg (by omega)]
  exact h.2.2
theorem Cos2_any (u a : Int) (ha : u % 128 = a) (h1 : a ≤ 32) (w : World) : Calls Tryz.prog 171 #[.int .i64 u] w fun e w' => e = .returned (.int .i64 (Sp.cos2 a)) ∧ w = w' := by
  have h0 : 0 ≤ a := by omega
  have ht := tm128 u
  rw [ha] at ht
  have hr0 : -128 ≤ u.tmod 128 := (tm_bd u).1
  have hr1 : u.tmod 128 ≤ 128 := (tm_bd u).2.1
  unfold Sp.cos2
  by_cases h : 16 < a
  · rw [if_pos h]
    have hs := fun w => sine_any (32 - a) (by omega) (by omega) w
    go_enter Tryz.func171, Tryz.ntmps171
    go_wp2_with fail
    refine (hs _).mono ?_
    rintro e w1 ⟨rfl, rfl⟩
    go_wp2_with fail
    refine (told_any _ _).mono ?_
    rintro e w1 ⟨rfl, rfl⟩
    go_wp2_with fail
    go_ret
    exact ⟨rfl, rfl⟩
  · rw [if_neg h]
    have hs := fun w => cosine_any a h0 (by omega) w
    go_enter Tryz.func171, Tryz.ntmps171
    go_wp2_with fail
    refine (hs _).mono ?_
    rintro e w1 ⟨rfl, rfl⟩
    go_wp2_with fail
    refine (told_any _ _).mono ?_
    rintro e w1 ⟨rfl, rfl⟩
    go_wp2_with fail
    go_ret
    exact ⟨rfl, rfl⟩
theorem cos2_bd (a : Int) : -33554433 ≤ Sp.cos2 a ∧ Sp.cos2 a ≤ 33554433 := by
  unfold Sp.cos2; split <;> exact shift_bd _
theorem Cos1_any (u a : Int) (ha : u % 128 = a) (h1 : a ≤ 64) (w : World) : Calls Tryz.prog 171 #[.int .i64 u] w fun e w' => e = .returned (.int .i64 (Sp.cos1 a)) ∧ w = w' := by
  have h0 : 0 ≤ a := by omega
  unfold Sp.cos1
  by_cases h : 32 < a
  · rw [if_pos h]
    have ht := tm128 u
    rw [ha] at ht
    have hr0 : -128 ≤ u.tmod 128 := (tm_bd u).1
    have hr1 : u.tmod 128 ≤ 128 := (tm_bd u).2.1
    have hs := fun w => Cos2_any (64 - a) (64 - a) (by omega) (by omega) w
    have hbd := cos2_bd (64 - a)
    obtain ⟨c, hc⟩ : ∃ c, Sp.cos2 (64 - a) = c := ⟨_, rfl⟩
    rw [hc] at hbd ⊢
    simp only [hc] at hs
    clear hc ha
    go_enter Tryz.func171, Tryz.ntmps171
    go_wp2_with fail
    refine (hs _).mono ?_
    rintro e w1 ⟨rfl, rfl⟩
    go_wp2_with fail
    go_ret
    exact ⟨rfl, rfl⟩
  · rw [if_neg h]
    exact Cos2_any u a ha (by omega) w
theorem cos1_bd (a : Int) : -33554433 ≤ Sp.cos1 a ∧ Sp.cos1 a ≤ 33554433 := by
  have h1 := cos2_bd (64 - a)
  have h2 := cos2_bd a
  unfold Sp.cos1; split <;> omega
theorem Cos_any (u : Int) (w : World) : Calls Tryz.prog 171 #[.int .i64 u] w fun e w' => e = .returned (.int .i64 (Sp.cosV u)) ∧ w = w' := by
  obtain ⟨a, ha⟩ : ∃ a, u % 128 = a := ⟨_, rfl⟩
  have h0 : 0 ≤ a := by omega
  unfold Sp.cosV
  rw [ha]
  by_cases h : 64 < a
  · rw [if_pos h]
    have ht := tm128 u
    rw [ha] at ht
    have hr0 : -128 ≤ u.tmod 128 := (tm_bd u).1
    have hr1 : u.tmod 128 ≤ 128 := (tm_bd u).2.1
    have hs := fun w => Cos1_any (128 - a) (128 - a) (by omega) (by omega) w
    obtain ⟨c, hc⟩ : ∃ c, Sp.cos1 (128 - a) = c := ⟨_, rfl⟩
    rw [hc]
    simp only [hc] at hs
    clear hc
    have ha1 : a < 128 := by omega
    clear ha
    go_enter Tryz.func171, Tryz.ntmps171
    go_wp2_with fail
    refine (hs _).mono ?_
    rintro e w1 ⟨rfl, rfl⟩
    go_wp2_with fail
    go_ret
    exact ⟨rfl, rfl⟩
  · rw [if_neg h]
    exact Cos1_any u a ha (by omega) w
theorem Sin_any (u : Int) (w : World) : Calls Tryz.prog 172 #[.int .i64 u] w fun e w' => e = .returned (.int .i64 (Sp.sinV u)) ∧ w = w' := by
  have hs := fun w => Cos_any (u.tmod 128 - 32) w
  have hr0 : -128 ≤ u.tmod 128 := (tm_bd u).1
  have hr1 : u.tmod 128 ≤ 128 := (tm_bd u).2.1
  unfold Sp.sinV
  obtain ⟨c, hc⟩ : ∃ c, Sp.cosV (u.tmod 128 - 32) = c := ⟨_, rfl⟩
  rw [hc]
  simp only [hc] at hs
  clear hc
  go_enter Tryz.func172, Tryz.ntmps172
  go_wp2_with fail
  refine (hs _).mono ?_
  rintro e w1 ⟨rfl, rfl⟩
  go_wp2_with fail
  go_ret
  exact ⟨rfl, rfl⟩
end Go.Proofs.YtkoljgmapclhkaaGreatDoor

namespace Go.Proofs.YtkoljgmapclhkaaGreatDoor
open Go.RowKit Go.Maps

theorem keyWide : (match Tryz.prog.underlying 210 with | some (.array _ _) | some (.struct _) => true | _ => false) = true := by kernel_rfl
theorem laidOutV : laidOutB Tryz.prog = true := by kernel_rfl
set_option maxRecDepth 100000 in
theorem keyLaw : Keyed Tryz.prog 210 := Keyed.of_law (deep_law_laid laidOutV (m := 2) (by omega) (of_decide_eq_true (by kernel_rfl)) (by kernel_rfl) keyWide)
theorem keyTiled : Tryz.prog.tiled 2 210 = true := by kernel_rfl
noncomputable def keyL (n k : Nat) : Lit := (keyOf Tryz.prog 210 (.agg #[.int .i64 n, .int .i64 k])).getD (.bool false)
theorem key_some : ∀ n < 9, ∀ k < 9, (keyOf Tryz.prog 210 (.agg #[.int .i64 (n : Nat), .int .i64 (k : Nat)])).isSome = true := by decide +kernel
set_option maxRecDepth 100000 in
theorem key_is {n k : Nat} (hn : n ≤ 8) (hk : k ≤ 8) : keyOf Tryz.prog 210 (.agg #[.int .i64 n, .int .i64 k]) = some (keyL n k) := by
  have h := key_some n (by omega) k (by omega)
  unfold keyL
  cases h2 : keyOf Tryz.prog 210 (.agg #[.int .i64 n, .int .i64 k]) with
  | none => rw [h2] at h; cases h
  | some l => rfl
set_option maxRecDepth 100000 in
theorem key_inj {n k m j : Nat} (hn : n ≤ 8) (hk : k ≤ 8) (hm : m ≤ 8) (hj : j ≤ 8) (h : keyL n k = keyL m j) : n = m ∧ k = j := by
  have h1 := key_is hn hk
  have h2 := key_is hm hj
  rw [← h] at h2
  have := keyOf_inj_deep keyTiled keyWide h1 h2
  simp only [Value.agg.injEq, Array.mk.injEq, List.cons.injEq, Value.int.injEq, true_and, and_true] at this
  omega
abbrev OwnC (W : World) (b N : Nat) (D : DataW Unit) : Prop := W.ownsMap Tryz.prog 210 (plainElem Tryz.prog 3) b N D
/-- What has been found is right. -/
def Good (D : DataW Unit) : Prop := ∀ n k, n ≤ 8 → k ≤ 8 → Maps.has D (keyL n k) = true → D.atKey (keyL n k) (.lit (.int .i64 0)) = .lit (.int .i64 (Sp.cnt n k : Nat))
theorem good_empty : Good (.map []) := fun n k _ _ h => by simp [Maps.has] at h
theorem OwnC.keep {S : Nat → Prop} {W W' : World} {b N : Nat} {D : DataW Unit} (h : OwnC W b N D) (hk : Kept S W W') (hn : ¬ S b) : OwnC W' b N D := by
  have hlt := h.lt
  obtain ⟨es, clock, hb, F, hs, hD⟩ := h
  exact ⟨es, clock, (hk.block b hlt hn).trans hb, F, hs, hD⟩
set_option maxRecDepth 100000 in
theorem good_put {D : DataW Unit} (hI : IsMap D) (h : Good D) {n k : Nat} (hn : n ≤ 8) (hk : k ≤ 8) : Good (D.put (keyL n k) (.lit (.int .i64 (Sp.cnt n k : Nat)))) := by
  intro m j hm hj hh
  by_cases he : keyL m j = keyL n k
  · obtain ⟨rfl, rfl⟩ := key_inj hm hj hn hk he
    exact atKey_put_same hI (keyLaw.key (key_is hm hj)) _ _
  · rw [atKey_put_other he]
    rw [has_put_other he] at hh
    exact h m j hm hj hh
theorem zeroInt (w : World) : (zeroValue 3).run Tryz.prog w = .ok (.int .i64 0) w := by kernel_rfl

set_option maxRecDepth 100000 in
set_option maxHeartbeats 1600000 in
theorem of_any (n : Nat) : n ≤ 8 → ∀ (k : Nat), k ≤ 8 → ∀ (b N : Nat) (D : DataW Unit) (w : World), OwnC w b N D → Good D → N + 10 ^ n ≤ 1000000000000000000 →
    Calls Tryz.prog 139 #[.map (some b), .int .i64 n, .int .i64 k] w fun e w' => e = .returned (.int .i64 (Sp.cnt n k : Nat)) ∧ ∃ N' D', N' ≤ N + 10 ^ n ∧ OwnC w' b N' D' ∧ Good D' ∧ Kept (· = b) w w' := by
  induction n with
  | zero =>
    intro _ k hk b N D w hO hG hN
    by_cases hz : k = 0
    · subst hz
      go_enter Tryz.func139, Tryz.ntmps139
      go_wp2_with fail
      go_ret
      exact ⟨rfl, N, D, by omega, hO, hG, Kept.refl _ _⟩
    · have hz2 : (0 : Int) < k := by omega
      have hc : Sp.cnt 0 k = 0 := by simp [Sp.cnt, hz]
      go_enter Tryz.func139, Tryz.ntmps139
      go_wp2_with fail
      go_ret
      exact ⟨by rw [hc]; rfl, N, D, by omega, hO, hG, Kept.refl _ _⟩
  | succ n ih =>
    intro hn k hk b N D w hO hG hN
    have hT : 10 ^ (n + 1) = 10 ^ n * 10 := Nat.pow_succ 10 n
    have hT0 : 1 ≤ 10 ^ n := Nat.one_le_pow _ _ (by omega)
    obtain ⟨T, hTT⟩ : ∃ T, 10 ^ n = T := ⟨_, rfl⟩
    rw [hTT] at hT hT0
    rw [hT] at hN ⊢
    have HIH := Lib.hid (fun k hk => ih (by omega) k hk)
    clear ih
    rw [hTT] at HIH
    clear hTT hT
    obtain ⟨m, hm⟩ : ∃ m, n + 1 = m := ⟨_, rfl⟩
    rw [hm] at hn ⊢
    have HM := Lib.hid hm
    have hm1 : (m : Int) - 1 = (n : Int) := by omega
    have hm0 : (0 : Int) < m := by omega
    clear hm
    have hkey := key_is hn hk
    have hbd := Sp.cnt_bd (n := m) hn hk
    have hbl := hO.lt
    obtain ⟨xb, hxb⟩ : ∃ xb, w.heap.size = xb := ⟨_, rfl⟩
    go_enter Tryz.func139, Tryz.ntmps139
    go_wp2_with (first | (at_lookup; refine wpList_lookup_own_ok_int _ rfl _ _ 181 rfl 210 3 .i64 keyLaw Tryz.underlying181 Tryz.underlying3 (zeroInt _) b N D rfl (hO.alloc _) _ _ rfl hkey ?_; intro c hat hwc))
    · rename_i hh
      go_ret
      have h1 := hG m k hn hk hh
      rw [hat] at h1
      have h2 : c = (Sp.cnt m k : Nat) := by simpa using h1
      subst h2
      exact ⟨rfl, N, D, by omega, hO.alloc _, hG, (Kept.refl _ _).alloc _⟩
    · clear hat hwc
      have hpart := Sp.cntPart_all n k
      rw [HM.out] at hpart
      have hX0 := Blk.new w #[.int .i64 m, .int .i64 k] 210
      rw [hxb] at hX0
      have hxne : xb ≠ b := by omega
      refine (HIH.out k hk b N D _ (hO.alloc _) hG (by omega)).mono ?_
      rintro e1 w1 ⟨rfl, N1, D1, hN1, hO1, hG1, hK1⟩
      have hX1 := hX0.keep hK1 hxne
      have hK1' : Kept (· = b) w w1 := ((Kept.refl _ _).alloc _).trans hK1
      have HPM := Lib.hid (fun j (hj : j ≤ k) => Nat.le_trans (Sp.cntPart_mono n k hj) (Nat.le_trans (Nat.le_of_eq hpart) hbd))
      have HP := Lib.hid hpart
      have hz0 := Sp.cntPart_zero n k
      clear hX0 hK1 hO hG hpart
      go_wp2_with fail
      go_loopw [10, 46] (fun xv jv wr => ∃ (j N2 U : Nat) (D2 : DataW Unit), j ≤ k ∧ xv = .int .i64 (Sp.cntPart n k j : Nat) ∧ jv = .int .i64 j ∧ Hid (U = j * T) ∧ U ≤ 8 * T ∧ N2 ≤ N + T + U ∧ OwnC wr b N2 D2 ∧ Good D2 ∧ Blk wr xb #[.int .i64 m, .int .i64 k] 210 ∧ Kept (· = b) w wr) (fun _ jv _ => k - (intOf jv).toNat)
      case atStart => exact ⟨0, N1, 0, D1, Nat.zero_le _, by rw [hz0], rfl, Lib.hid (by rw [Nat.zero_mul]), Nat.zero_le _, by omega, hO1, hG1, hX1, hK1'⟩
      case round =>
        clear hX1 hK1' hO1 hG1 hz0
        obtain ⟨j, N2, U, D2, hj, rfl, rfl, HU, hU8, hN2, hO2, hG2, hX2, hK2⟩ := hrel
        have hb1 := HPM.out j hj
        by_cases hlt : j < k
        · have hb2 := HPM.out (j + 1) hlt
          have hnx := Sp.cntPart_next n k j
          obtain ⟨x, hx⟩ : ∃ x, Sp.cntPart n k j = x := ⟨_, rfl⟩
          obtain ⟨y, hy⟩ : ∃ y, Sp.cnt n j = y := ⟨_, rfl⟩
          rw [hx, hy] at hnx
          rw [hx] at hb1 ⊢
          rw [hnx] at hb2
          have HNX := Lib.hid hnx
          have HY := Lib.hid hy
          have HU8 : Hid (U + T ≤ 8 * T ∧ U + T = (j + 1) * T) := Lib.hid ⟨by
            have h1 : (j + 1) * T ≤ 8 * T := Nat.mul_le_mul_right T (by omega)
            have h2 := HU.out
            rw [Nat.succ_mul] at h1
            omega, by rw [Nat.succ_mul, HU.out]⟩
          clear hx hy hnx
          go_wp2_with fail
          refine (HIH.out j (by omega) b N2 D2 _ hO2 hG2 (by omega)).mono ?_
          rw [HY.out]
          rintro e2 w2 ⟨rfl, N3, D3, hN3, hO3, hG3, hK3⟩
          have hX3 := hX2.keep hK3 hxne
          have hK4 := hK2.trans hK3
          go_wp2_with fail
          go_roundw
          case rel => exact ⟨j + 1, N3, U + T, D3, hlt, by rw [HNX.out]; go_num, by go_num, Lib.hid HU8.out.2, HU8.out.1, by omega, hO3, hG3, hX3, hK4⟩
          case measure => simp [intOf]; omega
        · obtain rfl : j = k := by omega
          rw [HP.out] at hb1 ⊢
          have y0 := hX2.cell 0
          have y1 := hX2.cell 1
          simp only [List.getElem?_toArray, List.getElem?_cons_zero, List.getElem?_cons_succ] at y0 y1
          have hput := good_put hO2.isMap hG2 hn hk
          go_wp2_with (first | (at_mapUpdate; refine wpList_mapUpdate_own _ rfl _ _ _ 181 rfl 210 3 keyLaw Tryz.underlying181 _ b N2 D2 rfl hO2 (by unfold maxLen; omega) _ _ _ rfl rfl hkey _ [] (plainElem_int Tryz.underlying3 (WalkArith.wf_i64 (by omega))) ?_; intro w3 hO3 hgrow3))
          go_ret
          exact ⟨rfl, N2 + 1, _, by omega, hO3, hput, hK2.grown hgrow3 (fun i hi => .inl (by cases hi; rfl))⟩
end Go.Proofs.YtkoljgmapclhkaaGreatDoor

namespace Go.Proofs.YtkoljgmapclhkaaGreatDoor
open Go.RowKit Go.Maps

set_option maxRecDepth 100000 in
set_option maxHeartbeats 800000 in
theorem Count_any (n k : Nat) (hn : n ≤ 8) (hk : k ≤ 8) (w : World) : Calls Tryz.prog 118 #[.int .i64 n, .int .i64 k] w fun e w' => e = .returned (.int .i64 (Sp.cnt n k : Nat)) ∧ Below w.heap.size w w' := by
  have hmm := @run_makeMap Tryz.prog
  have hT : (10 : Nat) ^ n ≤ 10 ^ 8 := Nat.pow_le_pow_right (by omega) hn
  have hO := World.ownsMap_made (H := Unit) w Tryz.prog 210 (plainElem Tryz.prog 3)
  go_enter Tryz.func118, Tryz.ntmps118
  go_wp2_with fail
  refine (of_any n hn k hk w.heap.size 0 (.map []) _ hO good_empty (by omega)).mono ?_
  rintro e w1 ⟨rfl, N1, D1, _, hO1, hG1, hK1⟩
  go_wp2_with fail
  go_ret
  exact ⟨rfl, ((Below.refl _ _).alloc (Nat.le_refl _) _).trans (hK1.below (fun i hi => by omega) (by simp))⟩
theorem VBits_any (n k : Nat) (hn : n ≤ 8) (hk : k ≤ 8) (w : World) : Calls Tryz.prog 97 #[.int .i64 n, .int .i64 k] w fun e w' => e = .returned (.int .i64 (Sp.vbits n k : Nat)) ∧ Below w.heap.size w w' := by
  have hbd := Sp.cnt_bd hn hk
  obtain ⟨c, hc⟩ : ∃ c, Sp.cnt n k = c := ⟨_, rfl⟩
  have hvb : Sp.vbits n k = Lib.bitLen (c - 1) := by unfold Sp.vbits; rw [hc]
  rw [hvb]
  have hC := Count_any n k hn hk w
  rw [hc] at hC hbd
  have hmx : max ((c : Int) - 1) 0 = ((c - 1 : Nat) : Int) := by omega
  go_enter Tryz.func97, Tryz.ntmps97
  go_wp2_with fail
  refine hC.mono ?_
  rintro e w1 ⟨rfl, hb1⟩
  go_wp2_with fail
  refine (Length_any ((c - 1 : Nat) : Int) (by omega) (by omega) _).mono ?_
  rw [Int.toNat_natCast]
  rintro e w2 ⟨rfl, rfl⟩
  go_wp2_with fail
  go_ret
  exact ⟨rfl, hb1⟩
theorem infoInt : (Tryz.prog.info? 3).map (fun i => (i.zero, i.size, i.bytes)) = some (some (.int .i64 0), 1, 8) := by kernel_rfl
theorem OwnC.notRow {W : World} {b N : Nat} {D : DataW Unit} {e : TypeId} {v : Value} {xs : List Value} (h : OwnC W b N D) (hR : W.ownsRow 0 e 1 v xs.length xs) {k : Nat} (hk : v.ownBlock = some k) : k ≠ b := by
  intro he
  subst he
  obtain ⟨es, clock, hb, _⟩ := h
  rcases hR.2 with ⟨rfl, _⟩ | ⟨g, cap, cur, rfl, _, hg, _⟩
  · simp [Value.ownBlock] at hk
  · obtain rfl : g = k := by simpa [Value.ownBlock] using hk
    rw [hb] at hg
    cases hg

set_option maxRecDepth 100000 in
set_option maxHeartbeats 3200000 in
theorem Vector_any (n k : Nat) (i : Int) (hn : n ≤ 8) (hk : k ≤ 8) (h0 : 0 ≤ i) (h1 : i < (Sp.cnt n k : Nat)) (w : World) : Calls Tryz.prog 117 #[.int .i64 n, .int .i64 k, .int .i64 i] w fun e w' =>
    ∃ v, e = .returned (.tuple #[v, .int .i64 0]) ∧ Row w' 3 v (intsV (Sp.vec n k i)) ∧ Below w.heap.size w w' ∧ Hid (∀ g, v.ownBlock = some g → w.heap.size ≤ g) := by
  obtain ⟨i0, hi, hz0, hz1, hz2⟩ := info_parts infoInt
  have hmm := @run_makeMap Tryz.prog
  have hcb := Sp.cnt_bd hn hk
  have hC := Count_any n k hn hk w
  have h1' : i < Sp.cntI n k := by rw [Sp.cntI_nat n hk]; exact h1
  obtain ⟨c, hc⟩ : ∃ c, Sp.cnt n k = c := ⟨_, rfl⟩
  rw [hc] at hC h1 hcb
  have HI := Lib.hid h1'
  obtain ⟨Y, hY⟩ : ∃ Y, Sp.vec n k i = Y := ⟨_, rfl⟩
  rw [hY]
  have HY := Lib.hid hY
  clear hc h1' hY
  go_enter Tryz.func117, Tryz.ntmps117
  go_wp2_with fail
  refine hC.mono ?_
  rintro e w1 ⟨rfl, hb1⟩
  have hO1 := World.ownsMap_made (H := Unit) w1 Tryz.prog 210 (plainElem Tryz.prog 3)
  have hb2 : Below w.heap.size w (w1.alloc (.map #[] 0)) := hb1.alloc hb1.size _
  have hmb : w.heap.size ≤ w1.heap.size := hb1.size
  have hR1 := Row.nil (w1.alloc (.map #[] 0)) 3
  obtain ⟨mb, hmbe⟩ : ∃ mb, w1.heap.size = mb := ⟨_, rfl⟩
  rw [hmbe] at hO1 hmb
  clear hC hb1
  go_wp2_with fail
  go_loopw [1, 2, 9, 23] (fun kv iv ov av wr => ∃ (a q : Nat) (y : Int) (pre : List Int) (N : Nat) (D : DataW Unit), a ≤ n ∧ kv = .int .i64 q ∧ iv = .int .i64 y ∧ av = .int .i64 a ∧ q ≤ 8 ∧ 0 ≤ y ∧ y ≤ 1000000 ∧ Hid (y < Sp.cntI (n - a) q) ∧ Hid (pre.length = a) ∧ Hid (pre ++ Sp.vec (n - a) q y = Y) ∧ N ≤ 36 * a * 100000000 ∧ OwnC wr mb N D ∧ Good D ∧ Row wr 3 ov (intsV pre) ∧ Below w.heap.size w wr ∧ Hid (∀ g, ov.ownBlock = some g → w.heap.size ≤ g)) (fun _ _ _ av _ => n - (intOf av).toNat)
  case atStart => exact ⟨0, k, i, [], 0, _, Nat.zero_le _, rfl, rfl, rfl, hk, h0, by omega, HI, Lib.hid rfl, Lib.hid HY.out, Nat.le_refl _, hO1, good_empty, hR1, hb2, Lib.hid (by intro g hg; simp [Value.ownBlock] at hg)⟩
  case round =>
    clear hO1 hR1 hb2 h0 h1 hcb
    obtain ⟨a, q, y, pre, N, D, ha, rfl, rfl, rfl, hq, hy0, hy1, HYB, HPL, HPV, hN, hO, hG, hR, hb, hF⟩ := hrel
    by_cases hlt : a < n
    · obtain ⟨m, hm⟩ : ∃ m, n - a = m + 1 := ⟨n - a - 1, by omega⟩
      have hd1 : (n : Int) - (a : Int) = ((m + 1 : Nat) : Int) := by omega
      have hm8 : m < 8 := by omega
      have hyb := HYB.out
      have hpv := HPV.out
      rw [hm] at hyb hpv
      have hs : Sp.sumUp m q (2 * (q : Int) + 1).toNat (-(q : Int)) = Sp.cntI (m + 1) q := by
        rw [show (2 * (q : Int) + 1).toNat = 2 * q + 1 from by omega, Sp.sumUp_all m hm8 q (by omega)]
        unfold Sp.cntI
        rw [if_neg (by omega)]
        simp
      rw [← hs] at hyb
      have hvf := Sp.vfind_ok m q (2 * (q : Int) + 1).toNat y (-(q : Int)) hy0 hyb
      obtain ⟨R, hRR⟩ : ∃ R, Sp.vfind m q (2 * (q : Int) + 1).toNat y (-(q : Int)) = R := ⟨_, rfl⟩
      rw [hRR] at hvf
      have hvec : Sp.vec (m + 1) q y = R.1 :: Sp.vec m ((q : Int) - max R.1 (-R.1)) R.2 := by rw [Sp.vec, hRR]
      rw [hvec] at hpv
      obtain ⟨r0, r1, r2, r3⟩ := hvf
      have HPV2 := Lib.hid hpv
      have HR := Lib.hid hRR
      have HSB := Lib.hid hyb
      have HR3 := Lib.hid r3
      have ha0 : (0 : Int) ≤ a := by omega
      have HMM := Lib.hid hm
      clear hpv hRR hyb HYB HPV hs hvec r3 hm
      go_wp2_with fail
      go_loopw [2, 11] (fun iv xv wr => ∃ (j : Nat) (z x : Int) (N2 : Nat) (D2 : DataW Unit), iv = .int .i64 z ∧ xv = .int .i64 x ∧ x + j = q + 1 ∧ -(q : Int) ≤ x ∧ 0 ≤ z ∧ z ≤ 1000000 ∧ Hid (z < Sp.sumUp m q j x) ∧ Hid (Sp.vfind m q j z x = R) ∧ N2 ≤ (36 * a + 2 * (17 - j)) * 100000000 ∧ OwnC wr mb N2 D2 ∧ Good D2 ∧ Row wr 3 u9 (intsV pre) ∧ Below w.heap.size w wr) (fun _ xv _ => (9 - intOf xv).toNat)
      case atStart =>
        have hN' : N ≤ (36 * a + 2 * (17 - (2 * (q : Int) + 1).toNat)) * 100000000 := Nat.le_trans hN (Nat.mul_le_mul_right _ (by omega))
        exact ⟨(2 * (q : Int) + 1).toNat, y, -(q : Int), N, D, rfl, rfl, by omega, by omega, hy0, hy1, HSB, HR, hN', hO, hG, hR, hb⟩
      case round =>
        clear hO hG hR hb HSB HR hN
        obtain ⟨j, z, x, N2, D2, rfl, rfl, hxj, hxq, hz0', hz1', HSB, HR, hN2, hO, hG, hR, hb⟩ := hrel
        obtain ⟨j, rfl⟩ : ∃ i, j = i + 1 := by
          cases j with
          | zero => have := HSB.out; simp only [Sp.sumUp] at this; omega
          | succ i => exact ⟨i, rfl⟩
        obtain ⟨s, hs⟩ : ∃ s : Nat, max x (-x) = s := ⟨(max x (-x)).toNat, by omega⟩
        obtain ⟨p, hp⟩ : ∃ p : Nat, (q : Int) - (s : Int) = p := ⟨((q : Int) - (s : Int)).toNat, by omega⟩
        have hcq : Sp.cntI m ((q : Int) - max x (-x)) = Sp.cnt m p := by rw [hs, hp, Sp.cntI_nat m (by omega)]
        have hcb := Sp.cnt_bd (n := m) (k := p) (by omega) (by omega)
        have hT : (10 : Nat) ^ m ≤ 100000000 := Nat.le_trans (Nat.pow_le_pow_right (by omega) (show m ≤ 8 by omega)) (Nat.le_of_eq (by rfl))
        have hmi : ((m + 1 : Nat) : Int) - 1 = (m : Int) := by omega
        have hvs := vsize_any x (by omega) (by omega)
        rw [hs] at hvs
        obtain ⟨c, hc⟩ : ∃ c, Sp.cnt m p = c := ⟨_, rfl⟩
        have hof := fun N D w => of_any m (by omega) p (by omega) mb N D w
        rw [hc] at hcq hcb hof
        have HOF := Lib.hid hof
        have HCQ := Lib.hid hcq
        have HS := Lib.hid hs
        clear hof hc hcq hs
        go_wp2_with fail
        refine (hvs _).mono ?_
        rintro e2 w2 ⟨rfl, rfl⟩
        go_wp2_with fail
        refine (HOF.out N2 D2 _ hO hG (by omega)).mono ?_
        rintro e3 w3 ⟨rfl, N3, D3, hN3, hO3, hG3, hK3⟩
        have hR3 := hR.keep hK3 (fun g hg => hO.notRow hR hg)
        have hb3 : Below w.heap.size w w3 := hb.trans (hK3.below (fun g hg => by rw [hg]; exact hmb) hb.size)
        clear hO hG hR hb hK3
        by_cases hcz : (c : Int) ≤ z
        · have hsb := HSB.out
          simp only [Sp.sumUp] at hsb
          rw [HCQ.out] at hsb
          have hr := HR.out
          rw [Sp.vfind_next (by rw [HCQ.out]; exact hcz), HCQ.out] at hr
          have HSB2 := Lib.hid (show z - (c : Int) < Sp.sumUp m q j (x + 1) by omega)
          have HR2 := Lib.hid hr
          clear hsb hr HSB HR
          go_wp2_with fail
          refine (hvs _).mono ?_
          rintro e4 w4 ⟨rfl, rfl⟩
          go_wp2_with fail
          refine (HOF.out N3 D3 _ hO3 hG3 (by omega)).mono ?_
          rintro e5 w5 ⟨rfl, N5, D5, hN5, hO5, hG5, hK5⟩
          have hR5 := hR3.keep hK5 (fun g hg => hO3.notRow hR3 hg)
          have hb5 : Below w.heap.size w w5 := hb3.trans (hK5.below (fun g hg => by rw [hg]; exact hmb) hb3.size)
          go_wp2_with fail
          go_roundw
          case rel => exact ⟨j, z - c, x + 1, N5, D5, rfl, rfl, by omega, by omega, by omega, by omega, HSB2, HR2, by omega, hO5, hG5, hR5, hb5⟩
          case measure => simp [intOf]; omega
        · have hr := HR.out
          rw [Sp.vfind_done (by rw [HCQ.out]; exact hcz)] at hr
          subst hr
          have hpv := HPV2.out
          simp only at hpv
          have HPV3 := Lib.hid hpv
          have hr3 := HR3.out
          simp only at hr3
          have hcq := HCQ.out
          have hmx : max x (-x) = (s : Int) := HS.out
          rw [hmx, hp] at hr3
          have HR4 := Lib.hid hr3
          clear hpv hr3 hcq HSB HR HPV2 HR3
          have hlen : (intsV pre).length = a := by rw [List.length_map, HPL.out]
          have HLEN := Lib.hid hlen
          clear hlen
          go_wp2_with (at_builtin; refine wpList_append_lies _ rfl (.tmp 54) (.tmp 56) 48 rfl 0 3 i0 (.int .i64 0) 1 8 Tryz.underlying48 hi hz0 hz1 hz2 rfl (by decide) u9 a (intsV pre) rfl (by have h := hR3.alloc (.cells #[.int .i64 x] 3); unfold Row at h; rw [HLEN.out] at h; exact h) ⟨w3.heap.size, 0, none⟩ 1 1 [.int .i64 x] rfl rfl (World.news_of_block (World.alloc_heap_new _ _)) (by simp [Value.oneCell']) (by decide) (by unfold maxLen; omega) (by omega) (Nat.zero_le _) _ rfl ?_; intro gb capb w6 hown6 hgrow6 hat6 hlt6)
          have hR6 : Row w6 3 (.slice (some ⟨gb, 0, none⟩) (a + 1) capb) (intsV (pre ++ [x])) := by
            rw [intsV, List.map_append]
            exact Row.mk hown6
          have hO6 := (hO3.alloc (.cells #[.int .i64 x] 3)).kept hgrow6 (by
            intro h
            exact hO3.notRow hR3 h.symm rfl)
          have hb6 : Below w.heap.size w w6 := (hb3.alloc hb3.size _).grown hgrow6 (by simp only [World.size_alloc]; have := hb3.size; omega) (fun g hg => hF.out g hg)
          have hF6 : Hid (∀ g, (Value.slice (some ⟨gb, 0, none⟩) (a + 1) capb).ownBlock = some g → w.heap.size ≤ g) := Lib.hid (fun g hg => by
            obtain rfl : gb = g := by simpa [Value.ownBlock] using hg
            rcases hat6 with h | h
            · exact hF.out _ h
            · have := hb3.size; simp at h; omega)
          refine (hvs _).mono ?_
          rintro e7 w7 ⟨rfl, rfl⟩
          go_wp2_with fail
          go_roundw
          case rel =>
            refine ⟨a + 1, p, z, pre ++ [x], N3, D3, by omega, rfl, rfl, by go_num, by omega, hz0', hz1', ?_, ?_, ?_, ?_, hO6, hG3, hR6, hb6, hF6⟩
            · exact Lib.hid (by rw [show n - (a + 1) = m from by have := HMM.out; omega]; exact HR4.out)
            · exact Lib.hid (by rw [List.length_append, HPL.out]; rfl)
            · refine Lib.hid ?_
              have h := HPV3.out
              rw [hmx, hp] at h
              rw [show n - (a + 1) = m from by have := HMM.out; omega, List.append_assoc]
              exact h
            · refine Nat.le_trans hN3 (Nat.le_trans (Nat.add_le_add hN2 hT) ?_)
              rw [show (36 * a + 2 * (17 - (j + 1))) * 100000000 + 100000000 = (36 * a + 2 * (17 - (j + 1)) + 1) * 100000000 from (Nat.succ_mul _ _).symm]
              exact Nat.mul_le_mul_right _ (by omega)
          case measure => simp [intOf]; omega
    · obtain rfl : a = n := by omega
      have hpv := HPV.out
      rw [Nat.sub_self, Sp.vec, List.append_nil] at hpv
      subst hpv
      go_wp2_with fail
      go_ret2
      exact ⟨_, rfl, hR, hb, hF⟩
end Go.Proofs.YtkoljgmapclhkaaGreatDoor
