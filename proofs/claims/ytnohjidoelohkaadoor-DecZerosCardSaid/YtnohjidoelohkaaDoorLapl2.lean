/- The walks of package lapl over the iterator of all cells: Cell and Find. -/
import Derived.Test.YtnohjidoelohkaaDoorLapl
namespace Go.Proofs.YtnohjidoelohkaaDoor
open Go.RowKit Go.Shelf
attribute [local go_sem] Oper.semAt_some

theorem anyKp_t {A B C : World} (_ : anyKp A B) (_ : anyKp B C) : anyKp A C := trivial

set_option maxRecDepth 100000 in
set_option maxHeartbeats 2000000 in
theorem Cell_any (v : Int) (w : World) :
    Calls Tryd.prog 32 #[.int .i64 v] w fun e W' => e = .returned (.tuple #[.int .i64 (Sp.cellOf v).1, .int .i64 (Sp.cellOf v).2.1, .bool (Sp.cellOf v).2.2]) ∧ Below w.heap.size w W' := by
  refine (callsIn_wide (n := 3)).1 ?_
  refine callsIn_of_wp_marks Tryd.func32 rfl trivial ?_ rfl
  simp only [Tryd.ntmps32, List.size_toArray, List.length_cons, List.length_nil, Nat.reduceAdd, Nat.reduceSub, Array.replicate_succ, Array.replicate_zero, List.push_toArray, List.append_toArray, List.nil_append, List.cons_append]
  gi_wp2_with (refine ⟨trivial, ?_⟩; gi_at_call 53; refine (callsIn_wide.2 (cells_any _)).mono ?_; rintro e w' ⟨rfl, rfl⟩)
  have b0 : Blk (w.alloc (.cells #[.int .i64 v] 3)) w.heap.size #[.int .i64 v] 3 := Blk.new _ _ _
  have b1 := Blk.new (w.alloc (.cells #[.int .i64 v] 3)) #[.int .i64 0] 3
  have b2 := Blk.new ((w.alloc (.cells #[.int .i64 v] 3)).alloc (.cells #[.int .i64 0] 3)) #[.int .i64 0] 3
  have b3 := Blk.new (((w.alloc (.cells #[.int .i64 v] 3)).alloc (.cells #[.int .i64 0] 3)).alloc (.cells #[.int .i64 0] 3)) #[.bool false] 4
  simp only [World.size_alloc] at b1 b2 b3
  have hB0 : Below w.heap.size w ((((w.alloc (.cells #[.int .i64 v] 3)).alloc (.cells #[.int .i64 0] 3)).alloc (.cells #[.int .i64 0] 3)).alloc (.cells #[.bool false] 4)) := by go_grown
  refine wpIn_rangeFunc_ownH rfl (by omega) (gf := 63) (lb := #[]) rfl trivial (enters_of Tryd.func63 (by kernel_rfl) rfl)
    (cells_stops 2 (by omega) w) anyKp_t (fun _ _ _ _ _ _ _ _ => trivial) hB0 (fun _ => rfl)
    (fun pre W => ((((Blk W w.heap.size #[.int .i64 v] 3 ∧ Blk W (w.heap.size + 1) #[.int .i64 0] 3) ∧ Blk W (w.heap.size + 1 + 1) #[.int .i64 0] 3) ∧ Blk W (w.heap.size + 1 + 1 + 1) #[.bool false] 4) ∧ pre.find? (fun c => c.1 == v) = none) ∧ Below w.heap.size w W)
    (fun c pre W => (c = .ret ∧ ∃ q x, pre = q ++ [x] ∧ q.find? (fun c => c.1 == v) = none ∧ x.1 = v ∧ Blk W (w.heap.size + 1) #[.int .i64 x.2.1] 3 ∧ Blk W (w.heap.size + 1 + 1) #[.int .i64 x.2.2] 3 ∧ Blk W (w.heap.size + 1 + 1 + 1) #[.bool true] 4) ∧ Below w.heap.size w W)
    (OwnFrom.and (OwnFrom.and (OwnFrom.and (OwnFrom.and (OwnFrom.and (Own.from (blk_own _ _ _) _) (Own.from (blk_own _ _ _) _)) (Own.from (blk_own _ _ _) _)) (Own.from (blk_own _ _ _) _)) (ownFrom_pure _ _)) (ownFrom_below (Nat.le_refl _) (by simp; omega)))
    (fun c => OwnFrom.and ?ix (ownFrom_below (Nat.le_refl _) (by simp; omega)))
    ⟨⟨⟨⟨⟨((b0.alloc _).alloc _).alloc _, (b1.alloc _).alloc _⟩, b2.alloc _⟩, b3⟩, rfl⟩, hB0⟩
    (fun x a' W => ∃ Bx, w.heap.size + 4 ≤ Bx ∧ Blk W Bx #[.int .i64 x.1, .int .i64 x.2.1, .int .i64 x.2.2] 94 ∧ a' = { tmps := #[.int .i64 v, .pointer (some ⟨w.heap.size, 0, none⟩), .pointer (some ⟨w.heap.size + 1, 0, none⟩), .pointer (some ⟨w.heap.size + 1 + 1, 0, none⟩), .pointer (some ⟨w.heap.size + 1 + 1 + 1, 0, none⟩), .pointer (some ⟨Bx, 0, none⟩), .func (.func 63) #[] #[], .agg #[.int .i64 x.1, .int .i64 x.2.1, .int .i64 x.2.2], undef, undef, undef, undef, undef, undef, undef, undef], defers := [] })
    ?ax ?assign ?body ?done ?stop
  case ix =>
    rintro pre A B row ⟨rfl, q, x, hq, hn, hx, k1, k2, k3⟩ hg hr
    exact ⟨rfl, q, x, hq, hn, hx, k1.ownF hg hr, k2.ownF hg hr, k3.ownF hg hr⟩
  case ax =>
    rintro x a' _ A B row ⟨Bx, h1, h2, h3⟩ hg hr
    exact ⟨Bx, h1, h2.ownF hg hr, h3⟩
  case assign =>
    rintro l pre x W K ⟨⟨⟨⟨⟨k0, k1⟩, k2⟩, k3⟩, hf⟩, hB⟩ hK
    dsimp only [encLC]
    gi_wp2
    have hsz := hB.size
    have hs3 := k3.lt
    exact hK _ _ ((KeepsOthers.alloc _ _).from _) trivial ⟨⟨⟨⟨⟨k0.alloc _, k1.alloc _⟩, k2.alloc _⟩, k3.alloc _⟩, hf⟩, hB.alloc hsz _⟩ ⟨W.heap.size, by omega, Blk.new _ _ _, rfl⟩
  case body =>
    rintro l pre x a' W hl ⟨r, hr⟩ ⟨⟨⟨⟨⟨k0, k1⟩, k2⟩, k3⟩, hf⟩, hB⟩ ⟨Bx, hBx, bX, rfl⟩ hlt
    have e0 := k0.cell 0
    have e1 := bX.cell 0
    have e2 := bX.cell 1
    have e3 := bX.cell 2
    have g1 := k1.cell 0
    have g2 := k2.cell 0
    have g3 := k3.cell 0
    simp only [List.getElem?_toArray, List.getElem?_cons_zero, List.getElem?_cons_succ] at e0 e1 e2 e3 g1 g2 g3
    have f1 := k1.frozen 0
    have f2 := k2.frozen 0
    have f3 := k3.frozen 0
    have hs3 := k3.lt
    have hmx : Tryd.prog.follows .mixedOrders = true := by kernel_rfl
    have n1 : w.heap.size + 1 ≠ Bx := by omega
    have n2 : w.heap.size + 1 + 1 ≠ Bx := by omega
    gi_wp2
    · gi_region_with_o (fail)
      all_goals gi_wp2
      all_goals (try go_bits)
      all_goals
        have hx : x.1 = v := by simpa using ‹(x.1 == v) = true›
        refine ⟨?_, ⟨rfl, pre, x, rfl, hf, hx, ?_, ?_, ?_⟩, ?_⟩
        · (with_reducible refine KeepsOthers.from ?_ _; repeat (first | (with_reducible exact KeepsOthers.refl _) | (with_reducible refine KeepsOthers.trans ?_ (KeepsOthers.setCell _ _ _)) | (with_reducible refine KeepsOthers.trans ?_ (KeepsOthers.alloc _ _)) | (with_reducible refine KeepsOthers.trans ?_ (KeepsOthers.drew _))))
        · repeat' (first | (with_reducible assumption) | (with_reducible refine Blk.drew ?_) | (with_reducible refine Blk.drewN ?_ _) | (with_reducible apply Blk.set1) | ((with_reducible refine Blk.other ?_ ?ne _); case ne => (first | (simp only []; omega) | omega)) | (with_reducible refine Blk.alloc ?_ _))
        · repeat' (first | (with_reducible assumption) | (with_reducible refine Blk.drew ?_) | (with_reducible refine Blk.drewN ?_ _) | (with_reducible apply Blk.set1) | ((with_reducible refine Blk.other ?_ ?ne _); case ne => (first | (simp only []; omega) | omega)) | (with_reducible refine Blk.alloc ?_ _))
        · repeat' (first | (with_reducible assumption) | (with_reducible refine Blk.drew ?_) | (with_reducible refine Blk.drewN ?_ _) | (with_reducible apply Blk.set1) | ((with_reducible refine Blk.other ?_ ?ne _); case ne => (first | (simp only []; omega) | omega)) | (with_reducible refine Blk.alloc ?_ _))
        · go_grown
    · refine ⟨(KeepsOthers.refl _).from _, trivial, ⟨⟨⟨⟨k0, k1⟩, k2⟩, k3⟩, ?_⟩, hB⟩
      refine Sp.find_none_append hf ?_
      assumption
  case done =>
    rintro D ys W hD rfl ⟨⟨⟨⟨⟨k0, k1⟩, k2⟩, k3⟩, hf⟩, hB⟩ hK
    have f1 := k1.frozen 0
    have f2 := k2.frozen 0
    have f3 := k3.frozen 0
    have g1 := k1.cell 0
    have g2 := k2.cell 0
    have g3 := k3.cell 0
    simp only [List.getElem?_toArray, List.getElem?_cons_zero, List.getElem?_cons_succ] at g1 g2 g3
    gi_wp2
    have hK1 := (KeepsOthers.setCell W ⟨w.heap.size + 1, 0, none⟩ (.int .i64 0)).same D _ hK rfl
    have hK2 := (KeepsOthers.setCell _ ⟨w.heap.size + 1 + 1, 0, none⟩ (.int .i64 0)).same D _ hK1 rfl
    have hK3 := (KeepsOthers.setCell _ ⟨w.heap.size + 1 + 1 + 1, 0, none⟩ (.bool false)).same D _ hK2 rfl
    refine ⟨by simp, .inl ⟨_, _, rfl, run_takeDeferred hK3, ?_⟩⟩
    obtain ⟨W3, hW3⟩ : ∃ W3, ((W.setCell ⟨w.heap.size + 1, 0, none⟩ (.int .i64 0)).setCell ⟨w.heap.size + 1 + 1, 0, none⟩ (.int .i64 0)).setCell ⟨w.heap.size + 1 + 1 + 1, 0, none⟩ (.bool false) = W3 := ⟨_, rfl⟩
    have k1' : Blk W3 (w.heap.size + 1) #[.int .i64 0] 3 := by rw [← hW3]; repeat' (first | (with_reducible assumption) | (with_reducible refine Blk.drew ?_) | (with_reducible refine Blk.drewN ?_ _) | (with_reducible apply Blk.set1) | ((with_reducible refine Blk.other ?_ ?ne _); case ne => (first | (simp only []; omega) | omega)) | (with_reducible refine Blk.alloc ?_ _))
    have k2' : Blk W3 (w.heap.size + 1 + 1) #[.int .i64 0] 3 := by rw [← hW3]; repeat' (first | (with_reducible assumption) | (with_reducible refine Blk.drew ?_) | (with_reducible refine Blk.drewN ?_ _) | (with_reducible apply Blk.set1) | ((with_reducible refine Blk.other ?_ ?ne _); case ne => (first | (simp only []; omega) | omega)) | (with_reducible refine Blk.alloc ?_ _))
    have k3' : Blk W3 (w.heap.size + 1 + 1 + 1) #[.bool false] 4 := by rw [← hW3]; repeat' (first | (with_reducible assumption) | (with_reducible refine Blk.drew ?_) | (with_reducible refine Blk.drewN ?_ _) | (with_reducible apply Blk.set1) | ((with_reducible refine Blk.other ?_ ?ne _); case ne => (first | (simp only []; omega) | omega)) | (with_reducible refine Blk.alloc ?_ _))
    have hB3 : Below w.heap.size w W3 := by rw [← hW3]; go_grown
    rw [hW3] at hK3 ⊢
    have r1 := (k1'.ownF (n := 0) (grownBy_putObj' _ D (.deferred none)) (fun r e => by cases e; exact ⟨Nat.zero_le _, _, hK3, rfl⟩)).cell 0
    have r2 := (k2'.ownF (n := 0) (grownBy_putObj' _ D (.deferred none)) (fun r e => by cases e; exact ⟨Nat.zero_le _, _, hK3, rfl⟩)).cell 0
    have r3 := (k3'.ownF (n := 0) (grownBy_putObj' _ D (.deferred none)) (fun r e => by cases e; exact ⟨Nat.zero_le _, _, hK3, rfl⟩)).cell 0
    simp only [List.getElem?_toArray, List.getElem?_cons_zero] at r1 r2 r3
    refine ⟨.tuple #[.int .i64 0, .int .i64 0, .bool false], ?_, by rw [Sp.cellOf_miss hf], hB3.trans (belowK_b (w := w) (Nat.le_refl _) _ D _ _ (by simp at hD; omega) hK3 rfl rfl)⟩
    simp [results, Tryd.f32, go_sem, r1, r2, r3]
  case stop =>
    rintro D c pre W hD hpre ⟨⟨rfl, q, x, rfl, hq, hx, k1, k2, k3⟩, hB⟩ hK
    gi_wp2
    refine ⟨by simp, .inl ⟨_, _, rfl, run_takeDeferred hK, ?_⟩⟩
    have r1 := (k1.ownF (n := 0) (grownBy_putObj' _ D (.deferred none)) (fun r e => by cases e; exact ⟨Nat.zero_le _, _, hK, rfl⟩)).cell 0
    have r2 := (k2.ownF (n := 0) (grownBy_putObj' _ D (.deferred none)) (fun r e => by cases e; exact ⟨Nat.zero_le _, _, hK, rfl⟩)).cell 0
    have r3 := (k3.ownF (n := 0) (grownBy_putObj' _ D (.deferred none)) (fun r e => by cases e; exact ⟨Nat.zero_le _, _, hK, rfl⟩)).cell 0
    simp only [List.getElem?_toArray, List.getElem?_cons_zero] at r1 r2 r3
    refine ⟨.tuple #[.int .i64 x.2.1, .int .i64 x.2.2, .bool true], ?_, by rw [Sp.cellOf_hit hpre hq hx], hB.trans (belowK_b (w := w) (Nat.le_refl _) _ D _ _ (by simp at hD; omega) hK rfl rfl)⟩
    simp [results, Tryd.f32, go_sem, r1, r2, r3]
end Go.Proofs.YtnohjidoelohkaaDoor
