/- The walks of spoollaw23.few and awake. -/
import Derived.Test.YtmfihaaiddolmaaGreatDoorSeek3
import Derived.Test.YtmfihaaiddolmaaGreatDoorLot8
set_option linter.unusedSimpArgs false
set_option linter.unusedVariables false
namespace Go.Proofs.YtmfihaaiddolmaaGreatDoor
open Go.RowKit

set_option maxRecDepth 100000 in
set_option maxHeartbeats 1000000 in
theorem few23_any (l : List Ent) (p : Option Addr) (cap : Nat) (w : World) (hE : EntIn w p cap l) : Calls Tryz.prog 23 #[.slice p l.length cap] w fun r w' => r = .returned (.bool (fewE l)) ∧ w = w' := by
  obtain ⟨h1, h2, h3⟩ := hE
  obtain ⟨R, hR⟩ : ∃ R, fewE l = R := ⟨_, rfl⟩
  rw [hR]
  have HR := Lib.hid hR
  have HE := Lib.hid h3
  obtain ⟨n, hn⟩ : ∃ n, l.length = n := ⟨_, rfl⟩
  have HN := Lib.hid hn
  rw [hn] at h1 ⊢
  clear hR h3 hn
  go_enter Tryz.func23, Tryz.ntmps23
  go_wp2
  go_loop [3] (fun i => ∃ k : Nat, k ≤ n ∧ k ≤ 26 ∧ i = .int .i64 k ∧ Hid ((l.take k).all (fun e => decide (e.data.size ≤ 300)) = true)) (fun i => 26 - (intOf i).toNat)
  case atStart => exact ⟨0, by omega, by omega, rfl, Lib.hid (by simp)⟩
  case round =>
    obtain ⟨k, hk, hk26, rfl, HA⟩ := hrel
    by_cases hlt : k < n
    · by_cases h25 : k ≤ 25
      · have hkl : k < l.length := by rw [HN.out]; exact hlt
        obtain ⟨e, he⟩ : ∃ e, l[k]? = some e := ⟨_, List.getElem?_eq_getElem hkl⟩
        obtain ⟨a, rfl, hab, c0, c1, c2, ho⟩ := HE.out k e he
        have HGE := Lib.hid he
        clear he c0 c1 hkl
        by_cases h300 : e.data.size ≤ 300
        · have h3 : (e.data.size : Int) ≤ 300 := by omega
          have h3' : ¬ (300 : Int) < e.data.size := by omega
          go_wp2
          go_round
          case rel => exact ⟨k + 1, by omega, by omega, by go_num, Lib.hid (by rw [List.take_add_one, HGE.out, Option.toList_some, List.all_append, HA.out]; simp [h300])⟩
          case measure => simp [intOf]; omega
        · have h3' : (300 : Int) < e.data.size := by omega
          have hr : R = false := by rw [← HR.out]; exact fewE_no HGE.out h25 h300
          subst hr
          go_wp2
          go_ret
          exact ⟨rfl, rfl⟩
      · obtain rfl : k = 26 := by omega
        have hr : R = false := by rw [← HR.out]; unfold fewE; rw [HN.out]; simp; omega
        have h26 : ¬ (n : Int) ≤ 25 := by omega
        subst hr
        go_wp2
        go_ret
        exact ⟨rfl, rfl⟩
    · obtain rfl : k = n := by omega
      have ht : l.take k = l := by rw [← HN.out]; exact List.take_length
      have hr : R = decide (k ≤ 25) := by
        rw [← HR.out]; unfold fewE
        rw [HN.out]
        by_cases h : k ≤ 25
        · have e26 : l.take 26 = l := List.take_of_length_le (by rw [HN.out]; omega)
          rw [e26]
          have := HA.out
          rw [ht] at this
          rw [this]; simp
        · simp [h]
      subst hr
      go_wp2
      go_ret
      exact ⟨retBool (by rw [decide_eq_decide]; omega), rfl⟩
theorem run_bs2 {t e : TypeId} {size : Nat} (ht : Tryz.prog.underlying t = some (.slice e)) (he : ElemT e size) (h0 : 0 < size) (h1 : size ≤ 1000) {c d : Array Value} (hc : c.size = size) (hd : d.size = size) (w : World) :
    (Instr.buildSlice t 2 #[(0, .agg c), (1, .agg d)]).run Tryz.prog w = .ok (.slice (some ⟨w.heap.size, 0, none⟩) 2 2) (w.alloc (.cells (c ++ d) e)) := by
  obtain ⟨hs, z, hz, hzs⟩ := he
  have hf : ∀ l : Array Value, l.size = 2 * size → Instr.fill (fun i => some (i * size, size)) l [(0, .agg c), (1, .agg d)] = some (c ++ d) := by
    intro l hl
    obtain ⟨l⟩ := l
    simp only [List.size_toArray] at hl
    rw [fill_at (off := 0) (size := size) (by simp) hc (by omega)]
    rw [fill_at (off := size) (size := size) (by simp) hd (by simp; have := hc; omega)]
    have hcl : c.toList.length = size := by simpa using hc
    simp only [Instr.fill, List.take_zero, List.nil_append, Nat.zero_add]
    rw [List.take_append_of_le_length (by omega), List.take_of_length_le (by omega), List.drop_of_length_le (by simp; omega), List.append_nil]
    simp
  unfold Instr.buildSlice
  simp only [Sem.run_bind, run_underlying ht, Result.andThen_ok, hs, hz, if_neg (show ¬ 2 * size > 2 ^ 24 by omega), if_neg (show ¬ 2 * size = 0 by omega)]
  simp [hz, hf, newRow, Result.andThen]
theorem bs2 {ops : Array Oper} {rest : List Oper} {op : Oper} {a : Act} {w : World} {Q : Exit → Act → World → Prop} (t : TypeId) {x y : Operand} (ho : op.op = .buildSlice t 2 #[(0, x), (1, y)]) (hwd : Region.wanted op (yielded ops a.tmps) = true) {c d : Array Value} (hx : a.eval x = .agg c) (hy : a.eval y = .agg d)
    {e : TypeId} (ht : Tryz.prog.underlying t = some (.slice e)) {size : Nat} (he : ElemT e size) (h0 : 0 < size) (h1 : size ≤ 1000) (hc : c.size = size) (hd : d.size = size)
    (h : wpList Tryz.prog ops Q rest (a.put op.dst (.slice (some ⟨w.heap.size, 0, none⟩) 2 2)) (w.alloc (.cells (c ++ d) e))) : wpList Tryz.prog ops Q (op :: rest) a w :=
  wpList_step fun _ hK => by
    rw [if_pos hwd]
    have hr := run_bs2 ht he h0 h1 hc hd w
    unfold Oper.wp execOp
    simp only [ho, List.map_toArray, List.map_cons, List.map_nil, hx, hy, Sem.run_bind, hr, Result.andThen_ok]
    exact hK _ _ h
theorem from_gap2 : (fromO [gapE 1, gapE 2] 1).length = 1 := by
  have h : begS [gapE 1, gapE 2] 1 = zs 38 ∧ begK [gapE 1, gapE 2] 1 = 0 := ⟨rfl, rfl⟩
  unfold fromO
  rw [h.1, h.2]
  show (foldO (foldS (zs 38) [gapE 1]) [gapE 2]).length = 1
  have g1 : foldS (zs 38) [gapE 1] = zs 38 := (gap_step zs_right38 1).2
  rw [g1, foldO, (gap_step zs_right38 2).1]
  rfl
set_option maxRecDepth 100000 in
set_option maxHeartbeats 2000000 in
theorem awake23_any (w : World) (hW : BandsW w) : Calls Tryz.prog 22 #[] w fun r w' => r = .returned (.bool true) ∧ Below w.heap.size w w' := by
  have hBW : Blk w 0 bandC 132 := hW
  have hB0 := hW.lt
  have hf0 := fun w (hW : BandsW w) hE => From_in (l := []) (n := 0) rfl (by omega) (p := none) (lo := 0) (hi := w.heap.size) (cap := 0) hW hE (i := 0) (Nat.le_refl _)
  have e0 : fromO [] 0 = [] := rfl
  simp only [e0, List.length_nil, List.flatMap_nil] at hf0
  have hf1 := fun lo hi p c w (hW : BandsW w) hE => From_in (l := [gapE 1, gapE 2]) (n := 2) rfl (by omega) (p := p) (lo := lo) (hi := hi) (cap := c) hW hE (i := 1) (by omega)
  obtain ⟨C, hC⟩ : ∃ C, (fromO [gapE 1, gapE 2] 1).flatMap intsV = C := ⟨_, rfl⟩
  simp only [from_gap2, hC] at hf1
  have HF0 := Lib.hid hf0
  have HF1 := Lib.hid hf1
  clear hf0 hf1 e0 hC hW
  obtain ⟨B, hB⟩ : ∃ B, w.heap.size = B := ⟨_, rfl⟩
  rw [hB] at hB0
  have hfar := Below.refl B w
  have hsz : B ≤ w.heap.size := by omega
  go_enter Tryz.func22, Tryz.ntmps22
  go_wp2_with fail
  refine (HF0.out _ hBW (SL.nil _ _ _ _ (Nat.le_refl _))).mono ?_
  rintro r w1 ⟨p1, c1, lo1, hi1, rfl, hs1, hlo1, hb1⟩
  replace hBW := hBW.newB hb1
  replace hfar := hfar.trans (hb1.mono (by omega))
  replace hsz := Nat.le_trans hsz hb1.size
  clear hs1 hlo1
  go_wp2_with fail
  refine (EGap_any 1 _).mono ?_
  rintro e w2 ⟨rfl, hb2⟩
  replace hBW := hBW.newB hb2
  replace hfar := hfar.trans (hb2.mono (by omega))
  replace hsz := Nat.le_trans hsz hb2.size
  go_wp2_with fail
  refine (EGap_any 2 _).mono ?_
  rintro e w3 ⟨rfl, hb3⟩
  replace hBW := hBW.newB hb3
  replace hfar := hfar.trans (hb3.mono (by omega))
  replace hsz := Nat.le_trans hsz hb3.size
  obtain ⟨g, hs_g⟩ : ∃ g, w3.heap.size = g := ⟨_, rfl⟩
  have hk_g : B ≤ g := by omega
  have hes : ∀ (W : World) (g : Nat), W.heap.size = g → SL (W.alloc (.cells (entV (gapE 1) ++ entV (gapE 2)) 61)) g (g + 1) 3 (some ⟨g, 0, none⟩) 2 2 (flE [gapE 1, gapE 2]) := fun W g hg => SL.of_blk (Blk.newAt hg.symm) (n := 2) (size := 3) rfl (by unfold maxLen; omega)
  have HES := Lib.hid hes
  clear hes
  go_wp2_with (first | (refine bs2 45 rfl (by rfl) rfl rfl Tryz.underlying45 el_Entry (by omega) (by omega) (by rfl) (by rfl) ?_))
  refine (HF1.out _ _ _ _ _ (hBW.alloc _) (HES.out _ g hs_g)).mono ?_
  rintro r w4 ⟨p4, c4, lo4, hi4, rfl, hv4, hlo4, hb4⟩
  replace hfar : Below B w w4 := (hfar.alloc (by omega) _).trans (hb4.mono (by rw [World.size_alloc]; omega))
  go_wp2_with fail
  go_ret
  exact ⟨rfl, by rw [hB]; exact hfar⟩
end Go.Proofs.YtmfihaaiddolmaaGreatDoor
