/- The walks of the document's way back and tilt (spoolref04, spoolref05). The walk of the document's way back (spoolref04.Back). The walk of the document's tilt (spoolref05.Lay). -/
import Derived.Test.YtmfihaaiddolmaaGreatDoorLot9
import Derived.Test.YtmfihaaiddolmaaGreatDoorLot3
set_option linter.unusedSimpArgs false
set_option linter.unusedVariables false
namespace Go.Proofs.YtmfihaaiddolmaaGreatDoor
open Go.RowKit

set_option maxRecDepth 100000 in
set_option maxHeartbeats 1600000 in
theorem RTable_any (w : World) : Calls Tryz.prog 124 #[] w fun e w' => e = .returned (.agg (arrV cosTab)) ∧ Below w.heap.size w w' := by
  have h0 : FillW w ((w.alloc (.cells Tryz.zeroCells169 169)).alloc (.cells Tryz.zeroCells169 169)) w.heap.size 169 (fun u => Sp.cosV (u : Nat)) 128 0 := by
    refine ⟨?_, ?_, ((Below.refl _ _).alloc (Nat.le_refl _) _).alloc (by simp) _⟩
    · rw [← zero128]; exact (Blk.new _ _ _).alloc _
    · rw [filled_zero, ← zero128]
      have h := Blk.new (w.alloc (.cells Tryz.zeroCells169 169)) Tryz.zeroCells169 169
      rw [World.size_alloc] at h
      exact h
  have hcos := fun (k : Nat) w => RCos_any (k : Nat) w
  obtain ⟨F, hF⟩ : ∃ F : Nat → Int, (fun u : Nat => Sp.cosV (u : Nat)) = F := ⟨_, rfl⟩
  rw [hF] at h0
  have hFk : ∀ k : Nat, Sp.cosV (k : Nat) = F k := fun k => by rw [← hF]
  simp only [hFk] at hcos
  have HT := Lib.hid (show cosTab = (List.range 128).map F by rw [← hF]; rfl)
  have HC := Lib.hid hcos
  clear hcos hFk hF
  obtain ⟨B, hB⟩ : ∃ B, w.heap.size = B := ⟨_, rfl⟩
  go_enter Tryz.func124, Tryz.ntmps124
  go_upto_region 2 with (fail)
  revert h0
  simp only [hB]
  generalize ((w.alloc (.cells Tryz.zeroCells169 169)).alloc (.cells Tryz.zeroCells169 169)) = w0
  intro h0
  go_wp2_with fail
  go_loopw [2] (fun i wr => ∃ k : Nat, k ≤ 128 ∧ i = .int .i64 k ∧ FillW w wr B 169 F 128 k) (fun i _ => 128 - (intOf i).toNat)
  case atStart => exact ⟨0, by omega, rfl, h0⟩
  case round =>
    obtain ⟨k, hk, rfl, hW⟩ := hrel
    by_cases hlt : k < 128
    · obtain ⟨v0, hv0⟩ := filled_get F 128 k hlt
      have c1 := (hW.out.cell k).trans hv0
      have f1 := hW.out.frozen k
      have hcall := HC.out k
      have hP := hW.put (by omega) (F k) rfl
      go_wp2_with fail
      refine (hcall _).mono ?_
      rintro e w1 ⟨rfl, rfl⟩
      go_wp2_with fail
      go_roundw
      case rel => exact ⟨k + 1, hlt, by go_num, hP⟩
      case measure => simp [intOf]; omega
    · obtain rfl : k = 128 := by omega
      have ho := hW.out
      rw [filled_all, ← HT.out] at ho
      have hr := hW.res
      have hsz : (Tryz.prog.info? 169).map (·.size) = some (arrV cosTab).size := by rw [arr_size, cosTab_len]; exact a128Info
      have hsz2 : (arrV (List.replicate 128 0)).size = (arrV cosTab).size := by rw [arr_size, arr_size, cosTab_len]; simp
      have hfar := Below.setRow hW.far (g := B) (by omega) (arrV cosTab)
      go_wp2_with (first | (refine wpList_load_blk rfl 169 (.tmp 1) rfl (B + 1) rfl (arrV cosTab) 169 ho Tryz.underlying169 hsz ?_) | (refine wpList_store_blk rfl 169 (.tmp 0) (.tmp 11) rfl B _ (arrV cosTab) rfl rfl 169 hr hsz hsz2 (arr_one _) ?_))
      (try rw [Exit.noGoto_ret])
      exact bodyPost_ret (v := .agg (arrV cosTab)) (results_cell_row Tryz.results124 _ _ B 169 _ (0, 0) (.array 128 3) rfl (hr.setRow (new := arrV cosTab)) Tryz.underlying169 rfl hsz) rfl ⟨rfl, hB ▸ hfar⟩
theorem sixteenInfo : (Tryz.prog.info? 22).map (·.size) = some 16 := by kernel_rfl
set_option maxHeartbeats 1600000 in
theorem RHeld4_any (l : List Int) (hl : l.length = 16) (w : World) : Calls Tryz.prog 42 #[.agg (arrV l)] w fun e w' => e = .returned (.bool (!l.any wideP)) ∧ Below w.heap.size w w' := by
  have hX := Blk.new w (arrV l) 22
  have hb1 : Below w.heap.size w (w.alloc (.cells (arrV l) 22)) := (Below.refl _ _).alloc (Nat.le_refl _) _
  obtain ⟨B, hB⟩ : ∃ B, w.heap.size = B := ⟨_, rfl⟩
  rw [hB] at hX hb1
  have hyes : ∀ (k : Nat) (x : Int), l[k]? = some x → wideP x = true → l.any wideP = true := fun k x hx h => List.any_eq_true.2 ⟨x, List.mem_of_getElem? hx, h⟩
  have HY := Lib.hid hyes
  clear hyes
  go_enter Tryz.func42, Tryz.ntmps42
  go_upto_region 1 with (fail)
  try simp only [hB]
  generalize (w.alloc (.cells (arrV l) 22)) = w0 at hX hb1 ⊢
  go_wp2_with fail
  go_loop [3] (fun i => ∃ k : Nat, k ≤ 16 ∧ i = .int .i64 k ∧ Hid ((l.take k).any wideP = false)) (fun i => 16 - (intOf i).toNat)
  case atStart => exact ⟨0, by omega, rfl, Lib.hid rfl⟩
  case round =>
    obtain ⟨k, hk, rfl, HA⟩ := hrel
    by_cases hlt : k < 16
    · have hx : l[k]? = some (l.getD k 0) := by rw [List.getD_eq_getElem?_getD, List.getElem?_eq_getElem (by omega)]; rfl
      have c1 := (hX.cell k).trans (arr_get (by rw [hl]; exact hlt))
      obtain ⟨x, hxe⟩ : ∃ x, l.getD k 0 = x := ⟨_, rfl⟩
      rw [hxe] at c1 hx
      have HX := Lib.hid hx
      clear hx hxe
      by_cases h1 : x < -1048576
      · have HNO := Lib.hid (HY.out k x HX.out (by simp [wideP, h1]))
        go_wp2_with fail
        go_ret
        exact ⟨by rw [HNO.out]; rfl, by first | exact hb1 | (rw [hB]; exact hb1)⟩
      by_cases h2 : 1048576 < x
      · have HNO := Lib.hid (HY.out k x HX.out (by simp [wideP, h2]))
        go_wp2_with fail
        go_ret
        exact ⟨by rw [HNO.out]; rfl, by first | exact hb1 | (rw [hB]; exact hb1)⟩
      go_wp2_with fail
      go_round
      case rel => exact ⟨k + 1, hlt, by go_num, Lib.hid (by rw [List.take_add_one, HX.out, Option.toList_some, List.any_append, HA.out]; simp [wideP]; omega)⟩
      case measure => simp [intOf]; omega
    · obtain rfl : k = 16 := by omega
      have h := HA.out
      rw [List.take_of_length_le (by omega)] at h
      go_wp2_with fail
      go_ret
      exact ⟨by first | (rw [h]; rfl) | rfl, by first | exact hb1 | (rw [hB]; exact hb1)⟩
end Go.Proofs.YtmfihaaiddolmaaGreatDoor

namespace Go.Proofs.YtmfihaaiddolmaaGreatDoor
open Go.RowKit

structure RBackW (w wr : World) (B tb ob : Nat) (wv : List Int) (F : Nat → Int) (k : Nat) : Prop where
  wav : Blk wr B (arrV wv) 22
  res : Blk wr (B + 1) (arrV (List.replicate 32 0)) 144
  tab : Blk wr tb (arrV cosTab) 169
  out : Blk wr ob (arrV (filled F 32 k)) 144
  far : Below B w wr
theorem RBackW.drewN {w wr : World} {B tb ob : Nat} {wv : List Int} {F : Nat → Int} {k : Nat} (h : RBackW w wr B tb ob wv F k) (n : Nat) : RBackW w (wr.drewN n) B tb ob wv F k := ⟨h.wav.drewN n, h.res.drewN n, h.tab.drewN n, h.out.drewN n, belowNN h.far n⟩
theorem RBackW.put {w wr : World} {B tb ob : Nat} {wv : List Int} {F : Nat → Int} {k : Nat} (h : RBackW w wr B tb ob wv F k) (h1 : B + 1 < tb) (h2 : tb < ob) (x : Int) (hx : x = F k) : RBackW w (wr.setCell ⟨ob, k, none⟩ (.int .i64 x)) B tb ob wv F (k + 1) :=
  ⟨h.wav.other (by simp only []; omega) _, h.res.other (by simp only []; omega) _, h.tab.other (by simp only []; omega) _, by subst hx; rw [← filled_set, ← arr_set]; exact h.out.set k _, h.far.setCell (by show B ≤ ob; omega) _⟩
theorem win_sin (n : Nat) (h : n < 32) : winTab.getD n 0 = Sp.sinV (2 * (n : Nat) + 1) := by
  simp [winTab, List.getD_eq_getElem?_getD, h]
theorem shift15_bd (x : Int) (h0 : -549755813888 ≤ x) (h1 : x ≤ 549755813888) : -16777217 ≤ Sp.shiftN 15 x ∧ Sp.shiftN 15 x ≤ 16777217 := by
  unfold Sp.shiftN
  rw [if_neg (by omega)]
  have e : (x + 2 ^ (15 - 1)) / 2 ^ 15 = (x + 16384) / 32768 := rfl
  rw [e]; omega
set_option maxRecDepth 100000 in
set_option maxHeartbeats 4000000 in
theorem RBack_any (wv : List Int) (hl : wv.length = 16) (hw : wv.any wideP = false) (w : World) : Calls Tryz.prog 96 #[.agg (arrV wv)] w fun e w' => e = .returned (.agg (arrV (backL wv))) ∧ Below w.heap.size w w' := by
  have hA0 := Blk.new w (arrV wv) 22
  have hR0 := Blk.new (w.alloc (.cells (arrV wv) 22)) #[.int .i64 0, .int .i64 0, .int .i64 0, .int .i64 0, .int .i64 0, .int .i64 0, .int .i64 0, .int .i64 0, .int .i64 0, .int .i64 0, .int .i64 0, .int .i64 0, .int .i64 0, .int .i64 0, .int .i64 0, .int .i64 0, .int .i64 0, .int .i64 0, .int .i64 0, .int .i64 0, .int .i64 0, .int .i64 0, .int .i64 0, .int .i64 0, .int .i64 0, .int .i64 0, .int .i64 0, .int .i64 0, .int .i64 0, .int .i64 0, .int .i64 0, .int .i64 0] 144
  have hb0 : Below w.heap.size w ((w.alloc (.cells (arrV wv) 22)).alloc (.cells #[.int .i64 0, .int .i64 0, .int .i64 0, .int .i64 0, .int .i64 0, .int .i64 0, .int .i64 0, .int .i64 0, .int .i64 0, .int .i64 0, .int .i64 0, .int .i64 0, .int .i64 0, .int .i64 0, .int .i64 0, .int .i64 0, .int .i64 0, .int .i64 0, .int .i64 0, .int .i64 0, .int .i64 0, .int .i64 0, .int .i64 0, .int .i64 0, .int .i64 0, .int .i64 0, .int .i64 0, .int .i64 0, .int .i64 0, .int .i64 0, .int .i64 0, .int .i64 0] 144)) := ((Below.refl _ _).alloc (Nat.le_refl _) _).alloc (by simp) _
  have hs0 : ((w.alloc (.cells (arrV wv) 22)).alloc (.cells #[.int .i64 0, .int .i64 0, .int .i64 0, .int .i64 0, .int .i64 0, .int .i64 0, .int .i64 0, .int .i64 0, .int .i64 0, .int .i64 0, .int .i64 0, .int .i64 0, .int .i64 0, .int .i64 0, .int .i64 0, .int .i64 0, .int .i64 0, .int .i64 0, .int .i64 0, .int .i64 0, .int .i64 0, .int .i64 0, .int .i64 0, .int .i64 0, .int .i64 0, .int .i64 0, .int .i64 0, .int .i64 0, .int .i64 0, .int .i64 0, .int .i64 0, .int .i64 0] 144)).heap.size = w.heap.size + 2 := by simp
  simp only [World.size_alloc] at hR0
  have hA := hA0.alloc (.cells #[.int .i64 0, .int .i64 0, .int .i64 0, .int .i64 0, .int .i64 0, .int .i64 0, .int .i64 0, .int .i64 0, .int .i64 0, .int .i64 0, .int .i64 0, .int .i64 0, .int .i64 0, .int .i64 0, .int .i64 0, .int .i64 0, .int .i64 0, .int .i64 0, .int .i64 0, .int .i64 0, .int .i64 0, .int .i64 0, .int .i64 0, .int .i64 0, .int .i64 0, .int .i64 0, .int .i64 0, .int .i64 0, .int .i64 0, .int .i64 0, .int .i64 0, .int .i64 0] 144)
  obtain ⟨B, hB⟩ : ∃ B, w.heap.size = B := ⟨_, rfl⟩
  rw [hB] at hA hR0 hb0 hs0
  obtain ⟨F, hF⟩ : ∃ F, back1 wv = F := ⟨_, rfl⟩
  have hBL : backL wv = filled F 32 32 := by unfold backL; rw [hw, filled_all, hF]; rfl
  have hFn : ∀ n, n < 32 → Sp.shiftN 16 (Sp.shiftN 15 (sumF (fun k => wv.getD k 0 * kerAt n k) 16) * Sp.sinV (2 * (n : Nat) + 1)) = F n := fun n hn => by rw [← hF, ← win_sin n hn]; rfl
  have HBL := Lib.hid hBL
  have HFN := Lib.hid hFn
  have jt : (Tryz.prog.info? 169).map (·.size) = some (arrV cosTab).size := by rw [arr_size, cosTab_len]; exact a128Info
  have kt : (Tryz.zeroCells169).size = (arrV cosTab).size := by rw [zero128, arr_size, arr_size, cosTab_len]; simp
  clear hA0 hBL hFn hF
  go_enter Tryz.func96, Tryz.ntmps96
  go_upto_region 1 with (fail)
  try simp only [hB]
  generalize ((w.alloc (.cells (arrV wv) 22)).alloc (.cells #[.int .i64 0, .int .i64 0, .int .i64 0, .int .i64 0, .int .i64 0, .int .i64 0, .int .i64 0, .int .i64 0, .int .i64 0, .int .i64 0, .int .i64 0, .int .i64 0, .int .i64 0, .int .i64 0, .int .i64 0, .int .i64 0, .int .i64 0, .int .i64 0, .int .i64 0, .int .i64 0, .int .i64 0, .int .i64 0, .int .i64 0, .int .i64 0, .int .i64 0, .int .i64 0, .int .i64 0, .int .i64 0, .int .i64 0, .int .i64 0, .int .i64 0, .int .i64 0] 144)) = w0 at hA hR0 hb0 hs0 ⊢
  rw [zero32] at hR0
  go_wp2_with fail
  refine (RTable_any _).mono ?_
  rintro e w1 ⟨rfl, hb1⟩
  have hA1 := hA.newB hb1
  have hR1 := hR0.newB hb1
  have hb01 : Below B w w1 := hb0.trans (hb1.mono (by omega))
  have hs1 := hb1.size
  obtain ⟨tb, htb⟩ : ∃ g, w1.heap.size = g := ⟨_, rfl⟩
  have hN := Blk.new w1 Tryz.zeroCells169 169
  rw [htb] at hN
  have hT := hN.setRow (new := arrV cosTab)
  have hA2 : Blk ((w1.alloc (.cells Tryz.zeroCells169 169)).setRow tb (arrV cosTab)) B (arrV wv) 22 := (hA1.alloc _).setRowOther (by omega)
  have hR2 : Blk ((w1.alloc (.cells Tryz.zeroCells169 169)).setRow tb (arrV cosTab)) (B + 1) _ 144 := (hR1.alloc _).setRowOther (by omega)
  have hb2 : Below B w ((w1.alloc (.cells Tryz.zeroCells169 169)).setRow tb (arrV cosTab)) := Below.setRow (hb01.alloc (by omega) _) (by omega) _
  have hs2 : ((w1.alloc (.cells Tryz.zeroCells169 169)).setRow tb (arrV cosTab)).heap.size = tb + 1 := by simp [htb]
  go_upto_region 2 with (first | (refine wpList_store_blk rfl 169 (.tmp 3) (.tmp 8) rfl tb _ (arrV cosTab) rfl rfl 169 hN jt kt (arr_one _) ?_))
  clear hA hR0 hb0 hA1 hR1 hb01 hN
  generalize ((w1.alloc (.cells Tryz.zeroCells169 169)).setRow tb (arrV cosTab)) = w2 at hT hA2 hR2 hb2 hs2 ⊢
  have hO := Blk.new w2 #[.int .i64 0, .int .i64 0, .int .i64 0, .int .i64 0, .int .i64 0, .int .i64 0, .int .i64 0, .int .i64 0, .int .i64 0, .int .i64 0, .int .i64 0, .int .i64 0, .int .i64 0, .int .i64 0, .int .i64 0, .int .i64 0, .int .i64 0, .int .i64 0, .int .i64 0, .int .i64 0, .int .i64 0, .int .i64 0, .int .i64 0, .int .i64 0, .int .i64 0, .int .i64 0, .int .i64 0, .int .i64 0, .int .i64 0, .int .i64 0, .int .i64 0, .int .i64 0] 144
  rw [hs2, zero32, ← filled_zero F] at hO
  have hY0 : RBackW w (w2.alloc (.cells #[.int .i64 0, .int .i64 0, .int .i64 0, .int .i64 0, .int .i64 0, .int .i64 0, .int .i64 0, .int .i64 0, .int .i64 0, .int .i64 0, .int .i64 0, .int .i64 0, .int .i64 0, .int .i64 0, .int .i64 0, .int .i64 0, .int .i64 0, .int .i64 0, .int .i64 0, .int .i64 0, .int .i64 0, .int .i64 0, .int .i64 0, .int .i64 0, .int .i64 0, .int .i64 0, .int .i64 0, .int .i64 0, .int .i64 0, .int .i64 0, .int .i64 0, .int .i64 0] 144)) B tb (tb + 1) wv F 0 := ⟨hA2.alloc _, hR2.alloc _, hT.alloc _, by rw [zero32, ← filled_zero F]; exact hO, hb2.alloc (by omega) _⟩
  have hBt : B + 1 < tb := by omega
  try dsimp only [Act.put]
  go_wp2_with fail
  go_loopw [5] (fun i wr => ∃ n : Nat, n ≤ 32 ∧ i = .int .i64 n ∧ RBackW w wr B tb (tb + 1) wv F n) (fun i _ => 32 - (intOf i).toNat)
  case atStart => exact ⟨0, by omega, rfl, hY0⟩
  case round =>
    obtain ⟨n, hn, rfl, hY⟩ := hrel
    by_cases hlt : n < 32
    · have hfn := HFN.out n hlt
      have HWK := Lib.hid (fun k => wk_bd hw n k)
      have HSB := Lib.hid (fun m => sumF_bd (F := fun k => wv.getD k 0 * kerAt n k) (B := 34359738368) (fun k => wk_bd hw n k) m)
      go_wp2_with fail
      go_loopw [6, 7] (fun s i wr => ∃ k : Nat, k ≤ 16 ∧ i = .int .i64 k ∧ s = .int .i64 (sumF (fun k => wv.getD k 0 * kerAt n k) k) ∧ RBackW w wr B tb (tb + 1) wv F n) (fun s i _ => 16 - (intOf i).toNat)
      case atStart => exact ⟨0, by omega, rfl, rfl, hY⟩
      case round =>
        obtain ⟨k, hk, rfl, rfl, hY⟩ := hrel
        by_cases hkt : k < 16
        · obtain ⟨u, hu⟩ : ∃ u, (2 * n + 17) * (2 * k + 1) % 128 = u := ⟨_, rfl⟩
          have hu128 : u < 128 := by omega
          have hprod : (2 * (n : Int) + 17) * (2 * k + 1) = (((2 * n + 17) * (2 * k + 1) : Nat) : Int) := by push_cast; rfl
          have hpb : (2 * n + 17) * (2 * k + 1) ≤ 100 * 100 := Nat.mul_le_mul (by omega) (by omega)
          have hm : ((2 * (n : Int) + 17) * (2 * k + 1)).tmod 128 = (u : Int) := by rw [hprod, Int.tmod_eq_emod_of_nonneg (by omega), ← hu]; omega
          have hp0 : (0 : Int) ≤ (2 * (n : Int) + 17) * (2 * k + 1) := by rw [hprod]; omega
          have hp1 : (2 * (n : Int) + 17) * (2 * k + 1) ≤ 10000 := by rw [hprod]; omega
          have hKA : kerAt n k = cosTab.getD u 0 := by unfold kerAt; rw [hu]
          have c0 := (hY.wav.cell k).trans (arr_get (by rw [hl]; exact hkt))
          have c1 := (hY.tab.cell u).trans (arr_get (by rw [cosTab_len]; exact hu128))
          have hwk := HWK.out k
          have hs1 := HSB.out k
          have hs2 := HSB.out (k + 1)
          have hstep : sumF (fun k => wv.getD k 0 * kerAt n k) (k + 1) = sumF (fun k => wv.getD k 0 * kerAt n k) k + wv.getD k 0 * kerAt n k := rfl
          rw [hKA] at hwk hstep
          rw [hstep] at hs2
          have HST := Lib.hid hstep
          obtain ⟨S, hS⟩ : ∃ S, sumF (fun k => wv.getD k 0 * kerAt n k) k = S := ⟨_, rfl⟩
          obtain ⟨x, hx⟩ : ∃ x, wv.getD k 0 = x := ⟨_, rfl⟩
          obtain ⟨y, hy⟩ : ∃ y, cosTab.getD u 0 = y := ⟨_, rfl⟩
          rw [hS] at hs1 hs2 HST
          rw [hx] at c0 hwk hs2 HST
          rw [hy] at c1 hwk hs2 HST
          rw [hS]
          have b1 : -549755813888 ≤ S ∧ S ≤ 549755813888 := by omega
          have b2 : -687194767360 ≤ S + x * y ∧ S + x * y ≤ 687194767360 := by omega
          have w1 : IntKind.i64.wrap (x * y) = x * y := IntWalk.i64_in _ (by omega)
          have w2 : IntKind.i64.wrap (S + x * y) = S + x * y := IntWalk.i64_in _ (by omega)
          clear hs1 hs2 hstep hprod hpb hu hKA hS hx hy
          go_wp2_with fail
          go_quiet (fail)
          go_wp2_with fail
          go_roundw
          case rel => exact ⟨k + 1, hkt, by go_num, by rw [HST.out], hY.drewN _⟩
          case measure => simp [intOf]; omega
        · obtain rfl : k = 16 := by omega
          have hsb := HSB.out 16
          obtain ⟨S, hS⟩ : ∃ S, sumF (fun k => wv.getD k 0 * kerAt n k) 16 = S := ⟨_, rfl⟩
          rw [hS] at hsb hfn
          rw [hS]
          have hp1 := shift15_bd S (by omega) (by omega)
          have hsh1 := fun w => RShift_any 15 (by omega) (by omega) S (by omega) (by omega) w
          obtain ⟨p, hp⟩ : ∃ p, Sp.shiftN 15 S = p := ⟨_, rfl⟩
          rw [hp] at hp1 hfn
          simp only [hp] at hsh1
          have hy1 := winTab_bd n hlt
          rw [win_sin n hlt] at hy1
          have hsin := fun w => RSin_any (2 * (n : Nat) + 1) w
          obtain ⟨y, hy⟩ : ∃ y, Sp.sinV (2 * (n : Nat) + 1) = y := ⟨_, rfl⟩
          rw [hy] at hy1 hfn
          simp only [hy] at hsin
          have hpy := mul_bd hp1.1 hp1.2 hy1.1 hy1.2
          have hsh2 := fun w => RShift_any 16 (by omega) (by omega) (p * y) (by omega) (by omega) w
          obtain ⟨z, hz⟩ : ∃ z, Sp.shiftN 16 (p * y) = z := ⟨_, rfl⟩
          rw [hz] at hfn
          simp only [hz] at hsh2
          have hwr : IntKind.i64.wrap (p * y) = p * y := IntWalk.i64_in _ (by omega)
          obtain ⟨v0, hv0⟩ := filled_get F 32 n hlt
          have c4 := (hY.out.cell n).trans hv0
          have f4 := hY.out.frozen n
          have hP := hY.put hBt (by omega) z hfn
          clear hS hp hy hz hfn
          go_wp2_with fail
          refine (hsh1 _).mono ?_
          rintro e w5 ⟨rfl, rfl⟩
          go_wp2_with fail
          refine (hsin _).mono ?_
          rintro e w5 ⟨rfl, rfl⟩
          go_wp2_with fail
          refine (hsh2 _).mono ?_
          rintro e w5 ⟨rfl, rfl⟩
          go_wp2_with fail
          go_roundw
          case rel => exact ⟨n + 1, hlt, by go_num, hP⟩
          case measure => simp [intOf]; omega
    · obtain rfl : n = 32 := by omega
      have hlen : (filled F 32 32).length = 32 := filled_len _ _ _
      obtain ⟨L, hL⟩ : ∃ L, filled F 32 32 = L := ⟨_, rfl⟩
      have HL2 := Lib.hid (HBL.out.trans hL)
      have ho := hY.out
      have hr := hY.res
      have hfar := hY.far
      rw [hL] at hlen ho
      have hsz2 : (Tryz.prog.info? 144).map (·.size) = some (arrV L).size := by rw [arr_size, hlen]; exact a32Info
      have hsz3 : (arrV (List.replicate 32 0)).size = (arrV L).size := by rw [arr_size, arr_size, hlen]; rfl
      clear hL hY
      go_wp2_with (first | (refine wpList_load_blk rfl 144 (.tmp 4) rfl (tb + 1) rfl (arrV L) 144 ho Tryz.underlying144 hsz2 ?_) | (refine wpList_store_blk rfl 144 (.tmp 2) (.tmp 43) rfl (B + 1) _ (arrV L) rfl rfl 144 hr hsz2 hsz3 (arr_one _) ?_))
      (try rw [Exit.noGoto_ret])
      have hfin := Below.setRow hfar (g := B + 1) (by omega) (arrV L)
      exact bodyPost_ret (v := .agg (arrV L)) (results_cell_row Tryz.results96 _ _ (B + 1) 144 _ (0, 0) (.array 32 3) rfl hr.setRow Tryz.underlying144 rfl hsz2) rfl ⟨by rw [HL2.out], by first | exact hfin | (rw [hB]; exact hfin)⟩
end Go.Proofs.YtmfihaaiddolmaaGreatDoor

namespace Go.Proofs.YtmfihaaiddolmaaGreatDoor
open Go.RowKit

theorem scan_step2 (stp : Int → Int → Int) {l m : List Int} {k : Nat} {x : Int} (hx : l[k]? = some x) (hm : m.length = l.length) (s : Int) : (scanL stp s (l.take k) ++ m.drop k).set k (stp ((l.take k).foldl stp s) x) = scanL stp s (l.take (k + 1)) ++ m.drop (k + 1) := by
  have hk : k < l.length := (List.getElem?_eq_some_iff.1 hx).1
  have hlen : (scanL stp s (l.take k)).length = k := by rw [scan_len, List.length_take]; omega
  have hd : m.drop k = m[k]'(by omega) :: m.drop (k + 1) := List.drop_eq_getElem_cons (by omega)
  rw [List.take_add_one, hx, Option.toList_some, scan_append, hd, List.set_append, if_neg (by omega), hlen, Nat.sub_self, List.set_cons_zero]
  simp
set_option maxRecDepth 100000 in
set_option maxHeartbeats 1600000 in
theorem RLay_any (last : Int) (l : List Int) (hl : l.length = 16) (w : World) : Calls Tryz.prog 98 #[.int .i64 last, .agg (arrV l)] w fun e w' => e = .returned (.tuple #[.agg (arrV (layL last l)), .int .i64 (layN last l)]) ∧ Below w.heap.size w w' := by
  obtain ⟨hA, hR, hO, hb0, hs0⟩ := three_new w (arrV l) #[.int .i64 0, .int .i64 0, .int .i64 0, .int .i64 0, .int .i64 0, .int .i64 0, .int .i64 0, .int .i64 0, .int .i64 0, .int .i64 0, .int .i64 0, .int .i64 0, .int .i64 0, .int .i64 0, .int .i64 0, .int .i64 0] #[.int .i64 0, .int .i64 0, .int .i64 0, .int .i64 0, .int .i64 0, .int .i64 0, .int .i64 0, .int .i64 0, .int .i64 0, .int .i64 0, .int .i64 0, .int .i64 0, .int .i64 0, .int .i64 0, .int .i64 0, .int .i64 0] 22 22 22
  obtain ⟨B, hB⟩ : ∃ B, w.heap.size = B := ⟨_, rfl⟩
  have hcut := fun w => RCut_any 22 (by omega) (by omega) last w
  have hcb := cut22_bd last
  have hLL : layL last l = scanL lay1 (Sp.cut 22 last) l := lay_scan l _
  have hNN : layN last l = l.foldl lay1 (Sp.cut 22 last) := rfl
  obtain ⟨c, hc⟩ : ∃ c, Sp.cut 22 last = c := ⟨_, rfl⟩
  rw [hc] at hcb hLL hNN
  simp only [hc] at hcut
  have HLL := Lib.hid hLL
  have HNN := Lib.hid hNN
  clear hc hLL hNN
  go_enter Tryz.func98, Tryz.ntmps98
  go_wp2_with fail
  refine (hcut _).mono ?_
  rintro e w1 ⟨rfl, rfl⟩
  go_upto_region 3 with (fail)
  simp only [hB] at hA hR hO hb0 hs0 ⊢
  generalize (((w.alloc (.cells (arrV l) 22)).alloc (.cells #[.int .i64 0, .int .i64 0, .int .i64 0, .int .i64 0, .int .i64 0, .int .i64 0, .int .i64 0, .int .i64 0, .int .i64 0, .int .i64 0, .int .i64 0, .int .i64 0, .int .i64 0, .int .i64 0, .int .i64 0, .int .i64 0] 22)).alloc (.cells #[.int .i64 0, .int .i64 0, .int .i64 0, .int .i64 0, .int .i64 0, .int .i64 0, .int .i64 0, .int .i64 0, .int .i64 0, .int .i64 0, .int .i64 0, .int .i64 0, .int .i64 0, .int .i64 0, .int .i64 0, .int .i64 0] 22)) = w0 at hA hR hO hb0 hs0 ⊢
  rw [zero16] at hR hO
  go_wp2_with fail
  go_loopw [0, 7] (fun a i wr => ∃ (k : Nat) (s : Int), k ≤ 16 ∧ i = .int .i64 k ∧ a = .int .i64 s ∧ Hid (s = (l.take k).foldl lay1 c) ∧ -2097152 ≤ s ∧ s ≤ 2097151 ∧ Blk wr B (arrV l) 22 ∧ Blk wr (B + 1) (arrV (List.replicate 16 0)) 22 ∧ Blk wr (B + 2) (arrV (scanL lay1 c (l.take k) ++ (List.replicate 16 0).drop k)) 22 ∧ Below B w wr) (fun a i _ => 16 - (intOf i).toNat)
  case atStart => exact ⟨0, c, by omega, rfl, rfl, Lib.hid rfl, hcb.1, hcb.2, hA, hR, hO, hb0⟩
  case round =>
    obtain ⟨k, s, hk, rfl, rfl, hs, s0, s1, hA, hR, hO, hb⟩ := hrel
    by_cases hlt : k < 16
    · have hx : l[k]? = some (l.getD k 0) := by rw [List.getD_eq_getElem?_getD, List.getElem?_eq_getElem (by omega)]; rfl
      have c1 := (hA.cell k).trans (arr_get (by rw [hl]; exact hlt))
      obtain ⟨x, hxe⟩ : ∃ x, l.getD k 0 = x := ⟨_, rfl⟩
      rw [hxe] at c1 hx
      have hstep := scan_step2 lay1 (m := List.replicate 16 0) hx (by rw [hl]; rfl) c
      rw [← hs.out] at hstep
      have hfold : (l.take (k + 1)).foldl lay1 c = lay1 s x := by rw [List.take_add_one, hx]; simp [← hs.out]
      have hlen : (scanL lay1 c (l.take k) ++ (List.replicate 16 (0 : Int)).drop k).length = 16 := by rw [List.length_append, scan_len, List.length_take, List.length_drop, hl]; simp; omega
      have hl1 : lay1 s x = Sp.cut 22 (Sp.cut 22 x + (27853 * s).tdiv 32768) := rfl
      have hcx := fun w => RCut_any 22 (by omega) (by omega) x w
      have b1 := cut22_bd x
      have q1 := td_bd (27853 * s) 58412449792 (by omega) (by omega)
      obtain ⟨q, hq⟩ : ∃ q, (27853 * s).tdiv 32768 = q := ⟨_, rfl⟩
      obtain ⟨p, hp⟩ : ∃ p, Sp.cut 22 x = p := ⟨_, rfl⟩
      rw [hq, hp] at hl1
      rw [hq] at q1
      rw [hp] at b1
      simp only [hp] at hcx
      have hcy := fun w => RCut_any 22 (by omega) (by omega) (p + q) w
      have hyb := cut22_bd (p + q)
      rw [← hl1] at hcy hyb
      obtain ⟨y, hy⟩ : ∃ y, lay1 s x = y := ⟨_, rfl⟩
      simp only [hy] at hcy hstep hfold hyb
      obtain ⟨L, hL⟩ : ∃ L, scanL lay1 c (l.take k) ++ (List.replicate 16 (0 : Int)).drop k = L := ⟨_, rfl⟩
      rw [hL] at hO hstep hlen
      have c2 := (hO.cell k).trans (arr_get (by rw [hlen]; exact hlt))
      have f2 := hO.frozen k
      have hO2 := hO.set k (.int .i64 y)
      rw [arr_set, hstep] at hO2
      have hA2 := hA.other (a := ⟨B + 2, k, none⟩) (by simp only []; omega) (.int .i64 y)
      have hR2 := hR.other (a := ⟨B + 2, k, none⟩) (by simp only []; omega) (.int .i64 y)
      have hb2 := hb.setCell (p := ⟨B + 2, k, none⟩) (by show B ≤ B + 2; omega) (.int .i64 y)
      have d2 : (wr.setCell ⟨B + 2, k, none⟩ (.int .i64 y)).cell? ⟨B + 2, k, none⟩ = some (.int .i64 y) := World.cell?_setCell_same' _ _ _ (by rw [c2]; rfl)
      have w1 : IntKind.i64.wrap (27853 * s) = 27853 * s := IntWalk.i64_in _ (by omega)
      have w3 : IntKind.i64.wrap (p + q) = p + q := IntWalk.i64_in _ (by omega)
      have w2 : IntKind.i64.wrap q = q := IntWalk.i64_in _ (by omega)
      have HFO := Lib.hid hfold.symm
      have hq' := hq
      clear hx hxe hstep hfold hl1 hq hp hy hL
      go_wp2_with fail
      refine (hcx _).mono ?_
      rintro e w5 ⟨rfl, rfl⟩
      go_wp2_with fail
      refine (hcy _).mono ?_
      rintro e w5 ⟨rfl, rfl⟩
      go_wp2_with fail
      go_roundw
      case rel => exact ⟨k + 1, y, hlt, by go_num, rfl, HFO, hyb.1, hyb.2, hA2, hR2, hO2, hb2⟩
      case measure => simp [intOf]; omega
    · obtain rfl : k = 16 := by omega
      have et : l.take 16 = l := List.take_of_length_le (by omega)
      have hsn := hs.out
      rw [et] at hO hsn
      rw [List.drop_of_length_le (by simp), List.append_nil, ← HLL.out] at hO
      rw [← HNN.out] at hsn
      have hlen : (layL last l).length = 16 := by unfold layL; rw [layG_len, hl]
      obtain ⟨L, hL⟩ : ∃ L, layL last l = L := ⟨_, rfl⟩
      have HL := Lib.hid hL
      have HS := Lib.hid hsn
      rw [hL] at hO hlen
      have hsz2 : (Tryz.prog.info? 22).map (·.size) = some (arrV L).size := by rw [arr_size, hlen]; exact sixteenInfo
      have hsz3 : (arrV (List.replicate 16 0)).size = (arrV L).size := by rw [arr_size, arr_size, hlen]; rfl
      clear hL et hsn hs
      go_wp2_with (first | (refine wpList_load_blk rfl 22 (.tmp 6) rfl (B + 2) rfl (arrV L) 22 hO Tryz.underlying22 hsz2 ?_) | (refine wpList_store_blk rfl 22 (.tmp 4) (.tmp 28) rfl (B + 1) _ (arrV L) rfl rfl 22 hR hsz2 hsz3 (arr_one _) ?_))
      (try rw [Exit.noGoto_ret])
      have hfin := Below.setRow hb (g := B + 1) (by omega) (arrV L)
      exact bodyPost_ret (v := .tuple #[.agg (arrV L), .int .i64 s]) (results_ct Tryz.results98 _ _ (B + 1) 22 _ (.array 16 3) _ rfl hR.setRow Tryz.underlying22 rfl hsz2 rfl) rfl ⟨by rw [HL.out, HS.out], by first | exact hfin | (rw [hB]; exact hfin)⟩
end Go.Proofs.YtmfihaaiddolmaaGreatDoor
