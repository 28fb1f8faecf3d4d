/- The walk of spoollaw13.awake: the document's example holds. -/
import Derived.Test.YtmfihaaiddolmaaGreatDoorLot6
set_option linter.unusedSimpArgs false
set_option linter.unusedVariables false
namespace Go.Proofs.YtmfihaaiddolmaaGreatDoor
open Go.RowKit

theorem bad_dec (n : Nat) (h : n < 10) : decE (List.replicate 38 0) (zeroB n) = 10 ∧ decO (List.replicate 38 0) (zeroB n) = List.replicate 16 0 ∧ decSt (List.replicate 38 0) (zeroB n) = List.replicate 38 0 := by
  have he : decE (List.replicate 38 0) (zeroB n) = 10 := by unfold decE; rw [if_neg (by rw [zeroB_size]; omega)]
  refine ⟨he, ?_, ?_⟩
  · unfold decO; rw [he]; rfl
  · unfold decSt; rw [he]; rfl
set_option maxRecDepth 100000 in
set_option maxHeartbeats 4000000 in
theorem awake13_any (w : World) (hW : BandsW w) : Calls Tryz.prog 6 #[] w fun e w' => e = .returned (.bool true) ∧ Below w.heap.size w w' := by
  have hmk : ∀ (q : Nat) (hq : q ≤ 300) w, (Instr.makeSlice 71 (.int .i64 (q : Int)) (.int .i64 (q : Int))).run Tryz.prog w = .ok (.slice (some ⟨w.heap.size, 0, none⟩) q q) (w.alloc (.cells (madeCells #[.int .u8 0] q) 5)) := fun q hq w =>
    run_make_row' 71 5 (.int .u8 0) 1 Tryz.underlying71 madeU8 rfl .i64 .i64 q (by omega) (by omega) w
  obtain ⟨M, hM⟩ : ∃ M : Nat → Array Value, (fun q => madeCells #[.int .u8 0] q) = M := ⟨_, rfl⟩
  have hMq : ∀ q, madeCells #[.int .u8 0] q = M q := fun q => by rw [← hM]
  have hm10 : ∀ w, (Instr.makeSlice 71 (.int .i64 10) (.int .i64 10)).run Tryz.prog w = .ok (.slice (some ⟨w.heap.size, 0, none⟩) 10 10) (w.alloc (.cells (M 10) 5)) := fun w => by have := hmk 10 (by omega) w; rw [hMq] at this; exact this
  have hm9 : ∀ w, (Instr.makeSlice 71 (.int .i64 9) (.int .i64 9)).run Tryz.prog w = .ok (.slice (some ⟨w.heap.size, 0, none⟩) 9 9) (w.alloc (.cells (M 9) 5)) := fun w => by have := hmk 9 (by omega) w; rw [hMq] at this; exact this
  have hcv : ∀ (q : Nat) (hq : q ≤ 300) (B : Nat) (W : World), Blk W B (M q) 5 → (convert 71 9 (.slice (some ⟨B, 0, none⟩) q q)).run Tryz.prog W = .ok (.string (zeroB q)) W := fun q hq B W h => zeroB_str (by rw [hMq]; exact h) hq
  have hc10 := fun B W => hcv 10 (by omega) B W
  have hc9 := fun B W => hcv 9 (by omega) B W
  obtain ⟨e10, o10, s10⟩ := zero_dec 10 (by omega) (by omega)
  obtain ⟨e9, o9, s9⟩ := bad_dec 9 (by omega)
  have hd10 := fun w hW => Decode_any (List.replicate 38 0) (by simp) (zeroB 10) w hW
  have hd9 := fun w hW => Decode_any (List.replicate 38 0) (by simp) (zeroB 9) w hW
  simp only [e10, o10, s10] at hd10
  simp only [e9, o9, s9] at hd9
  have z16i : (Tryz.prog.info? 27).map (·.size) = some (arrV (List.replicate 16 0)).size := by rw [arr_size]; exact blockInfo
  have z38i : (Tryz.prog.info? 35).map (·.size) = some (arrV (List.replicate 38 0)).size := by rw [arr_size]; exact stateInfo
  have z16s : (Tryz.prog.info? 27).map (·.size) = some (intsV (List.replicate 16 0)).length := by rw [List.length_map]; exact blockInfo
  have z38s : (Tryz.prog.info? 35).map (·.size) = some (intsV (List.replicate 38 0)).length := by rw [List.length_map]; exact stateInfo
  have g16 : Tryz.prog.eqGuardType Tryz.prog.depth 27 = false := by kernel_rfl
  have g38 : Tryz.prog.eqGuardType Tryz.prog.depth 35 = false := by kernel_rfl
  have q16 := fun w => eq_block (List.replicate 16 0) (List.replicate 16 0) (by simp) (by simp) w
  have q38 := fun w => eq_state (List.replicate 38 0) (by simp) w
  simp only [beq_self_eq_true] at q16
  have k16 : (#[.int .i64 0, .int .i64 0, .int .i64 0, .int .i64 0, .int .i64 0, .int .i64 0, .int .i64 0, .int .i64 0, .int .i64 0, .int .i64 0, .int .i64 0, .int .i64 0, .int .i64 0, .int .i64 0, .int .i64 0, .int .i64 0] : Array Value).size = (arrV (List.replicate 16 0)).size := by rw [arr_size]; rfl
  have k38 : ((List.toArray (Value.int .i64 0 :: Value.int .i64 0 :: Value.int .i64 0 :: Value.int .i64 0 :: Value.int .i64 0 :: Value.int .i64 0 :: Value.int .i64 0 :: Value.int .i64 0 :: Value.int .i64 0 :: Value.int .i64 0 :: Value.int .i64 0 :: Value.int .i64 0 :: Value.int .i64 0 :: Value.int .i64 0 :: Value.int .i64 0 :: Value.int .i64 0 :: Value.int .i64 0 :: Value.int .i64 0 :: Value.int .i64 0 :: Value.int .i64 0 :: Value.int .i64 0 :: Value.int .i64 0 :: Value.int .i64 0 :: Value.int .i64 0 :: Value.int .i64 0 :: Value.int .i64 0 :: Value.int .i64 0 :: Value.int .i64 0 :: Value.int .i64 0 :: Value.int .i64 0 :: Value.int .i64 0 :: Value.int .i64 0 :: Value.int .i64 0 :: Value.int .i64 0 :: Value.int .i64 0 :: Value.int .i64 0 :: Value.int .i64 0 :: Value.int .i64 0 :: [])) : Array Value).size = (arrV (List.replicate 38 0)).size := by rw [arr_size]; rfl
  obtain ⟨Z16, hZ16⟩ : ∃ Z, List.replicate 16 (0 : Int) = Z := ⟨_, rfl⟩
  obtain ⟨Z38, hZ38⟩ : ∃ Z, List.replicate 38 (0 : Int) = Z := ⟨_, rfl⟩
  have sz := state_zero
  have bz := block_zero
  simp only [hZ16, hZ38] at hd10 hd9 z16i z38i z16s z38s q16 q38 k16 k38 sz bz
  have HD10 := Lib.hid hd10
  have HD9 := Lib.hid hd9
  have HQ16 := Lib.hid q16
  have HQ38 := Lib.hid q38
  have HSZ := Lib.hid sz
  have HBZ := Lib.hid bz
  have HG16 := Lib.hid g16
  have HG38 := Lib.hid g38
  clear hmk hM hMq hcv e10 o10 s10 e9 o9 s9 hd10 hd9 q16 q38 hZ16 hZ38 sz bz g16 g38
  obtain ⟨B, hB⟩ : ∃ B, w.heap.size = B := ⟨_, rfl⟩
  have hb00 := Below.refl w.heap.size w
  rw [hB] at hb00
  have hn10 := Blk.new w (M 10) 5
  rw [hB] at hn10
  go_enter Tryz.func6, Tryz.ntmps6
  go_wp2_with (first | (refine wpList_build_l rfl 35 #[] rfl [] rfl (arrV Z38) HSZ.out ?_))
  refine (HD10.out _ (Blk.alloc hW _)).mono ?_
  rintro e w1 ⟨rfl, hb1⟩
  have hW1 : BandsW w1 := Blk.newB (Blk.alloc hW _) hb1
  have hb01 : Below B w w1 := by have h : Below B w _ := hb00.alloc (by omega) (.cells (M 10) 5); exact h.trans (hb1.mono (by simp; omega))
  have hs1 := hb01.size
  obtain ⟨g, hg⟩ : ∃ g, w1.heap.size = g := ⟨_, rfl⟩
  obtain ⟨hN1, hN2, hk6, hs6⟩ := two_new (fun _ => False) w1 #[.int .i64 0, .int .i64 0, .int .i64 0, .int .i64 0, .int .i64 0, .int .i64 0, .int .i64 0, .int .i64 0, .int .i64 0, .int .i64 0, .int .i64 0, .int .i64 0, .int .i64 0, .int .i64 0, .int .i64 0, .int .i64 0] (List.toArray (Value.int .i64 0 :: Value.int .i64 0 :: Value.int .i64 0 :: Value.int .i64 0 :: Value.int .i64 0 :: Value.int .i64 0 :: Value.int .i64 0 :: Value.int .i64 0 :: Value.int .i64 0 :: Value.int .i64 0 :: Value.int .i64 0 :: Value.int .i64 0 :: Value.int .i64 0 :: Value.int .i64 0 :: Value.int .i64 0 :: Value.int .i64 0 :: Value.int .i64 0 :: Value.int .i64 0 :: Value.int .i64 0 :: Value.int .i64 0 :: Value.int .i64 0 :: Value.int .i64 0 :: Value.int .i64 0 :: Value.int .i64 0 :: Value.int .i64 0 :: Value.int .i64 0 :: Value.int .i64 0 :: Value.int .i64 0 :: Value.int .i64 0 :: Value.int .i64 0 :: Value.int .i64 0 :: Value.int .i64 0 :: Value.int .i64 0 :: Value.int .i64 0 :: Value.int .i64 0 :: Value.int .i64 0 :: Value.int .i64 0 :: Value.int .i64 0 :: [])) 27 35
  rw [hg] at hN1 hN2 hs6
  have hM1 := (hN1.setRow (new := arrV Z16)).setRowOther (g := g + 1) (new := arrV Z38) (by omega)
  have hM2 := (hN2.setRowOther (g := g) (new := arrV Z16) (by omega)).setRow (new := arrV Z38)
  have hW2 : BandsW ((((w1.alloc (.cells #[.int .i64 0, .int .i64 0, .int .i64 0, .int .i64 0, .int .i64 0, .int .i64 0, .int .i64 0, .int .i64 0, .int .i64 0, .int .i64 0, .int .i64 0, .int .i64 0, .int .i64 0, .int .i64 0, .int .i64 0, .int .i64 0] 27)).alloc (.cells (List.toArray (Value.int .i64 0 :: Value.int .i64 0 :: Value.int .i64 0 :: Value.int .i64 0 :: Value.int .i64 0 :: Value.int .i64 0 :: Value.int .i64 0 :: Value.int .i64 0 :: Value.int .i64 0 :: Value.int .i64 0 :: Value.int .i64 0 :: Value.int .i64 0 :: Value.int .i64 0 :: Value.int .i64 0 :: Value.int .i64 0 :: Value.int .i64 0 :: Value.int .i64 0 :: Value.int .i64 0 :: Value.int .i64 0 :: Value.int .i64 0 :: Value.int .i64 0 :: Value.int .i64 0 :: Value.int .i64 0 :: Value.int .i64 0 :: Value.int .i64 0 :: Value.int .i64 0 :: Value.int .i64 0 :: Value.int .i64 0 :: Value.int .i64 0 :: Value.int .i64 0 :: Value.int .i64 0 :: Value.int .i64 0 :: Value.int .i64 0 :: Value.int .i64 0 :: Value.int .i64 0 :: Value.int .i64 0 :: Value.int .i64 0 :: Value.int .i64 0 :: [])) 35)).setRow g (arrV Z16)).setRow (g + 1) (arrV Z38)) := Blk.setRowOther (Blk.setRowOther (Blk.alloc (Blk.alloc hW1 _) _) (by have := hW1.lt; omega)) (by have := hW1.lt; omega)
  have hf4 : Below B w ((((w1.alloc (.cells #[.int .i64 0, .int .i64 0, .int .i64 0, .int .i64 0, .int .i64 0, .int .i64 0, .int .i64 0, .int .i64 0, .int .i64 0, .int .i64 0, .int .i64 0, .int .i64 0, .int .i64 0, .int .i64 0, .int .i64 0, .int .i64 0] 27)).alloc (.cells (List.toArray (Value.int .i64 0 :: Value.int .i64 0 :: Value.int .i64 0 :: Value.int .i64 0 :: Value.int .i64 0 :: Value.int .i64 0 :: Value.int .i64 0 :: Value.int .i64 0 :: Value.int .i64 0 :: Value.int .i64 0 :: Value.int .i64 0 :: Value.int .i64 0 :: Value.int .i64 0 :: Value.int .i64 0 :: Value.int .i64 0 :: Value.int .i64 0 :: Value.int .i64 0 :: Value.int .i64 0 :: Value.int .i64 0 :: Value.int .i64 0 :: Value.int .i64 0 :: Value.int .i64 0 :: Value.int .i64 0 :: Value.int .i64 0 :: Value.int .i64 0 :: Value.int .i64 0 :: Value.int .i64 0 :: Value.int .i64 0 :: Value.int .i64 0 :: Value.int .i64 0 :: Value.int .i64 0 :: Value.int .i64 0 :: Value.int .i64 0 :: Value.int .i64 0 :: Value.int .i64 0 :: Value.int .i64 0 :: Value.int .i64 0 :: Value.int .i64 0 :: [])) 35)).setRow g (arrV Z16)).setRow (g + 1) (arrV Z38)) := Below.setRow (Below.setRow ((hb01.alloc (by omega) _).alloc (by simp; omega) _) (by omega) _) (by omega) _
  have hs4 : ((((w1.alloc (.cells #[.int .i64 0, .int .i64 0, .int .i64 0, .int .i64 0, .int .i64 0, .int .i64 0, .int .i64 0, .int .i64 0, .int .i64 0, .int .i64 0, .int .i64 0, .int .i64 0, .int .i64 0, .int .i64 0, .int .i64 0, .int .i64 0] 27)).alloc (.cells (List.toArray (Value.int .i64 0 :: Value.int .i64 0 :: Value.int .i64 0 :: Value.int .i64 0 :: Value.int .i64 0 :: Value.int .i64 0 :: Value.int .i64 0 :: Value.int .i64 0 :: Value.int .i64 0 :: Value.int .i64 0 :: Value.int .i64 0 :: Value.int .i64 0 :: Value.int .i64 0 :: Value.int .i64 0 :: Value.int .i64 0 :: Value.int .i64 0 :: Value.int .i64 0 :: Value.int .i64 0 :: Value.int .i64 0 :: Value.int .i64 0 :: Value.int .i64 0 :: Value.int .i64 0 :: Value.int .i64 0 :: Value.int .i64 0 :: Value.int .i64 0 :: Value.int .i64 0 :: Value.int .i64 0 :: Value.int .i64 0 :: Value.int .i64 0 :: Value.int .i64 0 :: Value.int .i64 0 :: Value.int .i64 0 :: Value.int .i64 0 :: Value.int .i64 0 :: Value.int .i64 0 :: Value.int .i64 0 :: Value.int .i64 0 :: Value.int .i64 0 :: [])) 35)).setRow g (arrV Z16)).setRow (g + 1) (arrV Z38)).heap.size = g + 2 := by simp; omega
  go_upto_region 2 with (first | (refine wpList_store_blk rfl 27 (.tmp 1) (.tmp 12) rfl g _ (arrV Z16) rfl rfl 27 hN1 z16i k16 (arr_one _) ?_) | (refine wpList_store_blk rfl 35 (.tmp 2) (.tmp 13) rfl (g + 1) _ (arrV Z38) rfl rfl 35 (hN2.setRowOther (by omega)) z38i k38 (arr_one _) ?_))
  revert hM1 hM2 hW2 hf4 hs4
  clear hW1 hb01 hN1 hN2 hk6 hs6
  generalize ((((w1.alloc (.cells #[.int .i64 0, .int .i64 0, .int .i64 0, .int .i64 0, .int .i64 0, .int .i64 0, .int .i64 0, .int .i64 0, .int .i64 0, .int .i64 0, .int .i64 0, .int .i64 0, .int .i64 0, .int .i64 0, .int .i64 0, .int .i64 0] 27)).alloc (.cells (List.toArray (Value.int .i64 0 :: Value.int .i64 0 :: Value.int .i64 0 :: Value.int .i64 0 :: Value.int .i64 0 :: Value.int .i64 0 :: Value.int .i64 0 :: Value.int .i64 0 :: Value.int .i64 0 :: Value.int .i64 0 :: Value.int .i64 0 :: Value.int .i64 0 :: Value.int .i64 0 :: Value.int .i64 0 :: Value.int .i64 0 :: Value.int .i64 0 :: Value.int .i64 0 :: Value.int .i64 0 :: Value.int .i64 0 :: Value.int .i64 0 :: Value.int .i64 0 :: Value.int .i64 0 :: Value.int .i64 0 :: Value.int .i64 0 :: Value.int .i64 0 :: Value.int .i64 0 :: Value.int .i64 0 :: Value.int .i64 0 :: Value.int .i64 0 :: Value.int .i64 0 :: Value.int .i64 0 :: Value.int .i64 0 :: Value.int .i64 0 :: Value.int .i64 0 :: Value.int .i64 0 :: Value.int .i64 0 :: Value.int .i64 0 :: Value.int .i64 0 :: [])) 35)).setRow g (arrV Z16)).setRow (g + 1) (arrV Z38)) = w2
  intro hM1 hM2 hW2 hf hs4
  have hn9 := Blk.new w2 (M 9) 5
  rw [hs4] at hn9
  go_wp2_with (first | (refine wpList_build_l rfl 35 #[] rfl [] rfl (arrV Z38) HSZ.out ?_))
  refine (HD9.out _ (Blk.alloc hW2 _)).mono ?_
  rintro e w3 ⟨rfl, hb3⟩
  have hM13 := (hM1.alloc (.cells (M 9) 5)).newB hb3
  have hM23 := (hM2.alloc (.cells (M 9) 5)).newB hb3
  have hf3 : Below B w w3 := by have h : Below B w _ := hf.alloc (by omega) (.cells (M 9) 5); exact h.trans (hb3.mono (by simp; omega))
  have hs3 := hb3.size
  simp only [World.size_alloc] at hs3
  obtain ⟨g2, hg2⟩ : ∃ g, w3.heap.size = g := ⟨_, rfl⟩
  obtain ⟨hN1, hN2, hk6, hs6⟩ := two_new (fun _ => False) w3 #[.int .i64 0, .int .i64 0, .int .i64 0, .int .i64 0, .int .i64 0, .int .i64 0, .int .i64 0, .int .i64 0, .int .i64 0, .int .i64 0, .int .i64 0, .int .i64 0, .int .i64 0, .int .i64 0, .int .i64 0, .int .i64 0] (List.toArray (Value.int .i64 0 :: Value.int .i64 0 :: Value.int .i64 0 :: Value.int .i64 0 :: Value.int .i64 0 :: Value.int .i64 0 :: Value.int .i64 0 :: Value.int .i64 0 :: Value.int .i64 0 :: Value.int .i64 0 :: Value.int .i64 0 :: Value.int .i64 0 :: Value.int .i64 0 :: Value.int .i64 0 :: Value.int .i64 0 :: Value.int .i64 0 :: Value.int .i64 0 :: Value.int .i64 0 :: Value.int .i64 0 :: Value.int .i64 0 :: Value.int .i64 0 :: Value.int .i64 0 :: Value.int .i64 0 :: Value.int .i64 0 :: Value.int .i64 0 :: Value.int .i64 0 :: Value.int .i64 0 :: Value.int .i64 0 :: Value.int .i64 0 :: Value.int .i64 0 :: Value.int .i64 0 :: Value.int .i64 0 :: Value.int .i64 0 :: Value.int .i64 0 :: Value.int .i64 0 :: Value.int .i64 0 :: Value.int .i64 0 :: Value.int .i64 0 :: [])) 27 35
  rw [hg2] at hN1 hN2 hs6
  have hM14 : Blk ((((w3.alloc (.cells #[.int .i64 0, .int .i64 0, .int .i64 0, .int .i64 0, .int .i64 0, .int .i64 0, .int .i64 0, .int .i64 0, .int .i64 0, .int .i64 0, .int .i64 0, .int .i64 0, .int .i64 0, .int .i64 0, .int .i64 0, .int .i64 0] 27)).alloc (.cells (List.toArray (Value.int .i64 0 :: Value.int .i64 0 :: Value.int .i64 0 :: Value.int .i64 0 :: Value.int .i64 0 :: Value.int .i64 0 :: Value.int .i64 0 :: Value.int .i64 0 :: Value.int .i64 0 :: Value.int .i64 0 :: Value.int .i64 0 :: Value.int .i64 0 :: Value.int .i64 0 :: Value.int .i64 0 :: Value.int .i64 0 :: Value.int .i64 0 :: Value.int .i64 0 :: Value.int .i64 0 :: Value.int .i64 0 :: Value.int .i64 0 :: Value.int .i64 0 :: Value.int .i64 0 :: Value.int .i64 0 :: Value.int .i64 0 :: Value.int .i64 0 :: Value.int .i64 0 :: Value.int .i64 0 :: Value.int .i64 0 :: Value.int .i64 0 :: Value.int .i64 0 :: Value.int .i64 0 :: Value.int .i64 0 :: Value.int .i64 0 :: Value.int .i64 0 :: Value.int .i64 0 :: Value.int .i64 0 :: Value.int .i64 0 :: Value.int .i64 0 :: [])) 35)).setRow g2 (arrV Z16)).setRow (g2 + 1) (arrV Z38)) g (arrV Z16) 27 := (((hM13.alloc _).alloc _).setRowOther (by omega)).setRowOther (by omega)
  have hM24 : Blk ((((w3.alloc (.cells #[.int .i64 0, .int .i64 0, .int .i64 0, .int .i64 0, .int .i64 0, .int .i64 0, .int .i64 0, .int .i64 0, .int .i64 0, .int .i64 0, .int .i64 0, .int .i64 0, .int .i64 0, .int .i64 0, .int .i64 0, .int .i64 0] 27)).alloc (.cells (List.toArray (Value.int .i64 0 :: Value.int .i64 0 :: Value.int .i64 0 :: Value.int .i64 0 :: Value.int .i64 0 :: Value.int .i64 0 :: Value.int .i64 0 :: Value.int .i64 0 :: Value.int .i64 0 :: Value.int .i64 0 :: Value.int .i64 0 :: Value.int .i64 0 :: Value.int .i64 0 :: Value.int .i64 0 :: Value.int .i64 0 :: Value.int .i64 0 :: Value.int .i64 0 :: Value.int .i64 0 :: Value.int .i64 0 :: Value.int .i64 0 :: Value.int .i64 0 :: Value.int .i64 0 :: Value.int .i64 0 :: Value.int .i64 0 :: Value.int .i64 0 :: Value.int .i64 0 :: Value.int .i64 0 :: Value.int .i64 0 :: Value.int .i64 0 :: Value.int .i64 0 :: Value.int .i64 0 :: Value.int .i64 0 :: Value.int .i64 0 :: Value.int .i64 0 :: Value.int .i64 0 :: Value.int .i64 0 :: Value.int .i64 0 :: Value.int .i64 0 :: [])) 35)).setRow g2 (arrV Z16)).setRow (g2 + 1) (arrV Z38)) (g + 1) (arrV Z38) 35 := (((hM23.alloc _).alloc _).setRowOther (by omega)).setRowOther (by omega)
  have hf5 : Below B w ((((w3.alloc (.cells #[.int .i64 0, .int .i64 0, .int .i64 0, .int .i64 0, .int .i64 0, .int .i64 0, .int .i64 0, .int .i64 0, .int .i64 0, .int .i64 0, .int .i64 0, .int .i64 0, .int .i64 0, .int .i64 0, .int .i64 0, .int .i64 0] 27)).alloc (.cells (List.toArray (Value.int .i64 0 :: Value.int .i64 0 :: Value.int .i64 0 :: Value.int .i64 0 :: Value.int .i64 0 :: Value.int .i64 0 :: Value.int .i64 0 :: Value.int .i64 0 :: Value.int .i64 0 :: Value.int .i64 0 :: Value.int .i64 0 :: Value.int .i64 0 :: Value.int .i64 0 :: Value.int .i64 0 :: Value.int .i64 0 :: Value.int .i64 0 :: Value.int .i64 0 :: Value.int .i64 0 :: Value.int .i64 0 :: Value.int .i64 0 :: Value.int .i64 0 :: Value.int .i64 0 :: Value.int .i64 0 :: Value.int .i64 0 :: Value.int .i64 0 :: Value.int .i64 0 :: Value.int .i64 0 :: Value.int .i64 0 :: Value.int .i64 0 :: Value.int .i64 0 :: Value.int .i64 0 :: Value.int .i64 0 :: Value.int .i64 0 :: Value.int .i64 0 :: Value.int .i64 0 :: Value.int .i64 0 :: Value.int .i64 0 :: Value.int .i64 0 :: [])) 35)).setRow g2 (arrV Z16)).setRow (g2 + 1) (arrV Z38)) := Below.setRow (Below.setRow ((hf3.alloc (by have := hf3.size; omega) _).alloc (by have := hf3.size; simp; omega) _) (by have := hf3.size; omega) _) (by have := hf3.size; omega) _
  go_upto_region 3 with (first | (refine wpList_store_blk rfl 27 (.tmp 4) (.tmp 20) rfl g2 _ (arrV Z16) rfl rfl 27 hN1 z16i k16 (arr_one _) ?_) | (refine wpList_store_blk rfl 35 (.tmp 5) (.tmp 21) rfl (g2 + 1) _ (arrV Z38) rfl rfl 35 (hN2.setRowOther (by omega)) z38i k38 (arr_one _) ?_))
  revert hM14 hM24 hf5
  clear hM1 hM2 hM13 hM23 hf hf3 hN1 hN2 hk6 hs6 hs4
  generalize ((((w3.alloc (.cells #[.int .i64 0, .int .i64 0, .int .i64 0, .int .i64 0, .int .i64 0, .int .i64 0, .int .i64 0, .int .i64 0, .int .i64 0, .int .i64 0, .int .i64 0, .int .i64 0, .int .i64 0, .int .i64 0, .int .i64 0, .int .i64 0] 27)).alloc (.cells (List.toArray (Value.int .i64 0 :: Value.int .i64 0 :: Value.int .i64 0 :: Value.int .i64 0 :: Value.int .i64 0 :: Value.int .i64 0 :: Value.int .i64 0 :: Value.int .i64 0 :: Value.int .i64 0 :: Value.int .i64 0 :: Value.int .i64 0 :: Value.int .i64 0 :: Value.int .i64 0 :: Value.int .i64 0 :: Value.int .i64 0 :: Value.int .i64 0 :: Value.int .i64 0 :: Value.int .i64 0 :: Value.int .i64 0 :: Value.int .i64 0 :: Value.int .i64 0 :: Value.int .i64 0 :: Value.int .i64 0 :: Value.int .i64 0 :: Value.int .i64 0 :: Value.int .i64 0 :: Value.int .i64 0 :: Value.int .i64 0 :: Value.int .i64 0 :: Value.int .i64 0 :: Value.int .i64 0 :: Value.int .i64 0 :: Value.int .i64 0 :: Value.int .i64 0 :: Value.int .i64 0 :: Value.int .i64 0 :: Value.int .i64 0 :: Value.int .i64 0 :: [])) 35)).setRow g2 (arrV Z16)).setRow (g2 + 1) (arrV Z38)) = w4
  intro hM1 hM2 hf
  have r1 := hM1.rangeAll
  have r2 := hM2.rangeAll
  go_wp2_with (first | (refine wpList_load_g (by rfl) 27 (.tmp 1) rfl g 0 rfl (intsV Z16) (.array 16 3) r1 Tryz.underlying27 rfl z16s ?_) | (refine wpList_load_g (by rfl) 35 (.tmp 2) rfl (g + 1) 0 rfl (intsV Z38) _ r2 Tryz.underlying35 rfl z38s ?_) | (refine wpList_build_g (by rfl) 27 #[] rfl [] rfl (arrV Z16) HBZ.out ?_) | (refine wpList_build_g (by rfl) 35 #[] rfl [] rfl (arrV Z38) HSZ.out ?_) | (refine wpList_eql_g (by rfl) 27 27 (.tmp 26) (.tmp 27) rfl (arrV Z16) (arrV Z16) rfl rfl HG16.out true (HQ16.out _) ?_) | (refine wpList_eql_g (by rfl) 35 35 (.tmp 31) (.tmp 32) rfl (arrV Z38) (arrV Z38) rfl rfl HG38.out true (HQ38.out _) ?_))
  go_ret
  exact ⟨rfl, by first | exact hf | (rw [hB]; exact hf)⟩
end Go.Proofs.YtmfihaaiddolmaaGreatDoor
