/- The walks of spoollaw15.awake, Of and Frames; encoders compared. -/
import Derived.Test.YtkoljgmapclhkaaGreatDoorLot11
set_option linter.unusedSimpArgs false
set_option linter.unusedVariables false
namespace Go.Proofs.YtkoljgmapclhkaaGreatDoor
open Go.RowKit

set_option maxRecDepth 100000 in
theorem eq_eenc_d (d : Nat) (L : List Int) (h : L.length = 55) (w : World) : (Op.equalIn (d + 4) 31 (.agg (arrV L)) (.agg (arrV L))).run Tryz.prog w = .ok true w := by
  have ht : Tryz.prog.underlying 31 = some (.struct (Tryz.prog.fieldsOf 31)) := by kernel_rfl
  have hp : Tryz.prog.stoodInHeld 31 = false := by kernel_rfl
  have a16 : (isAgg 26).run Tryz.prog w = .ok true w := by kernel_rfl
  have a38 : (isAgg 29).run Tryz.prog w = .ok true w := by kernel_rfl
  have s16 : (sizeOf 26).run Tryz.prog w = .ok 16 w := by kernel_rfl
  have s38 : (sizeOf 29).run Tryz.prog w = .ok 38 w := by kernel_rfl
  have e0 : ((L.drop 0).take 16).length = 16 := by rw [List.length_take, List.length_drop, h]; rfl
  have e2 : ((L.drop 17).take 38).length = 38 := by rw [List.length_take, List.length_drop, h]; rfl
  rw [run_equalIn_struct w (d + 3) _ _ _ ht hp]
  have q0 := eq_ints (d + 1) _ _ e0 e0 Tryz.underlying26 w
  have q2 := eq_state_d d _ e2 w
  have p0 := run_part_arr 26 L 0 16 w a16 s16
  have p2 := run_part_arr 29 L 17 38 w a38 s38
  have p1 := run_part_one L 16 (by omega) w
  simp only [beq_self_eq_true] at q0
  have n0 : ("Prev" : String) ≠ "_" := by decide +kernel
  have n1 : ("Last" : String) ≠ "_" := by decide +kernel
  have n2 : ("State" : String) ≠ "_" := by decide +kernel
  simp only [Program.fieldsOf, Tryz.underlying31]
  have r1 := run_equalIn_int w (d + 2) 3 .i64 .i64 (L.getD 16 0) (L.getD 16 0) Tryz.underlying3
  rw [beq_self_eq_true] at r1
  refine Eq.trans (eqFields_step (a := .agg (arrV ((L.drop 0).take 16))) (b := .agg (arrV ((L.drop 0).take 16))) ?_ ?_ ?_ ?_) ?_
  · exact n0
  · exact p0
  · exact p0
  · exact q0
  refine Eq.trans (eqFields_step (a := .int .i64 (L.getD 16 0)) (b := .int .i64 (L.getD 16 0)) ?_ ?_ ?_ ?_) ?_
  · exact n1
  · exact p1
  · exact p1
  · exact r1
  refine Eq.trans (eqFields_step (a := .agg (arrV ((L.drop 17).take 38))) (b := .agg (arrV ((L.drop 17).take 38))) ?_ ?_ ?_ ?_) ?_
  · exact n2
  · exact p2
  · exact p2
  · exact q2
  simp [Op.eqFields]
theorem eq_eenc {L : List Int} (h : Len L 55) (w : World) : (Op.equalIn 10000 31 (.agg (arrV L)) (.agg (arrV L))).run Tryz.prog w = .ok true w := eq_eenc_d 9996 L h w
theorem eg_EEnc : Tryz.prog.eqGuardType Tryz.prog.depth 31 = false := by kernel_rfl
/-- A frame of noughts encoded by the encoder at first. -/
theorem Encode_zero {size : Nat} (h0 : 10 ≤ size) (h1 : size ≤ 32) (w : World) (hW : BandsW w) :
    Calls Tryz.prog 31 #[.agg (arrV (zs 55)), .agg (arrV (zs 16)), .int .i64 size] w fun r w' => r = .returned (.tuple #[.string (packE size e0 z16), .agg (arrV (zs 55)), .int .i64 0]) ∧ Below w.heap.size w w' := by
  have h := EncodeE_any h0 h1 e0_ok z16_s16 w hW
  rw [(silent_next h0 h1).1, e0_zs] at h
  exact h
set_option maxRecDepth 100000 in
set_option maxHeartbeats 1600000 in
theorem awake15_any (w : World) (hW : BandsW w) : Calls Tryz.prog 9 #[] w fun e w' => e = .returned (.bool true) ∧ Below w.heap.size w w' := by
  have hen := fun w hW => Encode_zero (size := 10) (by omega) (by omega) w hW
  have hps := packE_size (size := 10) (by omega) e0_ok z16
  obtain ⟨P, hP⟩ : ∃ P, packE 10 e0 z16 = P := ⟨_, rfl⟩
  simp only [hP] at hen hps
  have hpi : (P.size : Int) = 10 := by omega
  have HEN := Lib.hid hen
  clear hen hP hps
  have LZ := Len.zs 55
  have hz55 : ((List.toArray (Value.int .i64 0 :: Value.int .i64 0 :: Value.int .i64 0 :: Value.int .i64 0 :: Value.int .i64 0 :: Value.int .i64 0 :: Value.int .i64 0 :: Value.int .i64 0 :: Value.int .i64 0 :: Value.int .i64 0 :: Value.int .i64 0 :: Value.int .i64 0 :: Value.int .i64 0 :: Value.int .i64 0 :: Value.int .i64 0 :: Value.int .i64 0 :: Value.int .i64 0 :: Value.int .i64 0 :: Value.int .i64 0 :: Value.int .i64 0 :: Value.int .i64 0 :: Value.int .i64 0 :: Value.int .i64 0 :: Value.int .i64 0 :: Value.int .i64 0 :: Value.int .i64 0 :: Value.int .i64 0 :: Value.int .i64 0 :: Value.int .i64 0 :: Value.int .i64 0 :: Value.int .i64 0 :: Value.int .i64 0 :: Value.int .i64 0 :: Value.int .i64 0 :: Value.int .i64 0 :: Value.int .i64 0 :: Value.int .i64 0 :: Value.int .i64 0 :: Value.int .i64 0 :: Value.int .i64 0 :: Value.int .i64 0 :: Value.int .i64 0 :: Value.int .i64 0 :: Value.int .i64 0 :: Value.int .i64 0 :: Value.int .i64 0 :: Value.int .i64 0 :: Value.int .i64 0 :: Value.int .i64 0 :: Value.int .i64 0 :: Value.int .i64 0 :: Value.int .i64 0 :: Value.int .i64 0 :: Value.int .i64 0 :: Value.int .i64 0 :: [])) : Array Value).size = 55 := by rfl
  have hBW : Blk w 0 bandE 164 := hW
  have h0 : 0 < w.heap.size := hW.lt
  obtain ⟨B, hB⟩ : ∃ B, w.heap.size = B := ⟨_, rfl⟩
  rw [hB] at h0
  have hfar := Below.refl B w
  have hsz : B ≤ w.heap.size := by omega
  go_enter Tryz.func9, Tryz.ntmps9
  go_upto_region 1 with (fail)
  go_wp2_with (first | (refine bd 31 rfl (by rfl) rfl eenc_zs ?_) | (first | (refine bd 29 rfl (by rfl) rfl state_zs ?_) | (refine bd 26 rfl (by rfl) rfl block_zs ?_) | (refine ld 29 rfl (by rfl) w_State rfl bk_ lz_ ?_) | (refine ld 26 rfl (by rfl) w_Block rfl bk_ lz_ ?_) | (refine ldp 26 rfl (by rfl) w_Block rfl bk_ ln_ (by omega) ?_) | (refine ld 27 rfl (by rfl) w_Four rfl bk_ lz_ ?_) | (refine ldp 27 rfl (by rfl) w_Four rfl bk_ ln_ (by omega) ?_) | (refine st 29 rfl (by rfl) w_State rfl rfl bk_ lz_ lz_ one_ ?_) | (refine st 26 rfl (by rfl) w_Block rfl rfl bk_ lz_ lz_ one_ ?_) | (refine st 27 rfl (by rfl) w_Four rfl rfl bk_ lz_ lz_ one_ ?_)))
  refine (HEN.out _ hBW).mono ?_
  rintro e w1 ⟨rfl, hb1⟩
  replace hBW := hBW.newB hb1
  replace hfar := hfar.trans (hb1.mono (by omega))
  replace hsz := Nat.le_trans hsz hb1.size
  go_upto_region 2 with (refine st 31 rfl (by rfl) w_EEnc rfl rfl bk_ hz55 LZ.sz one_ ?_)
  refine wp_gen (fun W => Blk W (0) (bandE) 164 ∧ Blk W (w1.heap.size) (arrV (zs 55)) 31 ∧ Below (B) w W ∧ B + 1 ≤ W.heap.size) ⟨bk_, bk_, bl_, sz_⟩ ?_
  clear hBW hfar hsz
  rintro w2 ⟨hBW, hE, hfar, hsz⟩
  go_wp2_with (first | (refine eqw 31 rfl (by rfl) rfl rfl eg_EEnc (eq_eenc LZ) ?_) | (refine ld 31 rfl (by rfl) w_EEnc rfl hE LZ.sz ?_) | (refine bd 31 rfl (by rfl) rfl eenc_zs ?_))
  go_ret
  exact ⟨rfl, (by (try rw [hB]); exact bl_)⟩
end Go.Proofs.YtkoljgmapclhkaaGreatDoor
