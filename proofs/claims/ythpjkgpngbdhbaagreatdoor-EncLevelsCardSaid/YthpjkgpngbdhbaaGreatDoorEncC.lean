/- The walk of enc.Encode where it refuses. -/
import Derived.Test.YthpjkgpngbdhbaaGreatDoorEncB
set_option linter.unusedSimpArgs false
set_option linter.unusedVariables false
namespace Go.Proofs.YthpjkgpngbdhbaaGreatDoor
open Go.RowKit

theorem eenc_zs : Tryz.prog.built 36 [] = some (arrV (zs 55)) := by kernel_rfl
set_option maxRecDepth 100000 in
set_option maxHeartbeats 8000000 in
theorem Encode_size (E b : List Int) (h1 : E.length = 55) (h3 : b.length = 16) (size : Int) (hs : size < 10 ∨ 32 < size) (w : World) :
    Calls Tryz.prog 11 #[.agg (arrV E), .agg (arrV b), .int .i64 size] w fun e w' => e = .returned (.tuple #[.string ⟨#[]⟩, .agg (arrV (zs 55)), .int .i64 10]) ∧ Below w.heap.size w w' := by
  have hz55 : ((List.toArray (Value.int .i64 0 :: Value.int .i64 0 :: Value.int .i64 0 :: Value.int .i64 0 :: Value.int .i64 0 :: Value.int .i64 0 :: Value.int .i64 0 :: Value.int .i64 0 :: Value.int .i64 0 :: Value.int .i64 0 :: Value.int .i64 0 :: Value.int .i64 0 :: Value.int .i64 0 :: Value.int .i64 0 :: Value.int .i64 0 :: Value.int .i64 0 :: Value.int .i64 0 :: Value.int .i64 0 :: Value.int .i64 0 :: Value.int .i64 0 :: Value.int .i64 0 :: Value.int .i64 0 :: Value.int .i64 0 :: Value.int .i64 0 :: Value.int .i64 0 :: Value.int .i64 0 :: Value.int .i64 0 :: Value.int .i64 0 :: Value.int .i64 0 :: Value.int .i64 0 :: Value.int .i64 0 :: Value.int .i64 0 :: Value.int .i64 0 :: Value.int .i64 0 :: Value.int .i64 0 :: Value.int .i64 0 :: Value.int .i64 0 :: Value.int .i64 0 :: Value.int .i64 0 :: Value.int .i64 0 :: Value.int .i64 0 :: Value.int .i64 0 :: Value.int .i64 0 :: Value.int .i64 0 :: Value.int .i64 0 :: Value.int .i64 0 :: Value.int .i64 0 :: Value.int .i64 0 :: Value.int .i64 0 :: Value.int .i64 0 :: Value.int .i64 0 :: Value.int .i64 0 :: Value.int .i64 0 :: Value.int .i64 0 :: Value.int .i64 0 :: [])) : Array Value).size = 55 := by rfl
  have LZ : Len (zs 55) 55 := Len.zs 55
  obtain ⟨B, hB⟩ : ∃ B, w.heap.size = B := ⟨_, rfl⟩
  have hfar := Below.refl B w
  have hsz : B ≤ w.heap.size := by omega
  by_cases hlt : size < 10
  all_goals
    (try have hlt2 : 32 < size := by omega)
    go_enter Tryz.func11, Tryz.ntmps11
    go_upto_region 1 with (fail)
    refine wp_gen (fun W => Blk W (B + 1 + 1) ((List.toArray (Value.int .i64 0 :: Value.int .i64 0 :: Value.int .i64 0 :: Value.int .i64 0 :: Value.int .i64 0 :: Value.int .i64 0 :: Value.int .i64 0 :: Value.int .i64 0 :: Value.int .i64 0 :: Value.int .i64 0 :: Value.int .i64 0 :: Value.int .i64 0 :: Value.int .i64 0 :: Value.int .i64 0 :: Value.int .i64 0 :: Value.int .i64 0 :: Value.int .i64 0 :: Value.int .i64 0 :: Value.int .i64 0 :: Value.int .i64 0 :: Value.int .i64 0 :: Value.int .i64 0 :: Value.int .i64 0 :: Value.int .i64 0 :: Value.int .i64 0 :: Value.int .i64 0 :: Value.int .i64 0 :: Value.int .i64 0 :: Value.int .i64 0 :: Value.int .i64 0 :: Value.int .i64 0 :: Value.int .i64 0 :: Value.int .i64 0 :: Value.int .i64 0 :: Value.int .i64 0 :: Value.int .i64 0 :: Value.int .i64 0 :: Value.int .i64 0 :: Value.int .i64 0 :: Value.int .i64 0 :: Value.int .i64 0 :: Value.int .i64 0 :: Value.int .i64 0 :: Value.int .i64 0 :: Value.int .i64 0 :: Value.int .i64 0 :: Value.int .i64 0 :: Value.int .i64 0 :: Value.int .i64 0 :: Value.int .i64 0 :: Value.int .i64 0 :: Value.int .i64 0 :: Value.int .i64 0 :: Value.int .i64 0 :: Value.int .i64 0 :: []))) 36 ∧ Below (B) w W ∧ B + 3 ≤ W.heap.size) ⟨bk_, bl_, sz_⟩ ?_
    clear hfar hsz
    rintro wa ⟨hO, hfar, hsz⟩
    go_upto_region 2 with (fail)
    go_wp2_with (first | (refine bd 36 rfl (by rfl) rfl eenc_zs ?_) | (refine st 36 rfl (by rfl) w_EEnc rfl rfl hO hz55 LZ.sz one_ ?_))
    exact bodyPost_ret (v := .tuple #[.string ⟨#[]⟩, .agg (arrV (zs 55)), .int .i64 10]) (res_tct Tryz.results11 rfl rfl w_EEnc (Blk.setRow hO) LZ.sz rfl) rfl ⟨rfl, by (try rw [hB]); exact Below.setRow hfar (by omega) _⟩
set_option maxRecDepth 100000 in
set_option maxHeartbeats 8000000 in
theorem Encode_arg (P L b : List Int) (last : Int) (h1 : P.length = 16) (h2 : L.length = 38) (h3 : b.length = 16) (size : Int) (hs0 : 10 ≤ size) (hs1 : size ≤ 32) (hno : ¬ (rightE P last L = true ∧ b.all sound16 = true)) (w : World) :
    Calls Tryz.prog 11 #[.agg (arrV (encL P last L)), .agg (arrV b), .int .i64 size] w fun e w' => e = .returned (.tuple #[.string ⟨#[]⟩, .agg (arrV (zs 55)), .int .i64 1]) ∧ Below w.heap.size w w' := by
  have LE := Len.mk (encL_len last h1 h2)
  have LB := Len.mk h3
  have hz55 : ((List.toArray (Value.int .i64 0 :: Value.int .i64 0 :: Value.int .i64 0 :: Value.int .i64 0 :: Value.int .i64 0 :: Value.int .i64 0 :: Value.int .i64 0 :: Value.int .i64 0 :: Value.int .i64 0 :: Value.int .i64 0 :: Value.int .i64 0 :: Value.int .i64 0 :: Value.int .i64 0 :: Value.int .i64 0 :: Value.int .i64 0 :: Value.int .i64 0 :: Value.int .i64 0 :: Value.int .i64 0 :: Value.int .i64 0 :: Value.int .i64 0 :: Value.int .i64 0 :: Value.int .i64 0 :: Value.int .i64 0 :: Value.int .i64 0 :: Value.int .i64 0 :: Value.int .i64 0 :: Value.int .i64 0 :: Value.int .i64 0 :: Value.int .i64 0 :: Value.int .i64 0 :: Value.int .i64 0 :: Value.int .i64 0 :: Value.int .i64 0 :: Value.int .i64 0 :: Value.int .i64 0 :: Value.int .i64 0 :: Value.int .i64 0 :: Value.int .i64 0 :: Value.int .i64 0 :: Value.int .i64 0 :: Value.int .i64 0 :: Value.int .i64 0 :: Value.int .i64 0 :: Value.int .i64 0 :: Value.int .i64 0 :: Value.int .i64 0 :: Value.int .i64 0 :: Value.int .i64 0 :: Value.int .i64 0 :: Value.int .i64 0 :: Value.int .i64 0 :: Value.int .i64 0 :: Value.int .i64 0 :: Value.int .i64 0 :: Value.int .i64 0 :: [])) : Array Value).size = 55 := by rfl
  have LZ : Len (zs 55) 55 := Len.zs 55
  have hev := fun v w h => every_any 24 sound16 b v w h (by omega) (fun _ _ => by kernel_rfl) (fun x _ w => esound_any x w)
  have her := fun w => ERight_any P L last h1 h2 w
  obtain ⟨E, hE⟩ : ∃ E, encL P last L = E := ⟨_, rfl⟩
  rw [hE] at LE ⊢
  simp only [hE] at her
  obtain ⟨r, hr⟩ : ∃ r, rightE P last L = r := ⟨_, rfl⟩
  obtain ⟨q, hq⟩ : ∃ q, b.all sound16 = q := ⟨_, rfl⟩
  rw [hr, hq] at hno
  simp only [hr] at her
  simp only [hq] at hev
  have HEV := Lib.hid hev
  have HER := Lib.hid her
  clear hev her hE hr hq
  obtain ⟨B, hB⟩ : ∃ B, w.heap.size = B := ⟨_, rfl⟩
  have hfar := Below.refl B w
  have hsz : B ≤ w.heap.size := by omega
  cases r with
  | false =>
    go_enter Tryz.func11, Tryz.ntmps11
    go_upto_region 1 with (fail)
    refine wp_gen (fun W => Blk W (B) (arrV E) 36 ∧ Blk W (B + 1) (arrV b) 32 ∧ Blk W (B + 1 + 1) ((List.toArray (Value.int .i64 0 :: Value.int .i64 0 :: Value.int .i64 0 :: Value.int .i64 0 :: Value.int .i64 0 :: Value.int .i64 0 :: Value.int .i64 0 :: Value.int .i64 0 :: Value.int .i64 0 :: Value.int .i64 0 :: Value.int .i64 0 :: Value.int .i64 0 :: Value.int .i64 0 :: Value.int .i64 0 :: Value.int .i64 0 :: Value.int .i64 0 :: Value.int .i64 0 :: Value.int .i64 0 :: Value.int .i64 0 :: Value.int .i64 0 :: Value.int .i64 0 :: Value.int .i64 0 :: Value.int .i64 0 :: Value.int .i64 0 :: Value.int .i64 0 :: Value.int .i64 0 :: Value.int .i64 0 :: Value.int .i64 0 :: Value.int .i64 0 :: Value.int .i64 0 :: Value.int .i64 0 :: Value.int .i64 0 :: Value.int .i64 0 :: Value.int .i64 0 :: Value.int .i64 0 :: Value.int .i64 0 :: Value.int .i64 0 :: Value.int .i64 0 :: Value.int .i64 0 :: Value.int .i64 0 :: Value.int .i64 0 :: Value.int .i64 0 :: Value.int .i64 0 :: Value.int .i64 0 :: Value.int .i64 0 :: Value.int .i64 0 :: Value.int .i64 0 :: Value.int .i64 0 :: Value.int .i64 0 :: Value.int .i64 0 :: Value.int .i64 0 :: Value.int .i64 0 :: Value.int .i64 0 :: Value.int .i64 0 :: Value.int .i64 0 :: []))) 36 ∧ Below (B) w W ∧ B + 3 ≤ W.heap.size) ⟨bk_, bk_, bk_, bl_, sz_⟩ ?_
    clear hfar hsz
    rintro wa ⟨hA, hV, hO, hfar, hsz⟩
    go_upto_region 3 with (fail)
    go_wp2_with (refine ld 36 rfl (by rfl) w_EEnc rfl hA LE.sz ?_)
    refine (HER.out _).mono ?_
    rintro e w2 ⟨rfl, hb2⟩
    replace hA := hA.newB hb2
    replace hV := hV.newB hb2
    replace hO := hO.newB hb2
    replace hfar := hfar.trans (hb2.mono (by omega))
    replace hsz := Nat.le_trans hsz hb2.size
    go_upto_region 4 with (fail)
    go_wp2_with (first | (refine bd 36 rfl (by rfl) rfl eenc_zs ?_) | (refine st 36 rfl (by rfl) w_EEnc rfl rfl hO hz55 LZ.sz one_ ?_))
    exact bodyPost_ret (v := .tuple #[.string ⟨#[]⟩, .agg (arrV (zs 55)), .int .i64 1]) (res_tct Tryz.results11 rfl rfl w_EEnc (Blk.setRow hO) LZ.sz rfl) rfl ⟨rfl, by (try rw [hB]); exact Below.setRow hfar (by omega) _⟩
  | true =>
    cases q with
    | true => exact absurd ⟨rfl, rfl⟩ hno
    | false =>
      go_enter Tryz.func11, Tryz.ntmps11
      go_upto_region 1 with (fail)
      refine wp_gen (fun W => Blk W (B) (arrV E) 36 ∧ Blk W (B + 1) (arrV b) 32 ∧ Blk W (B + 1 + 1) ((List.toArray (Value.int .i64 0 :: Value.int .i64 0 :: Value.int .i64 0 :: Value.int .i64 0 :: Value.int .i64 0 :: Value.int .i64 0 :: Value.int .i64 0 :: Value.int .i64 0 :: Value.int .i64 0 :: Value.int .i64 0 :: Value.int .i64 0 :: Value.int .i64 0 :: Value.int .i64 0 :: Value.int .i64 0 :: Value.int .i64 0 :: Value.int .i64 0 :: Value.int .i64 0 :: Value.int .i64 0 :: Value.int .i64 0 :: Value.int .i64 0 :: Value.int .i64 0 :: Value.int .i64 0 :: Value.int .i64 0 :: Value.int .i64 0 :: Value.int .i64 0 :: Value.int .i64 0 :: Value.int .i64 0 :: Value.int .i64 0 :: Value.int .i64 0 :: Value.int .i64 0 :: Value.int .i64 0 :: Value.int .i64 0 :: Value.int .i64 0 :: Value.int .i64 0 :: Value.int .i64 0 :: Value.int .i64 0 :: Value.int .i64 0 :: Value.int .i64 0 :: Value.int .i64 0 :: Value.int .i64 0 :: Value.int .i64 0 :: Value.int .i64 0 :: Value.int .i64 0 :: Value.int .i64 0 :: Value.int .i64 0 :: Value.int .i64 0 :: Value.int .i64 0 :: Value.int .i64 0 :: Value.int .i64 0 :: Value.int .i64 0 :: Value.int .i64 0 :: Value.int .i64 0 :: Value.int .i64 0 :: Value.int .i64 0 :: Value.int .i64 0 :: []))) 36 ∧ Below (B) w W ∧ B + 3 ≤ W.heap.size) ⟨bk_, bk_, bk_, bl_, sz_⟩ ?_
      clear hfar hsz
      rintro wa ⟨hA, hV, hO, hfar, hsz⟩
      go_upto_region 3 with (fail)
      go_wp2_with (refine ld 36 rfl (by rfl) w_EEnc rfl hA LE.sz ?_)
      refine (HER.out _).mono ?_
      rintro e w2 ⟨rfl, hb2⟩
      replace hA := hA.newB hb2
      replace hV := hV.newB hb2
      replace hO := hO.newB hb2
      replace hfar := hfar.trans (hb2.mono (by omega))
      replace hsz := Nat.le_trans hsz hb2.size
      have hsp := sl_part hV 0 16 (by rw [LB.out]; omega) (by omega)
      rw [List.drop_zero, List.take_of_length_le (by rw [LB.out]; omega)] at hsp
      go_wp2_with fail
      refine (HEV.out _ _ (sl_sliceI hsp h3)).mono ?_
      rintro e w' ⟨rfl, rfl⟩
      clear hsp
      go_upto_region 4 with (fail)
      go_wp2_with (first | (refine bd 36 rfl (by rfl) rfl eenc_zs ?_) | (refine st 36 rfl (by rfl) w_EEnc rfl rfl hO hz55 LZ.sz one_ ?_))
      exact bodyPost_ret (v := .tuple #[.string ⟨#[]⟩, .agg (arrV (zs 55)), .int .i64 1]) (res_tct Tryz.results11 rfl rfl w_EEnc (Blk.setRow hO) LZ.sz rfl) rfl ⟨rfl, by (try rw [hB]); exact Below.setRow hfar (by omega) _⟩
end Go.Proofs.YthpjkgpngbdhbaaGreatDoor
