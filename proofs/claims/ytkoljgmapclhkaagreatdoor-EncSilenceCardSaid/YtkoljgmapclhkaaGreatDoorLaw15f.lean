/- The walk of spoollaw15.EncSilence: whatever comes in, it returns true. -/
import Derived.Test.YtkoljgmapclhkaaGreatDoorLaw15d
import Derived.Test.YtkoljgmapclhkaaGreatDoorAppZ
set_option linter.unusedSimpArgs false
set_option linter.unusedVariables false
namespace Go.Proofs.YtkoljgmapclhkaaGreatDoor
open Go.RowKit

theorem z16_at (j : Nat) : (#[.int .i64 0, .int .i64 0, .int .i64 0, .int .i64 0, .int .i64 0, .int .i64 0, .int .i64 0, .int .i64 0, .int .i64 0, .int .i64 0, .int .i64 0, .int .i64 0, .int .i64 0, .int .i64 0, .int .i64 0, .int .i64 0] : Array Value)[j % 16]! = .int .i64 0 := by
  have h : j % 16 < 16 := Nat.mod_lt _ (by omega)
  generalize j % 16 = r at h
  match r, h with
  | 0, _ | 1, _ | 2, _ | 3, _ | 4, _ | 5, _ | 6, _ | 7, _ | 8, _ | 9, _ | 10, _ | 11, _ | 12, _ | 13, _ | 14, _ | 15, _ => rfl
  | r + 16, h => exact absurd h (by omega)
theorem made_blocks (n : Nat) : (madeCells #[.int .i64 0, .int .i64 0, .int .i64 0, .int .i64 0, .int .i64 0, .int .i64 0, .int .i64 0, .int .i64 0, .int .i64 0, .int .i64 0, .int .i64 0, .int .i64 0, .int .i64 0, .int .i64 0, .int .i64 0, .int .i64 0] (n * 16)).toList = (List.replicate n z16).flatMap intsV := by
  have e1 : (madeCells #[.int .i64 0, .int .i64 0, .int .i64 0, .int .i64 0, .int .i64 0, .int .i64 0, .int .i64 0, .int .i64 0, .int .i64 0, .int .i64 0, .int .i64 0, .int .i64 0, .int .i64 0, .int .i64 0, .int .i64 0, .int .i64 0] (n * 16)).toList = List.replicate (n * 16) (Value.int .i64 0) := by
    unfold madeCells
    rw [Array.toList_map, Array.toList_range]
    have hm : (List.range (n * 16)).map (fun x => (#[.int .i64 0, .int .i64 0, .int .i64 0, .int .i64 0, .int .i64 0, .int .i64 0, .int .i64 0, .int .i64 0, .int .i64 0, .int .i64 0, .int .i64 0, .int .i64 0, .int .i64 0, .int .i64 0, .int .i64 0, .int .i64 0] : Array Value)[x % (#[.int .i64 0, .int .i64 0, .int .i64 0, .int .i64 0, .int .i64 0, .int .i64 0, .int .i64 0, .int .i64 0, .int .i64 0, .int .i64 0, .int .i64 0, .int .i64 0, .int .i64 0, .int .i64 0, .int .i64 0, .int .i64 0] : Array Value).size]!) = (List.range (n * 16)).map (fun _ => Value.int .i64 0) := List.map_congr_left fun j _ => z16_at j
    rw [hm, List.map_const', List.length_range]
  have e2 : intsV z16 = List.replicate 16 (Value.int .i64 0) := rfl
  rw [e1, List.flatMap_replicate, e2, List.flatten_replicate_replicate]
theorem zero_blocks (k : Nat) : (Builtin.zeroCells (Value.agg #[.int .i64 0, .int .i64 0, .int .i64 0, .int .i64 0, .int .i64 0, .int .i64 0, .int .i64 0, .int .i64 0, .int .i64 0, .int .i64 0, .int .i64 0, .int .i64 0, .int .i64 0, .int .i64 0, .int .i64 0, .int .i64 0]).cells k).toList = (List.replicate k z16).flatMap intsV := made_blocks k
/-- A slice of frames of noughts made. -/
theorem mkb {ops : Array Oper} {rest : List Oper} {op : Oper} {a : Act} {w : World} {Q : Exit → Act → World → Prop} {x y : Operand}
    (ho : op.op = .makeSlice 24 x y) (hwd : Region.wanted op (yielded ops a.tmps) = true) {n : Nat} (hn : n ≤ 1000) (hx : a.eval x = .int .i64 n) (hy : a.eval y = .int .i64 n)
    (h : wpList Tryz.prog ops Q rest (a.put op.dst (.slice (some ⟨w.heap.size, 0, none⟩) n n)) (w.alloc (.cells (madeCells #[.int .i64 0, .int .i64 0, .int .i64 0, .int .i64 0, .int .i64 0, .int .i64 0, .int .i64 0, .int .i64 0, .int .i64 0, .int .i64 0, .int .i64 0, .int .i64 0, .int .i64 0, .int .i64 0, .int .i64 0, .int .i64 0] (n * 16)) 26))) : wpList Tryz.prog ops Q (op :: rest) a w :=
  wpList_step fun K hK => by
    rw [if_pos hwd]
    obtain ⟨i0, hi, hz0, hz1, hz2⟩ := info_parts info_Block
    have hr := run_makeSlice (P := Tryz.prog) w 24 26 i0 (.agg #[.int .i64 0, .int .i64 0, .int .i64 0, .int .i64 0, .int .i64 0, .int .i64 0, .int .i64 0, .int .i64 0, .int .i64 0, .int .i64 0, .int .i64 0, .int .i64 0, .int .i64 0, .int .i64 0, .int .i64 0, .int .i64 0]) Tryz.underlying24 hi hz0 .i64 .i64 n n (by omega) (Int.le_refl _) (by rw [hz1]; omega) (by rw [hz2]; omega) (by omega)
    rw [hz1] at hr
    simp only [Int.toNat_natCast] at hr
    unfold Oper.wp execOp
    simp only [ho, hx, hy, Sem.run_bind, hr, Result.andThen_ok]
    exact hK _ _ h
theorem nqw {ops : Array Oper} {rest : List Oper} {op : Oper} {a : Act} {w : World} {Q : Exit → Act → World → Prop} (t : TypeId) {t2 : TypeId} {x y : Operand} (ho : op.op = .binOp .neq t x y t2) (hwd : Region.wanted op (yielded ops a.tmps) = true)
    {xs ys : Array Value} (hx : a.eval x = .agg xs) (hy : a.eval y = .agg ys) (hg : Tryz.prog.eqGuardType Tryz.prog.depth t = false) (he : ∀ w, (Op.equalIn 10000 t (.agg xs) (.agg ys)).run Tryz.prog w = .ok true w)
    (h : wpList Tryz.prog ops Q rest (a.put op.dst (.bool false)) w) : wpList Tryz.prog ops Q (op :: rest) a w :=
  wpList_step fun K hK => by
    rw [if_pos hwd]
    unfold Oper.wp execOp
    simp only [ho, hx, hy, Sem.run_bind, run_eqGuard_agg w .neq t x y xs ys hg, Result.andThen_ok, run_neq_struct, he, Oper.upon]
    exact hK _ _ h
set_option maxRecDepth 100000 in
set_option maxHeartbeats 40000000 in
theorem EncSilence_any (b : List Int) (h3 : b.length = 16) (sz ct : Int) (hs : 0 ≤ sz ∧ sz ≤ 255) (hc : 0 ≤ ct ∧ ct ≤ 255) (w : World) (hW : BandsW w) :
    Calls Tryz.prog 3 #[.agg (arrV b), .int .u8 sz, .int .u8 ct] w fun e w' => e = .returned (.bool true) ∧ Below w.heap.size w w' := by
  obtain ⟨m, hm, hm22⟩ := size23 hs
  obtain ⟨q, hq, hq20⟩ : ∃ q : Nat, ct.tmod 20 = q ∧ q < 20 := by
    have h1 := Int.tmod_lt_of_pos ct (show (0 : Int) < 20 by decide)
    have h2 := Int.tmod_nonneg (a := ct) 20 hc.1
    exact ⟨(ct.tmod 20).toNat, by omega, by omega⟩
  have hb16 := frame_s16 h3
  have hzq : ∀ c ∈ List.replicate q z16, S16 c := fun c hc => by rw [(List.mem_replicate.1 hc).2]; exact z16_s16
  have hal := fun p lo hi cap w hW hB => All_sl hm22 (l := List.replicate q z16) (n := q) List.length_replicate (by omega) hzq p lo hi cap w hW hB
  have hsa := fun k => silent_all (size := 10 + m) (by omega) (by omega) k
  have hsn := silent_next (size := 10 + m) (by omega) (by omega)
  rw [hsa q, e0_zs] at hal
  have hst : ∀ i, i < q → ∃ P : ByteArray, (allE (10 + m) e0 (List.replicate q z16)).1[i]? = some P ∧ ∀ w, BandsW w → Calls Tryz.prog 11 #[.agg (arrV (zs 38)), .string P] w fun e w' => e = .returned (.tuple #[.agg (arrV (zs 16)), .agg (arrV (zs 38)), .int .i64 0]) ∧ Below w.heap.size w w' := fun i hi => by
    obtain ⟨P, O, q1, q2, _, _, _, q6, q7⟩ := dec_step (size := 10 + m) (by omega) (by omega) hzq (i := i) (by rw [List.length_replicate]; exact hi)
    have ho := q7 z16 (by rw [List.getElem?_replicate, if_pos hi])
    have ht : ∀ k, k ≤ q → (List.replicate q z16).take k = List.replicate k z16 := fun k hk => by rw [List.take_replicate, Nat.min_eq_left hk]
    rw [ht i (by omega), hsa i, hsn.2] at ho
    rw [ht i (by omega), ht (i + 1) (by omega), hsa i, hsa (i + 1), ho] at q6
    exact ⟨P, q1, q6⟩
  obtain ⟨PS, hPS⟩ : ∃ PS, (allE (10 + m) e0 (List.replicate q z16)).1 = PS := ⟨_, rfl⟩
  simp only [hPS] at hal hst
  -- the frames behind sound
  obtain ⟨F, hF⟩ : ∃ F, frame b :: List.replicate 60 z16 = F := ⟨_, rfl⟩
  have hFl : F.length = 61 := by rw [← hF]; simp
  have hF16 : ∀ c ∈ F, S16 c := fun c hc => by
    rw [← hF] at hc
    rcases List.mem_cons.1 hc with rfl | hc
    · exact hb16
    · rw [(List.mem_replicate.1 hc).2]; exact z16_s16
  have hal2 := fun p lo hi cap w hW hB => All_sl hm22 (l := F) (n := 61) hFl (by omega) hF16 p lo hi cap w hW hB
  have hst2 := fun i (hi : i < 61) => dec_step (size := 10 + m) (by omega) (by omega) hF16 (i := i) (by omega)
  have hend : outE (10 + m) (allE (10 + m) e0 (F.take 60)).2 z16 = zs 16 := by
    have ht : F.take 60 = frame b :: List.replicate 59 z16 := by rw [← hF]; simp [List.take_succ_cons, List.take_replicate]
    rw [ht]; exact silent_end (by omega) (by omega) hb16
  have hF60 : F[60]? = some z16 := by rw [← hF]; simp [List.getElem?_replicate]
  have hLX2 := (allE_ok (size := 10 + m) (by omega) (by omega) F e0 e0_ok hF16).1
  have LX2 := Len.mk (est_len hLX2)
  obtain ⟨X2, hX2⟩ : ∃ X, (allE (10 + m) e0 F).2.l = X := ⟨_, rfl⟩
  obtain ⟨SF, hSF⟩ : ∃ SF : Nat → List Int, (fun i => (allE (10 + m) e0 (F.take i)).2.L) = SF := ⟨_, rfl⟩
  have hSFi : ∀ i, (allE (10 + m) e0 (F.take i)).2.L = SF i := fun i => by rw [← hSF]
  have hs0 : SF 0 = zs 38 := by rw [← hSFi]; rfl
  obtain ⟨OF, hOF⟩ : ∃ OF : Nat → List Int, (fun i => match i with | 0 => zs 16 | j + 1 => outE (10 + m) (allE (10 + m) e0 (F.take j)).2 (F.getD j [])) = OF := ⟨_, rfl⟩
  have ho0 : OF 0 = zs 16 := by rw [← hOF]
  have ho61 : OF 61 = zs 16 := by
    rw [← hOF]
    show outE (10 + m) (allE (10 + m) e0 (F.take 60)).2 (F.getD 60 []) = _
    rw [List.getD_eq_getElem?_getD, hF60]; exact hend
  obtain ⟨QS, hQS⟩ : ∃ QS, (allE (10 + m) e0 F).1 = QS := ⟨_, rfl⟩
  have hst3 : ∀ i, i < 61 → ∃ (P : ByteArray), QS[i]? = some P ∧ Len (OF (i + 1)) 16 ∧ Len (SF i) 38 ∧ Len (SF (i + 1)) 38 ∧ (∀ w, BandsW w → Calls Tryz.prog 11 #[.agg (arrV (SF i)), .string P] w fun e w' => e = .returned (.tuple #[.agg (arrV (OF (i + 1))), .agg (arrV (SF (i + 1))), .int .i64 0]) ∧ Below w.heap.size w w') := fun i hi => by
    obtain ⟨P, O, q1, q2, q3, q4, q5, q6, q7⟩ := hst2 i hi
    obtain ⟨c, hcg⟩ : ∃ c, F[i]? = some c := ⟨_, List.getElem?_eq_getElem (by omega)⟩
    have ho : OF (i + 1) = O := by
      rw [← hOF, q7 c hcg]
      show outE (10 + m) (allE (10 + m) e0 (F.take i)).2 (F.getD i []) = _
      rw [List.getD_eq_getElem?_getD, hcg]; rfl
    simp only [hSFi] at q4 q5 q6
    rw [hQS] at q1
    exact ⟨P, q1, by rw [ho]; exact q3, q4, q5, by rw [ho]; exact q6⟩
  simp only [hX2, hQS] at hal2
  rw [hX2] at LX2
  have hflat : intsV (frame b) ++ (List.replicate 60 z16).flatMap intsV = F.flatMap intsV := by rw [← hF, List.flatMap_cons]
  have hfr := fun p cap w h => Frames_any [b] p cap w h
  have hone : (frames [b]).flatMap intsV = intsV (frame b) := by simp [frames_one]
  simp only [hone] at hfr
  have LB := Len.mk h3
  have HAL := Lib.hid hal
  have HST := Lib.hid hst
  have HAL2 := Lib.hid hal2
  have HST3 := Lib.hid hst3
  have HFR := Lib.hid hfr
  have HFLAT := Lib.hid hflat
  have HO0 := Lib.hid ho0
  have HO61 := Lib.hid ho61
  have HS0 := Lib.hid hs0
  clear hal hst hal2 hst2 hst3 hfr hflat hone ho0 ho61 hs0 hOF hSFi hSF hX2 hLX2 hF60 hend hF16 hFl hF hPS hQS hsa hsn hzq hb16 h3
  have hz55 : ((List.toArray (Value.int .i64 0 :: Value.int .i64 0 :: Value.int .i64 0 :: Value.int .i64 0 :: Value.int .i64 0 :: Value.int .i64 0 :: Value.int .i64 0 :: Value.int .i64 0 :: Value.int .i64 0 :: Value.int .i64 0 :: Value.int .i64 0 :: Value.int .i64 0 :: Value.int .i64 0 :: Value.int .i64 0 :: Value.int .i64 0 :: Value.int .i64 0 :: Value.int .i64 0 :: Value.int .i64 0 :: Value.int .i64 0 :: Value.int .i64 0 :: Value.int .i64 0 :: Value.int .i64 0 :: Value.int .i64 0 :: Value.int .i64 0 :: Value.int .i64 0 :: Value.int .i64 0 :: Value.int .i64 0 :: Value.int .i64 0 :: Value.int .i64 0 :: Value.int .i64 0 :: Value.int .i64 0 :: Value.int .i64 0 :: Value.int .i64 0 :: Value.int .i64 0 :: Value.int .i64 0 :: Value.int .i64 0 :: Value.int .i64 0 :: Value.int .i64 0 :: Value.int .i64 0 :: Value.int .i64 0 :: Value.int .i64 0 :: Value.int .i64 0 :: Value.int .i64 0 :: Value.int .i64 0 :: Value.int .i64 0 :: Value.int .i64 0 :: Value.int .i64 0 :: Value.int .i64 0 :: Value.int .i64 0 :: Value.int .i64 0 :: Value.int .i64 0 :: Value.int .i64 0 :: Value.int .i64 0 :: Value.int .i64 0 :: Value.int .i64 0 :: [])) : Array Value).size = 55 := by rfl
  have LZ := Len.zs 55
  have hBW : Blk w 0 bandE 164 := hW
  have h0 : 0 < w.heap.size := hW.lt
  obtain ⟨B, hB⟩ : ∃ B, w.heap.size = B := ⟨_, rfl⟩
  rw [hB] at h0
  have hfar := Below.refl B w
  have hsz : B ≤ w.heap.size := by omega
  go_enter Tryz.func3, Tryz.ntmps3
  go_upto_region 1 with (fail)
  refine wp_gen (fun W => Blk W (0) (bandE) 164 ∧ Blk W (B) (arrV b) 22 ∧ Below (B) w W ∧ B + 1 ≤ W.heap.size) ⟨bk_, bk_, bl_, sz_⟩ ?_
  clear hBW hfar hsz
  rintro wa ⟨hBW, hb, hfar, hsz⟩
  go_wp2_with fail
  refine (awake15_any _ hBW).mono ?_
  rintro e w1 ⟨rfl, hb1⟩
  replace hBW := hBW.newB hb1
  replace hb := hb.newB hb1
  replace hfar := hfar.trans (hb1.mono (by omega))
  replace hsz := Nat.le_trans hsz hb1.size
  go_upto_region 5 with (refine mkb rfl (by rfl) (by omega) rfl rfl ?_)
  obtain ⟨W1, hW1⟩ : ∃ W, w1.heap.size = W := ⟨_, rfl⟩
  have hBW1 : B + 1 ≤ W1 := by omega
  refine wp_gen (fun W => Blk W (0) (bandE) 164 ∧ Blk W (B) (arrV b) 22 ∧ Blk W (W1) (madeCells #[.int .i64 0, .int .i64 0, .int .i64 0, .int .i64 0, .int .i64 0, .int .i64 0, .int .i64 0, .int .i64 0, .int .i64 0, .int .i64 0, .int .i64 0, .int .i64 0, .int .i64 0, .int .i64 0, .int .i64 0, .int .i64 0] (q * 16)) 26 ∧ Below (B) w W ∧ W1 + 1 ≤ W.heap.size) ⟨bk_, bk_, bk_, bl_, sz_⟩ ?_
  clear hBW hb hfar hsz
  rintro wm ⟨hBW, hb, hZ, hfar, hsz⟩
  have hZs : SL wm W1 (W1 + 1) 16 (some ⟨W1, 0, none⟩) q q ((List.replicate q z16).flatMap intsV) := by
    rw [← made_blocks]
    exact SL.blk hZ (by rw [size_madeCells]) (by unfold maxLen; omega)
  try rw [hW1]
  go_wp2_with fail
  refine (HAL.out _ _ _ _ _ hBW hZs).mono ?_
  rintro e w3 ⟨pS, cS, loS, hiS, rfl, hsS, hloS, hhiS, hb3⟩
  clear hZs
  clear hZ
  have hloS2 : B + 1 ≤ loS := by omega
  clear hloS
  replace hBW := hBW.newB hb3
  replace hb := hb.newB hb3
  replace hfar := hfar.trans (hb3.mono (by omega))
  replace hsz := Nat.le_trans hsz hb3.size
  obtain ⟨G, hG⟩ : ∃ G, w3.heap.size = G := ⟨_, rfl⟩
  have hBG : B + 1 ≤ G := by omega
  rw [hG] at hhiS
  go_upto_region 6 with (refine st 31 rfl (by rfl) w_EEnc rfl rfl bk_ hz55 LZ.sz one_ ?_)
  refine wp_gen (fun W => Blk W (0) (bandE) 164 ∧ Blk W (B) (arrV b) 22 ∧ SL W (loS) (hiS) (1) (pS) (q) (cS) (strsV PS) ∧ Blk W (G) (arrV (zs 55)) 31 ∧ Below (B) w W ∧ G + 1 ≤ W.heap.size) ⟨bk_, bk_, sl_, bk_, bl_, sz_⟩ ?_
  clear hBW hb hsS hfar hsz
  rintro w4 ⟨hBW, hb, hsS, hX, hfar, hsz⟩
  obtain ⟨G2, hG2⟩ : ∃ g, w4.heap.size = g := ⟨_, rfl⟩
  have hGG : G + 1 ≤ G2 := by omega
  go_upto_region 9 with ((first | (refine ld 31 rfl (by rfl) w_EEnc rfl hX LZ.sz ?_) | (refine bd 31 rfl (by rfl) rfl eenc_zs ?_) | (refine nqw 31 rfl (by rfl) rfl rfl eg_EEnc (eq_eenc LZ) ?_)); try simp only [Act.put, sa, List.set_cons_zero, List.set_cons_succ])
  clear hX
  refine wp_gen (fun W => Blk W (0) (bandE) 164 ∧ Blk W (B) (arrV b) 22 ∧ SL W (loS) (hiS) (1) (pS) (q) (cS) (strsV PS) ∧ Blk W (G2) (arrV (zs 38)) 29 ∧ Below (B) w W ∧ G2 + 1 ≤ W.heap.size) ⟨bk_, bk_, sl_, bk_, bl_, sz_⟩ ?_
  clear hBW hb hsS hfar hsz
  rintro w5 ⟨hBW, hb, hsS, hS, hfar, hsz⟩
  go_wp2_with fail
  go_loopw [13] (fun j wr => ∃ i : Nat, i ≤ q ∧ j = .int .i64 i ∧ Blk wr 0 bandE 164 ∧ SL wr loS hiS 1 pS q cS (strsV PS) ∧ Blk wr B (arrV b) 22 ∧ Blk wr G2 (arrV (zs 38)) 29 ∧ Below B w wr ∧ G2 + 1 ≤ wr.heap.size) (fun j _ => q - (intOf j).toNat)
  case atStart => exact ⟨0, by omega, rfl, hBW, hsS, hb, hS, hfar, hsz⟩
  case round =>
    clear hBW hsS hb hS hfar hsz
    obtain ⟨i, hi, rfl, hBW, hsS, hb, hS, hfar, hsz⟩ := hrel
    by_cases hlt : i < q
    · obtain ⟨P, q1, hde⟩ := HST.out i hlt
      have hlti : (i : Int) < q := by omega
      obtain ⟨gS, oS, rfl, -, -, -⟩ := hsS.form (by omega)
      have hcn : q ≤ cS := hsS.2.1
      have hcm := hsS.2.2.1
      unfold maxLen at hcm
      have HD := Lib.hid hde
      have HQ1 := Lib.hid q1
      clear hde q1
      go_upto_region 12 with (fail)
      go_cut [14, 15, 16] from 50 to 73 (fun s14 s15 s16 wx => ∃ g1 g2, s14 = .pointer (some ⟨g1, 0, none⟩) ∧ s15 = .pointer (some ⟨g2, 0, none⟩) ∧ s16 = .int .i64 0 ∧ Blk wx g1 (arrV (zs 16)) 26 ∧ Blk wx g2 (arrV (zs 38)) 29 ∧ Blk wx 0 bandE 164 ∧ SL wx loS hiS 1 (some ⟨gS, oS, none⟩) q cS (strsV PS) ∧ Blk wx B (arrV b) 22 ∧ Blk wx G2 (arrV (zs 38)) 29 ∧ Below B w wx ∧ G2 + 1 ≤ wx.heap.size ∧ G2 < g2)
      case first =>
        refine wp_region_held_drew (S := fun W => Blk W (0) (bandE) 164 ∧ SL W (loS) (hiS) (1) (some ⟨gS, oS, none⟩) (q) (cS) (strsV PS) ∧ Blk W (B) (arrV b) 22 ∧ Blk W (G2) (arrV (zs 38)) 29 ∧ Below (B) w W ∧ G2 + 1 ≤ W.heap.size) (by kernel_rfl) (⟨hBW.drew, hsS.drew, hb.drew, hS.drew, hfar.drew, hsz⟩) (fun hH => ?_)
        have hH2 := hH
        obtain ⟨hBW, hsS, hb, hS, hfar, hsz⟩ := hH2
        refine tk 0 hH (v := .agg (arrV (zs 38))) (y := (yieldsIf_ld (by rfl) 29 rfl w_State rfl (fun _ hS => hS.2.2.2.1) zz_)) (k := ?_)
        refine tk 1 hH (y := yp) (k := ?_)
        refine tk 2 hH (y := yp) (k := ?_)
        refine tk 3 hH (y := yp) (k := ?_)
        refine tk 4 hH (y := (.inl ⟨by rfl, fun w hS => by (have c := hS.2.1.str HQ1.out; go_simp; try rfl)⟩)) (k := ?_)
        refine wpAnyH_ready (rs := [5, 10, 11]) (by kernel_rfl) (by simp) ?_
        refine rc (h := fun K hK => ?_) (r := ?_)
        · go_simp
          refine (HD.out _ hBW).mono ?_
          rintro r wq ⟨rfl, hb⟩
          have hbs := hb.size
          try simp only [World.size_alloc, World.size_setCell, World.size_drew, size_setRow] at hbs
          go_wp2_with fail
          refine hK.out _ _ ⟨bk_, sl_, bk_, bk_, bl_, Nat.le_trans (sz_) hb.size⟩ (fun hH2 => ?_)
          clear hH
          have hH := hH2
          obtain ⟨hBW, hsS, hb, hS, hfar, hsz⟩ := hH2
          clear hK K
          try simp only [Act.put, sa, List.set_cons_zero, List.set_cons_succ]
          refine tk 6 hH (y := yp) (k := ?_)
          refine tk 7 hH (y := yp) (k := ?_)
          refine tk 8 hH (y := yp) (k := ?_)
          refine tk 9 hH (y := yp) (k := ?_)
          refine wpAnyH_ready (rs := [10, 11]) (by kernel_rfl) (by simp) ?_
          refine rc (h := fun K hK => ?_) (r := ?_)
          · go_simp
            refine hK.out _ _ ⟨bk_, sl_, bk_, bk_, bl_, sz_⟩ (fun hH2 => ?_)
            clear hH
            have hH := hH2
            obtain ⟨hBW, hsS, hb, hS, hfar, hsz⟩ := hH2
            clear hK K
            try simp only [Act.put, sa, List.set_cons_zero, List.set_cons_succ]
            refine wpAnyH_ready (rs := [11]) (by kernel_rfl) (by simp) ?_
            refine rc (h := fun K hK => ?_) (r := AllReadyH.nil)
            go_simp
            refine hK.out _ _ ⟨bk_, sl_, bk_, bk_, bl_, sz_⟩ (fun hH2 => ?_)
            clear hH
            have hH := hH2
            obtain ⟨hBW, hsS, hb, hS, hfar, hsz⟩ := hH2
            clear hK K
            try simp only [Act.put, sa, List.set_cons_zero, List.set_cons_succ]
            refine wpAnyH_ready (rs := [12]) (by kernel_rfl) (by simp) ?_
            refine rc (h := fun K hK => ?_) (r := AllReadyH.nil)
            refine wp_st 26 rfl w_Block rfl rfl bk_ zz_ zz_ one_ ?_
            refine hK.out _ _ ⟨bk_, sl_, bk_, bk_, bl_, sz_⟩ (fun hH2 => ?_)
            clear hH
            have hH := hH2
            obtain ⟨hBW, hsS, hb, hS, hfar, hsz⟩ := hH2
            clear hK K
            try simp only [Act.put]
            refine wpAnyH_ready (rs := [13]) (by kernel_rfl) (by simp) ?_
            refine rc (h := fun K hK => ?_) (r := AllReadyH.nil)
            refine wp_st 29 rfl w_State rfl rfl bk_ zz_ zz_ one_ ?_
            refine hK.out _ _ ⟨bk_, sl_, bk_, bk_, bl_, sz_⟩ (fun hH2 => ?_)
            clear hH
            have hH := hH2
            obtain ⟨hBW, hsS, hb, hS, hfar, hsz⟩ := hH2
            clear hK K
            try simp only [Act.put]
            refine tk 14 hH (y := yp) (k := ?_)
            refine wpAnyH_done (by kernel_rfl) ?_ _
            go_wp2_with fail
            go_meet
            case rel => exact ⟨_, _, rfl, rfl, rfl, by exact bk_, by exact bk_, by exact bk_, by exact sl_, by exact bk_, by exact bk_, by exact bl_, by exact sz_, by exact sz_⟩
          refine rc (h := fun K hK => ?_) (r := AllReadyH.nil)
          go_simp
          refine hK.out _ _ ⟨bk_, sl_, bk_, bk_, bl_, sz_⟩ (fun hH2 => ?_)
          clear hH
          have hH := hH2
          obtain ⟨hBW, hsS, hb, hS, hfar, hsz⟩ := hH2
          clear hK K
          try simp only [Act.put, sa, List.set_cons_zero, List.set_cons_succ]
          refine wpAnyH_ready (rs := [10]) (by kernel_rfl) (by simp) ?_
          refine rc (h := fun K hK => ?_) (r := AllReadyH.nil)
          go_simp
          refine hK.out _ _ ⟨bk_, sl_, bk_, bk_, bl_, sz_⟩ (fun hH2 => ?_)
          clear hH
          have hH := hH2
          obtain ⟨hBW, hsS, hb, hS, hfar, hsz⟩ := hH2
          clear hK K
          try simp only [Act.put, sa, List.set_cons_zero, List.set_cons_succ]
          refine wpAnyH_ready (rs := [12]) (by kernel_rfl) (by simp) ?_
          refine rc (h := fun K hK => ?_) (r := AllReadyH.nil)
          refine wp_st 26 rfl w_Block rfl rfl bk_ zz_ zz_ one_ ?_
          refine hK.out _ _ ⟨bk_, sl_, bk_, bk_, bl_, sz_⟩ (fun hH2 => ?_)
          clear hH
          have hH := hH2
          obtain ⟨hBW, hsS, hb, hS, hfar, hsz⟩ := hH2
          clear hK K
          try simp only [Act.put]
          refine wpAnyH_ready (rs := [13]) (by kernel_rfl) (by simp) ?_
          refine rc (h := fun K hK => ?_) (r := AllReadyH.nil)
          refine wp_st 29 rfl w_State rfl rfl bk_ zz_ zz_ one_ ?_
          refine hK.out _ _ ⟨bk_, sl_, bk_, bk_, bl_, sz_⟩ (fun hH2 => ?_)
          clear hH
          have hH := hH2
          obtain ⟨hBW, hsS, hb, hS, hfar, hsz⟩ := hH2
          clear hK K
          try simp only [Act.put]
          refine tk 14 hH (y := yp) (k := ?_)
          refine wpAnyH_done (by kernel_rfl) ?_ _
          go_wp2_with fail
          go_meet
          case rel => exact ⟨_, _, rfl, rfl, rfl, by exact bk_, by exact bk_, by exact bk_, by exact sl_, by exact bk_, by exact bk_, by exact bl_, by exact sz_, by exact sz_⟩
        refine rc (h := fun K hK => ?_) (r := ?_)
        · go_simp
          refine hK.out _ _ ⟨bk_, sl_, bk_, bk_, bl_, sz_⟩ (fun hH2 => ?_)
          clear hH
          have hH := hH2
          obtain ⟨hBW, hsS, hb, hS, hfar, hsz⟩ := hH2
          clear hK K
          try simp only [Act.put, sa, List.set_cons_zero, List.set_cons_succ]
          refine wpAnyH_ready (rs := [5, 11]) (by kernel_rfl) (by simp) ?_
          refine rc (h := fun K hK => ?_) (r := ?_)
          · go_simp
            refine (HD.out _ hBW).mono ?_
            rintro r wq ⟨rfl, hb⟩
            have hbs := hb.size
            try simp only [World.size_alloc, World.size_setCell, World.size_drew, size_setRow] at hbs
            go_wp2_with fail
            refine hK.out _ _ ⟨bk_, sl_, bk_, bk_, bl_, Nat.le_trans (sz_) hb.size⟩ (fun hH2 => ?_)
            clear hH
            have hH := hH2
            obtain ⟨hBW, hsS, hb, hS, hfar, hsz⟩ := hH2
            clear hK K
            try simp only [Act.put, sa, List.set_cons_zero, List.set_cons_succ]
            refine tk 6 hH (y := yp) (k := ?_)
            refine tk 7 hH (y := yp) (k := ?_)
            refine tk 8 hH (y := yp) (k := ?_)
            refine tk 9 hH (y := yp) (k := ?_)
            refine wpAnyH_ready (rs := [11]) (by kernel_rfl) (by simp) ?_
            refine rc (h := fun K hK => ?_) (r := AllReadyH.nil)
            go_simp
            refine hK.out _ _ ⟨bk_, sl_, bk_, bk_, bl_, sz_⟩ (fun hH2 => ?_)
            clear hH
            have hH := hH2
            obtain ⟨hBW, hsS, hb, hS, hfar, hsz⟩ := hH2
            clear hK K
            try simp only [Act.put, sa, List.set_cons_zero, List.set_cons_succ]
            refine wpAnyH_ready (rs := [12]) (by kernel_rfl) (by simp) ?_
            refine rc (h := fun K hK => ?_) (r := AllReadyH.nil)
            refine wp_st 26 rfl w_Block rfl rfl bk_ zz_ zz_ one_ ?_
            refine hK.out _ _ ⟨bk_, sl_, bk_, bk_, bl_, sz_⟩ (fun hH2 => ?_)
            clear hH
            have hH := hH2
            obtain ⟨hBW, hsS, hb, hS, hfar, hsz⟩ := hH2
            clear hK K
            try simp only [Act.put]
            refine wpAnyH_ready (rs := [13]) (by kernel_rfl) (by simp) ?_
            refine rc (h := fun K hK => ?_) (r := AllReadyH.nil)
            refine wp_st 29 rfl w_State rfl rfl bk_ zz_ zz_ one_ ?_
            refine hK.out _ _ ⟨bk_, sl_, bk_, bk_, bl_, sz_⟩ (fun hH2 => ?_)
            clear hH
            have hH := hH2
            obtain ⟨hBW, hsS, hb, hS, hfar, hsz⟩ := hH2
            clear hK K
            try simp only [Act.put]
            refine tk 14 hH (y := yp) (k := ?_)
            refine wpAnyH_done (by kernel_rfl) ?_ _
            go_wp2_with fail
            go_meet
            case rel => exact ⟨_, _, rfl, rfl, rfl, by exact bk_, by exact bk_, by exact bk_, by exact sl_, by exact bk_, by exact bk_, by exact bl_, by exact sz_, by exact sz_⟩
          refine rc (h := fun K hK => ?_) (r := AllReadyH.nil)
          go_simp
          refine hK.out _ _ ⟨bk_, sl_, bk_, bk_, bl_, sz_⟩ (fun hH2 => ?_)
          clear hH
          have hH := hH2
          obtain ⟨hBW, hsS, hb, hS, hfar, hsz⟩ := hH2
          clear hK K
          try simp only [Act.put, sa, List.set_cons_zero, List.set_cons_succ]
          refine wpAnyH_ready (rs := [5]) (by kernel_rfl) (by simp) ?_
          refine rc (h := fun K hK => ?_) (r := AllReadyH.nil)
          go_simp
          refine (HD.out _ hBW).mono ?_
          rintro r wq ⟨rfl, hb⟩
          have hbs := hb.size
          try simp only [World.size_alloc, World.size_setCell, World.size_drew, size_setRow] at hbs
          go_wp2_with fail
          refine hK.out _ _ ⟨bk_, sl_, bk_, bk_, bl_, Nat.le_trans (sz_) hb.size⟩ (fun hH2 => ?_)
          clear hH
          have hH := hH2
          obtain ⟨hBW, hsS, hb, hS, hfar, hsz⟩ := hH2
          clear hK K
          try simp only [Act.put, sa, List.set_cons_zero, List.set_cons_succ]
          refine tk 6 hH (y := yp) (k := ?_)
          refine tk 7 hH (y := yp) (k := ?_)
          refine tk 8 hH (y := yp) (k := ?_)
          refine tk 9 hH (y := yp) (k := ?_)
          refine wpAnyH_ready (rs := [12]) (by kernel_rfl) (by simp) ?_
          refine rc (h := fun K hK => ?_) (r := AllReadyH.nil)
          refine wp_st 26 rfl w_Block rfl rfl bk_ zz_ zz_ one_ ?_
          refine hK.out _ _ ⟨bk_, sl_, bk_, bk_, bl_, sz_⟩ (fun hH2 => ?_)
          clear hH
          have hH := hH2
          obtain ⟨hBW, hsS, hb, hS, hfar, hsz⟩ := hH2
          clear hK K
          try simp only [Act.put]
          refine wpAnyH_ready (rs := [13]) (by kernel_rfl) (by simp) ?_
          refine rc (h := fun K hK => ?_) (r := AllReadyH.nil)
          refine wp_st 29 rfl w_State rfl rfl bk_ zz_ zz_ one_ ?_
          refine hK.out _ _ ⟨bk_, sl_, bk_, bk_, bl_, sz_⟩ (fun hH2 => ?_)
          clear hH
          have hH := hH2
          obtain ⟨hBW, hsS, hb, hS, hfar, hsz⟩ := hH2
          clear hK K
          try simp only [Act.put]
          refine tk 14 hH (y := yp) (k := ?_)
          refine wpAnyH_done (by kernel_rfl) ?_ _
          go_wp2_with fail
          go_meet
          case rel => exact ⟨_, _, rfl, rfl, rfl, by exact bk_, by exact bk_, by exact bk_, by exact sl_, by exact bk_, by exact bk_, by exact bl_, by exact sz_, by exact sz_⟩
        refine rc (h := fun K hK => ?_) (r := AllReadyH.nil)
        go_simp
        refine hK.out _ _ ⟨bk_, sl_, bk_, bk_, bl_, sz_⟩ (fun hH2 => ?_)
        clear hH
        have hH := hH2
        obtain ⟨hBW, hsS, hb, hS, hfar, hsz⟩ := hH2
        clear hK K
        try simp only [Act.put, sa, List.set_cons_zero, List.set_cons_succ]
        refine wpAnyH_ready (rs := [5, 10]) (by kernel_rfl) (by simp) ?_
        refine rc (h := fun K hK => ?_) (r := ?_)
        · go_simp
          refine (HD.out _ hBW).mono ?_
          rintro r wq ⟨rfl, hb⟩
          have hbs := hb.size
          try simp only [World.size_alloc, World.size_setCell, World.size_drew, size_setRow] at hbs
          go_wp2_with fail
          refine hK.out _ _ ⟨bk_, sl_, bk_, bk_, bl_, Nat.le_trans (sz_) hb.size⟩ (fun hH2 => ?_)
          clear hH
          have hH := hH2
          obtain ⟨hBW, hsS, hb, hS, hfar, hsz⟩ := hH2
          clear hK K
          try simp only [Act.put, sa, List.set_cons_zero, List.set_cons_succ]
          refine tk 6 hH (y := yp) (k := ?_)
          refine tk 7 hH (y := yp) (k := ?_)
          refine tk 8 hH (y := yp) (k := ?_)
          refine tk 9 hH (y := yp) (k := ?_)
          refine wpAnyH_ready (rs := [10]) (by kernel_rfl) (by simp) ?_
          refine rc (h := fun K hK => ?_) (r := AllReadyH.nil)
          go_simp
          refine hK.out _ _ ⟨bk_, sl_, bk_, bk_, bl_, sz_⟩ (fun hH2 => ?_)
          clear hH
          have hH := hH2
          obtain ⟨hBW, hsS, hb, hS, hfar, hsz⟩ := hH2
          clear hK K
          try simp only [Act.put, sa, List.set_cons_zero, List.set_cons_succ]
          refine wpAnyH_ready (rs := [12]) (by kernel_rfl) (by simp) ?_
          refine rc (h := fun K hK => ?_) (r := AllReadyH.nil)
          refine wp_st 26 rfl w_Block rfl rfl bk_ zz_ zz_ one_ ?_
          refine hK.out _ _ ⟨bk_, sl_, bk_, bk_, bl_, sz_⟩ (fun hH2 => ?_)
          clear hH
          have hH := hH2
          obtain ⟨hBW, hsS, hb, hS, hfar, hsz⟩ := hH2
          clear hK K
          try simp only [Act.put]
          refine wpAnyH_ready (rs := [13]) (by kernel_rfl) (by simp) ?_
          refine rc (h := fun K hK => ?_) (r := AllReadyH.nil)
          refine wp_st 29 rfl w_State rfl rfl bk_ zz_ zz_ one_ ?_
          refine hK.out _ _ ⟨bk_, sl_, bk_, bk_, bl_, sz_⟩ (fun hH2 => ?_)
          clear hH
          have hH := hH2
          obtain ⟨hBW, hsS, hb, hS, hfar, hsz⟩ := hH2
          clear hK K
          try simp only [Act.put]
          refine tk 14 hH (y := yp) (k := ?_)
          refine wpAnyH_done (by kernel_rfl) ?_ _
          go_wp2_with fail
          go_meet
          case rel => exact ⟨_, _, rfl, rfl, rfl, by exact bk_, by exact bk_, by exact bk_, by exact sl_, by exact bk_, by exact bk_, by exact bl_, by exact sz_, by exact sz_⟩
        refine rc (h := fun K hK => ?_) (r := AllReadyH.nil)
        go_simp
        refine hK.out _ _ ⟨bk_, sl_, bk_, bk_, bl_, sz_⟩ (fun hH2 => ?_)
        clear hH
        have hH := hH2
        obtain ⟨hBW, hsS, hb, hS, hfar, hsz⟩ := hH2
        clear hK K
        try simp only [Act.put, sa, List.set_cons_zero, List.set_cons_succ]
        refine wpAnyH_ready (rs := [5]) (by kernel_rfl) (by simp) ?_
        refine rc (h := fun K hK => ?_) (r := AllReadyH.nil)
        go_simp
        refine (HD.out _ hBW).mono ?_
        rintro r wq ⟨rfl, hb⟩
        have hbs := hb.size
        try simp only [World.size_alloc, World.size_setCell, World.size_drew, size_setRow] at hbs
        go_wp2_with fail
        refine hK.out _ _ ⟨bk_, sl_, bk_, bk_, bl_, Nat.le_trans (sz_) hb.size⟩ (fun hH2 => ?_)
        clear hH
        have hH := hH2
        obtain ⟨hBW, hsS, hb, hS, hfar, hsz⟩ := hH2
        clear hK K
        try simp only [Act.put, sa, List.set_cons_zero, List.set_cons_succ]
        refine tk 6 hH (y := yp) (k := ?_)
        refine tk 7 hH (y := yp) (k := ?_)
        refine tk 8 hH (y := yp) (k := ?_)
        refine tk 9 hH (y := yp) (k := ?_)
        refine wpAnyH_ready (rs := [12]) (by kernel_rfl) (by simp) ?_
        refine rc (h := fun K hK => ?_) (r := AllReadyH.nil)
        refine wp_st 26 rfl w_Block rfl rfl bk_ zz_ zz_ one_ ?_
        refine hK.out _ _ ⟨bk_, sl_, bk_, bk_, bl_, sz_⟩ (fun hH2 => ?_)
        clear hH
        have hH := hH2
        obtain ⟨hBW, hsS, hb, hS, hfar, hsz⟩ := hH2
        clear hK K
        try simp only [Act.put]
        refine wpAnyH_ready (rs := [13]) (by kernel_rfl) (by simp) ?_
        refine rc (h := fun K hK => ?_) (r := AllReadyH.nil)
        refine wp_st 29 rfl w_State rfl rfl bk_ zz_ zz_ one_ ?_
        refine hK.out _ _ ⟨bk_, sl_, bk_, bk_, bl_, sz_⟩ (fun hH2 => ?_)
        clear hH
        have hH := hH2
        obtain ⟨hBW, hsS, hb, hS, hfar, hsz⟩ := hH2
        clear hK K
        try simp only [Act.put]
        refine tk 14 hH (y := yp) (k := ?_)
        refine wpAnyH_done (by kernel_rfl) ?_ _
        go_wp2_with fail
        go_meet
        case rel => exact ⟨_, _, rfl, rfl, rfl, by exact bk_, by exact bk_, by exact bk_, by exact sl_, by exact bk_, by exact bk_, by exact bl_, by exact sz_, by exact sz_⟩
      case rest =>
        clear hBW hsS hb hS hfar hsz
        obtain ⟨g1, g2, rfl, rfl, rfl, hO, hN, hBW, hsS, hb, hS, hfar, hsz, hg2⟩ := hcut
        have LZ16 := Len.zs 16
        have LZ38 := Len.zs 38
        go_wp2_with ((first | (refine ld 26 rfl (by rfl) w_Block rfl hO LZ16.sz ?_) | (refine bd 26 rfl (by rfl) rfl block_zs ?_) | (refine nqw 26 rfl (by rfl) rfl rfl eg_Block (eq_block_self LZ16.out) ?_) | (refine ld 29 rfl (by rfl) w_State rfl hN LZ38.sz ?_) | (refine st 29 rfl (by rfl) w_State rfl rfl hS LZ38.sz LZ38.sz one_ ?_)); try simp only [Act.put, sa, List.set_cons_zero, List.set_cons_succ])
        go_roundw
        case rel => exact ⟨i + 1, hlt, by go_num, by exact bk_, by exact sl_, by exact bk_, Blk.setRow hS, by exact bl_, by exact sz_⟩
        case measure => simp [intOf]; omega
    · obtain rfl : i = q := by omega
      clear hsS HST HAL
      obtain ⟨N0, hN0⟩ : ∃ N, wr.heap.size = N := ⟨_, rfl⟩
      have hGN0 : G2 + 1 ≤ N0 := by omega
      have hn16 : Blk (wr.alloc (.cells (arrV b) 22)) N0 (arrV b) 22 := Blk.newAt hN0.symm
      go_upto_region 16 with (fail)
      go_wp2_with (first | (refine ld 22 rfl (by rfl) w_Sixteen rfl hb LB.sz ?_; try simp only [Act.put, sa, List.set_cons_zero, List.set_cons_succ]) | (refine bs1 38 rfl (by rfl) rfl Tryz.underlying38 el_Sixteen (by omega) (by omega) LB.sz ?_; try simp only [Act.put, sa, List.set_cons_zero, List.set_cons_succ]))
      refine (HFR.out _ _ _ (SixIn.one hn16 LB.out)).mono ?_
      rintro e w6 ⟨v6, rfl, hv6, hb6'⟩
      have hb6 : Below wr.heap.size wr w6 := ((Below.refl _ _).alloc (Nat.le_refl _) _).trans (hb6'.mono (by rw [World.size_alloc]; omega))
      rw [World.size_alloc, hN0] at hv6
      clear hb6' hn16
      replace hBW := hBW.newB hb6
      replace hb := hb.newB hb6
      replace hS := hS.newB hb6
      replace hfar := hfar.trans (hb6.mono (by omega))
      replace hsz := Nat.le_trans hsz hb6.size
      have hv6' : OW w6 (N0 + 1) w6.heap.size 26 16 v6 1 (intsV (frame b)) := hv6
      clear hv6
      obtain ⟨i0, hif, hz0, hz1, hz2⟩ := info_parts info_Block
      have hvb : ∀ j, v6.ownBlock = some j → N0 + 1 ≤ j := fun j hj => (World.ownsRow.lt hv6'.1 j hj).1
      have HVB := Lib.hid hvb
      have hsw : N0 + 1 ≤ w6.heap.size := by (obtain ⟨p6, c6, rfl, hs6⟩ := hv6'.sl; obtain ⟨g6, o6, _, a1, a2, _⟩ := hs6.form (by omega); omega)
      clear hvb
      go_wp2_with (refine apz 24 3 rfl (by rfl) rfl (N0 + 1) 26 i0 (.agg #[.int .i64 0, .int .i64 0, .int .i64 0, .int .i64 0, .int .i64 0, .int .i64 0, .int .i64 0, .int .i64 0, .int .i64 0, .int .i64 0, .int .i64 0, .int .i64 0, .int .i64 0, .int .i64 0, .int .i64 0, .int .i64 0]) 16 128 .i64 Tryz.underlying24 Tryz.underlying3 hif hz0 hz1 hz2 rfl (by omega) (by omega) rfl hv6'.1 60 (by omega) rfl ((List.replicate 60 z16).flatMap intsV) (zero_blocks 60).symm (flatB_one _) (by unfold maxLen; omega) (by omega) hsw ?_; intro v7 w7 hv7 hg7; rw [HFLAT.out] at hv7; have hBW7 := hBW.kept hg7 (fun e => by have := HVB.out _ e.symm; omega); have hb7 := hb.kept hg7 (fun e => by have := HVB.out _ e.symm; omega); have hS7 := hS.kept hg7 (fun e => by have := HVB.out _ e.symm; omega); have hf7 : Below B w w7 := hfar.grown hg7 (by omega) (fun j hj => by have := HVB.out j hj; omega); have hs7 := hg7.size; obtain ⟨p7, c7, rfl, hsl7⟩ := SL.own hv7; try simp only [Act.put, sa, List.set_cons_zero, List.set_cons_succ])
      replace hBW := hBW7
      replace hS := hS7
      replace hfar := hf7
      replace hsz : G2 + 1 ≤ w7.heap.size := by omega
      clear hBW7 hb7 hS7 hf7 hb
      refine (HAL2.out _ _ _ _ _ hBW hsl7).mono ?_
      rintro e w8 ⟨pT, cT, loT, hiT, rfl, hsT, hloT, hhiT, hb8⟩
      have hloT2 : G2 + 1 ≤ loT := by omega
      clear hloT hsl7 hv7 hg7 hs7
      replace hBW := hBW.newB hb8
      replace hS := hS.newB hb8
      replace hfar := hfar.trans (hb8.mono (by omega))
      replace hsz := Nat.le_trans hsz hb8.size
      obtain ⟨N8, hN8⟩ : ∃ N, w8.heap.size = N := ⟨_, rfl⟩
      have hGN8 : G2 + 1 ≤ N8 := by omega
      rw [hN8] at hhiT
      have LZ38 := Len.zs 38
      go_upto_region 20 with ((first | (refine st 31 rfl (by rfl) w_EEnc rfl rfl bk_ hz55 LX2.sz one_ ?_) | (refine bd 29 rfl (by rfl) rfl state_zs ?_) | (refine st 29 rfl (by rfl) w_State rfl rfl bk_ LZ38.sz LZ38.sz one_ ?_)); try simp only [Act.put, sa, List.set_cons_zero, List.set_cons_succ])
      refine wp_gen (fun W => Blk W (0) (bandE) 164 ∧ Blk W (G2) (arrV (zs 38)) 29 ∧ SL W (loT) (hiT) (1) (pT) (61) (cT) (strsV QS) ∧ Blk W (N8 + 1) (arrV (zs 16)) 26 ∧ Below (B) w W ∧ N8 + 2 ≤ W.heap.size) ⟨bk_, bk_, sl_, bk_, bl_, sz_⟩ ?_
      clear hBW hS hsT hfar hsz
      rintro w9 ⟨hBW, hS, hsT, hL, hfar, hsz⟩
      go_wp2_with fail
      go_loopw [22] (fun j wr => ∃ i : Nat, i ≤ 61 ∧ j = .int .i64 i ∧ Blk wr 0 bandE 164 ∧ SL wr loT hiT 1 pT 61 cT (strsV QS) ∧ Blk wr G2 (arrV (SF i)) 29 ∧ Blk wr (N8 + 1) (arrV (OF i)) 26 ∧ Below B w wr ∧ N8 + 2 ≤ wr.heap.size ∧ Len (OF i) 16) (fun j _ => 61 - (intOf j).toNat)
      case atStart => exact ⟨0, by omega, rfl, hBW, hsT, by rw [HS0.out]; exact hS, by rw [HO0.out]; exact hL, hfar, hsz, by rw [HO0.out]; exact Len.zs 16⟩
      case round =>
        clear hBW hsT hS hL hfar hsz
        obtain ⟨i, hi, rfl, hBW, hsT, hS, hL, hfar, hsz, LY0⟩ := hrel
        by_cases hlt : i < 61
        · obtain ⟨P, q1, LO1, LF0, LF1, hde⟩ := HST3.out i hlt
          obtain ⟨gT, oT, rfl, -, -, -⟩ := hsT.form (by omega)
          have hlti : (i : Int) < 61 := by omega
          have hcn : 61 ≤ cT := hsT.2.1
          have hcm := hsT.2.2.1
          unfold maxLen at hcm
          obtain ⟨X0, hX0⟩ : ∃ X, SF i = X := ⟨_, rfl⟩
          obtain ⟨X1, hX1⟩ : ∃ X, SF (i + 1) = X := ⟨_, rfl⟩
          obtain ⟨Y0, hY0⟩ : ∃ X, OF i = X := ⟨_, rfl⟩
          obtain ⟨Y1, hY1⟩ : ∃ X, OF (i + 1) = X := ⟨_, rfl⟩
          rw [hX0] at hS LF0
          rw [hY0] at hL LY0
          simp only [hX0, hX1, hY1] at hde
          rw [hX1] at LF1
          rw [hY1] at LO1
          have HD := Lib.hid hde
          have HQ1 := Lib.hid q1
          have HX1 := Lib.hid hX1
          have HY1 := Lib.hid hY1
          clear hde q1 hX0 hX1 hY1
          go_upto_region 23 with (fail)
          go_cut [23, 24, 25] from 92 to 103 (fun s14 s15 s16 wx => ∃ g1 g2, s14 = .pointer (some ⟨g1, 0, none⟩) ∧ s15 = .pointer (some ⟨g2, 0, none⟩) ∧ s16 = .int .i64 0 ∧ Blk wx g1 (arrV Y1) 26 ∧ Blk wx g2 (arrV X1) 29 ∧ Blk wx 0 bandE 164 ∧ SL wx loT hiT 1 (some ⟨gT, oT, none⟩) 61 cT (strsV QS) ∧ Blk wx G2 (arrV X0) 29 ∧ Blk wx (N8 + 1) (arrV Y0) 26 ∧ Below B w wx ∧ N8 + 2 ≤ wx.heap.size ∧ N8 + 1 < g1 ∧ N8 + 1 < g2 ∧ g1 ≠ g2)
          case first =>
            refine wp_region_held_drew (S := fun W => Blk W (0) (bandE) 164 ∧ SL W (loT) (hiT) (1) (some ⟨gT, oT, none⟩) (61) (cT) (strsV QS) ∧ Blk W (G2) (arrV X0) 29 ∧ Blk W (N8 + 1) (arrV Y0) 26 ∧ Below (B) w W ∧ N8 + 2 ≤ W.heap.size) (by kernel_rfl) (⟨hBW.drew, hsT.drew, hS.drew, hL.drew, hfar.drew, hsz⟩) (fun hH => ?_)
            have hH2 := hH
            obtain ⟨hBW, hsT, hS, hL, hfar, hsz⟩ := hH2
            refine tk 0 hH (v := .agg (arrV X0)) (y := (yieldsIf_ld (by rfl) 29 rfl w_State rfl (fun _ hS => hS.2.2.1) zz_)) (k := ?_)
            refine tk 1 hH (y := yp) (k := ?_)
            refine tk 2 hH (y := yp) (k := ?_)
            refine tk 3 hH (y := yp) (k := ?_)
            refine tk 4 hH (y := (.inl ⟨by rfl, fun w hS => by (have c := hS.2.1.str HQ1.out; go_simp; try rfl)⟩)) (k := ?_)
            refine wpAnyH_ready (rs := [5, 10, 11]) (by kernel_rfl) (by simp) ?_
            refine rc (h := fun K hK => ?_) (r := ?_)
            · go_simp
              refine (HD.out _ hBW).mono ?_
              rintro r wq ⟨rfl, hb⟩
              have hbs := hb.size
              try simp only [World.size_alloc, World.size_setCell, World.size_drew, size_setRow] at hbs
              go_wp2_with fail
              refine hK.out _ _ ⟨bk_, sl_, bk_, bk_, bl_, Nat.le_trans (sz_) hb.size⟩ (fun hH2 => ?_)
              clear hH
              have hH := hH2
              obtain ⟨hBW, hsT, hS, hL, hfar, hsz⟩ := hH2
              clear hK K
              try simp only [Act.put, sa, List.set_cons_zero, List.set_cons_succ]
              refine tk 6 hH (y := yp) (k := ?_)
              refine tk 7 hH (y := yp) (k := ?_)
              refine tk 8 hH (y := yp) (k := ?_)
              refine tk 9 hH (y := yp) (k := ?_)
              refine wpAnyH_ready (rs := [10, 11]) (by kernel_rfl) (by simp) ?_
              refine rc (h := fun K hK => ?_) (r := ?_)
              · go_simp
                refine hK.out _ _ ⟨bk_, sl_, bk_, bk_, bl_, sz_⟩ (fun hH2 => ?_)
                clear hH
                have hH := hH2
                obtain ⟨hBW, hsT, hS, hL, hfar, hsz⟩ := hH2
                clear hK K
                try simp only [Act.put, sa, List.set_cons_zero, List.set_cons_succ]
                refine wpAnyH_ready (rs := [11]) (by kernel_rfl) (by simp) ?_
                refine rc (h := fun K hK => ?_) (r := AllReadyH.nil)
                go_simp
                refine hK.out _ _ ⟨bk_, sl_, bk_, bk_, bl_, sz_⟩ (fun hH2 => ?_)
                clear hH
                have hH := hH2
                obtain ⟨hBW, hsT, hS, hL, hfar, hsz⟩ := hH2
                clear hK K
                try simp only [Act.put, sa, List.set_cons_zero, List.set_cons_succ]
                refine wpAnyH_ready (rs := [12]) (by kernel_rfl) (by simp) ?_
                refine rc (h := fun K hK => ?_) (r := AllReadyH.nil)
                refine wp_st 26 rfl w_Block rfl rfl bk_ zz_ zz_ one_ ?_
                refine hK.out _ _ ⟨bk_, sl_, bk_, bk_, bl_, sz_⟩ (fun hH2 => ?_)
                clear hH
                have hH := hH2
                obtain ⟨hBW, hsT, hS, hL, hfar, hsz⟩ := hH2
                clear hK K
                try simp only [Act.put]
                refine wpAnyH_ready (rs := [13]) (by kernel_rfl) (by simp) ?_
                refine rc (h := fun K hK => ?_) (r := AllReadyH.nil)
                refine wp_st 29 rfl w_State rfl rfl bk_ zz_ zz_ one_ ?_
                refine hK.out _ _ ⟨bk_, sl_, bk_, bk_, bl_, sz_⟩ (fun hH2 => ?_)
                clear hH
                have hH := hH2
                obtain ⟨hBW, hsT, hS, hL, hfar, hsz⟩ := hH2
                clear hK K
                try simp only [Act.put]
                refine tk 14 hH (y := yp) (k := ?_)
                refine wpAnyH_done (by kernel_rfl) ?_ _
                go_wp2_with fail
                go_meet
                case rel => exact ⟨_, _, rfl, rfl, rfl, by exact bk_, by exact bk_, by exact bk_, by exact sl_, by exact bk_, by exact bk_, by exact bl_, by exact sz_, by exact sz_, by exact sz_, by exact sz_⟩
              refine rc (h := fun K hK => ?_) (r := AllReadyH.nil)
              go_simp
              refine hK.out _ _ ⟨bk_, sl_, bk_, bk_, bl_, sz_⟩ (fun hH2 => ?_)
              clear hH
              have hH := hH2
              obtain ⟨hBW, hsT, hS, hL, hfar, hsz⟩ := hH2
              clear hK K
              try simp only [Act.put, sa, List.set_cons_zero, List.set_cons_succ]
              refine wpAnyH_ready (rs := [10]) (by kernel_rfl) (by simp) ?_
              refine rc (h := fun K hK => ?_) (r := AllReadyH.nil)
              go_simp
              refine hK.out _ _ ⟨bk_, sl_, bk_, bk_, bl_, sz_⟩ (fun hH2 => ?_)
              clear hH
              have hH := hH2
              obtain ⟨hBW, hsT, hS, hL, hfar, hsz⟩ := hH2
              clear hK K
              try simp only [Act.put, sa, List.set_cons_zero, List.set_cons_succ]
              refine wpAnyH_ready (rs := [12]) (by kernel_rfl) (by simp) ?_
              refine rc (h := fun K hK => ?_) (r := AllReadyH.nil)
              refine wp_st 26 rfl w_Block rfl rfl bk_ zz_ zz_ one_ ?_
              refine hK.out _ _ ⟨bk_, sl_, bk_, bk_, bl_, sz_⟩ (fun hH2 => ?_)
              clear hH
              have hH := hH2
              obtain ⟨hBW, hsT, hS, hL, hfar, hsz⟩ := hH2
              clear hK K
              try simp only [Act.put]
              refine wpAnyH_ready (rs := [13]) (by kernel_rfl) (by simp) ?_
              refine rc (h := fun K hK => ?_) (r := AllReadyH.nil)
              refine wp_st 29 rfl w_State rfl rfl bk_ zz_ zz_ one_ ?_
              refine hK.out _ _ ⟨bk_, sl_, bk_, bk_, bl_, sz_⟩ (fun hH2 => ?_)
              clear hH
              have hH := hH2
              obtain ⟨hBW, hsT, hS, hL, hfar, hsz⟩ := hH2
              clear hK K
              try simp only [Act.put]
              refine tk 14 hH (y := yp) (k := ?_)
              refine wpAnyH_done (by kernel_rfl) ?_ _
              go_wp2_with fail
              go_meet
              case rel => exact ⟨_, _, rfl, rfl, rfl, by exact bk_, by exact bk_, by exact bk_, by exact sl_, by exact bk_, by exact bk_, by exact bl_, by exact sz_, by exact sz_, by exact sz_, by exact sz_⟩
            refine rc (h := fun K hK => ?_) (r := ?_)
            · go_simp
              refine hK.out _ _ ⟨bk_, sl_, bk_, bk_, bl_, sz_⟩ (fun hH2 => ?_)
              clear hH
              have hH := hH2
              obtain ⟨hBW, hsT, hS, hL, hfar, hsz⟩ := hH2
              clear hK K
              try simp only [Act.put, sa, List.set_cons_zero, List.set_cons_succ]
              refine wpAnyH_ready (rs := [5, 11]) (by kernel_rfl) (by simp) ?_
              refine rc (h := fun K hK => ?_) (r := ?_)
              · go_simp
                refine (HD.out _ hBW).mono ?_
                rintro r wq ⟨rfl, hb⟩
                have hbs := hb.size
                try simp only [World.size_alloc, World.size_setCell, World.size_drew, size_setRow] at hbs
                go_wp2_with fail
                refine hK.out _ _ ⟨bk_, sl_, bk_, bk_, bl_, Nat.le_trans (sz_) hb.size⟩ (fun hH2 => ?_)
                clear hH
                have hH := hH2
                obtain ⟨hBW, hsT, hS, hL, hfar, hsz⟩ := hH2
                clear hK K
                try simp only [Act.put, sa, List.set_cons_zero, List.set_cons_succ]
                refine tk 6 hH (y := yp) (k := ?_)
                refine tk 7 hH (y := yp) (k := ?_)
                refine tk 8 hH (y := yp) (k := ?_)
                refine tk 9 hH (y := yp) (k := ?_)
                refine wpAnyH_ready (rs := [11]) (by kernel_rfl) (by simp) ?_
                refine rc (h := fun K hK => ?_) (r := AllReadyH.nil)
                go_simp
                refine hK.out _ _ ⟨bk_, sl_, bk_, bk_, bl_, sz_⟩ (fun hH2 => ?_)
                clear hH
                have hH := hH2
                obtain ⟨hBW, hsT, hS, hL, hfar, hsz⟩ := hH2
                clear hK K
                try simp only [Act.put, sa, List.set_cons_zero, List.set_cons_succ]
                refine wpAnyH_ready (rs := [12]) (by kernel_rfl) (by simp) ?_
                refine rc (h := fun K hK => ?_) (r := AllReadyH.nil)
                refine wp_st 26 rfl w_Block rfl rfl bk_ zz_ zz_ one_ ?_
                refine hK.out _ _ ⟨bk_, sl_, bk_, bk_, bl_, sz_⟩ (fun hH2 => ?_)
                clear hH
                have hH := hH2
                obtain ⟨hBW, hsT, hS, hL, hfar, hsz⟩ := hH2
                clear hK K
                try simp only [Act.put]
                refine wpAnyH_ready (rs := [13]) (by kernel_rfl) (by simp) ?_
                refine rc (h := fun K hK => ?_) (r := AllReadyH.nil)
                refine wp_st 29 rfl w_State rfl rfl bk_ zz_ zz_ one_ ?_
                refine hK.out _ _ ⟨bk_, sl_, bk_, bk_, bl_, sz_⟩ (fun hH2 => ?_)
                clear hH
                have hH := hH2
                obtain ⟨hBW, hsT, hS, hL, hfar, hsz⟩ := hH2
                clear hK K
                try simp only [Act.put]
                refine tk 14 hH (y := yp) (k := ?_)
                refine wpAnyH_done (by kernel_rfl) ?_ _
                go_wp2_with fail
                go_meet
                case rel => exact ⟨_, _, rfl, rfl, rfl, by exact bk_, by exact bk_, by exact bk_, by exact sl_, by exact bk_, by exact bk_, by exact bl_, by exact sz_, by exact sz_, by exact sz_, by exact sz_⟩
              refine rc (h := fun K hK => ?_) (r := AllReadyH.nil)
              go_simp
              refine hK.out _ _ ⟨bk_, sl_, bk_, bk_, bl_, sz_⟩ (fun hH2 => ?_)
              clear hH
              have hH := hH2
              obtain ⟨hBW, hsT, hS, hL, hfar, hsz⟩ := hH2
              clear hK K
              try simp only [Act.put, sa, List.set_cons_zero, List.set_cons_succ]
              refine wpAnyH_ready (rs := [5]) (by kernel_rfl) (by simp) ?_
              refine rc (h := fun K hK => ?_) (r := AllReadyH.nil)
              go_simp
              refine (HD.out _ hBW).mono ?_
              rintro r wq ⟨rfl, hb⟩
              have hbs := hb.size
              try simp only [World.size_alloc, World.size_setCell, World.size_drew, size_setRow] at hbs
              go_wp2_with fail
              refine hK.out _ _ ⟨bk_, sl_, bk_, bk_, bl_, Nat.le_trans (sz_) hb.size⟩ (fun hH2 => ?_)
              clear hH
              have hH := hH2
              obtain ⟨hBW, hsT, hS, hL, hfar, hsz⟩ := hH2
              clear hK K
              try simp only [Act.put, sa, List.set_cons_zero, List.set_cons_succ]
              refine tk 6 hH (y := yp) (k := ?_)
              refine tk 7 hH (y := yp) (k := ?_)
              refine tk 8 hH (y := yp) (k := ?_)
              refine tk 9 hH (y := yp) (k := ?_)
              refine wpAnyH_ready (rs := [12]) (by kernel_rfl) (by simp) ?_
              refine rc (h := fun K hK => ?_) (r := AllReadyH.nil)
              refine wp_st 26 rfl w_Block rfl rfl bk_ zz_ zz_ one_ ?_
              refine hK.out _ _ ⟨bk_, sl_, bk_, bk_, bl_, sz_⟩ (fun hH2 => ?_)
              clear hH
              have hH := hH2
              obtain ⟨hBW, hsT, hS, hL, hfar, hsz⟩ := hH2
              clear hK K
              try simp only [Act.put]
              refine wpAnyH_ready (rs := [13]) (by kernel_rfl) (by simp) ?_
              refine rc (h := fun K hK => ?_) (r := AllReadyH.nil)
              refine wp_st 29 rfl w_State rfl rfl bk_ zz_ zz_ one_ ?_
              refine hK.out _ _ ⟨bk_, sl_, bk_, bk_, bl_, sz_⟩ (fun hH2 => ?_)
              clear hH
              have hH := hH2
              obtain ⟨hBW, hsT, hS, hL, hfar, hsz⟩ := hH2
              clear hK K
              try simp only [Act.put]
              refine tk 14 hH (y := yp) (k := ?_)
              refine wpAnyH_done (by kernel_rfl) ?_ _
              go_wp2_with fail
              go_meet
              case rel => exact ⟨_, _, rfl, rfl, rfl, by exact bk_, by exact bk_, by exact bk_, by exact sl_, by exact bk_, by exact bk_, by exact bl_, by exact sz_, by exact sz_, by exact sz_, by exact sz_⟩
            refine rc (h := fun K hK => ?_) (r := AllReadyH.nil)
            go_simp
            refine hK.out _ _ ⟨bk_, sl_, bk_, bk_, bl_, sz_⟩ (fun hH2 => ?_)
            clear hH
            have hH := hH2
            obtain ⟨hBW, hsT, hS, hL, hfar, hsz⟩ := hH2
            clear hK K
            try simp only [Act.put, sa, List.set_cons_zero, List.set_cons_succ]
            refine wpAnyH_ready (rs := [5, 10]) (by kernel_rfl) (by simp) ?_
            refine rc (h := fun K hK => ?_) (r := ?_)
            · go_simp
              refine (HD.out _ hBW).mono ?_
              rintro r wq ⟨rfl, hb⟩
              have hbs := hb.size
              try simp only [World.size_alloc, World.size_setCell, World.size_drew, size_setRow] at hbs
              go_wp2_with fail
              refine hK.out _ _ ⟨bk_, sl_, bk_, bk_, bl_, Nat.le_trans (sz_) hb.size⟩ (fun hH2 => ?_)
              clear hH
              have hH := hH2
              obtain ⟨hBW, hsT, hS, hL, hfar, hsz⟩ := hH2
              clear hK K
              try simp only [Act.put, sa, List.set_cons_zero, List.set_cons_succ]
              refine tk 6 hH (y := yp) (k := ?_)
              refine tk 7 hH (y := yp) (k := ?_)
              refine tk 8 hH (y := yp) (k := ?_)
              refine tk 9 hH (y := yp) (k := ?_)
              refine wpAnyH_ready (rs := [10]) (by kernel_rfl) (by simp) ?_
              refine rc (h := fun K hK => ?_) (r := AllReadyH.nil)
              go_simp
              refine hK.out _ _ ⟨bk_, sl_, bk_, bk_, bl_, sz_⟩ (fun hH2 => ?_)
              clear hH
              have hH := hH2
              obtain ⟨hBW, hsT, hS, hL, hfar, hsz⟩ := hH2
              clear hK K
              try simp only [Act.put, sa, List.set_cons_zero, List.set_cons_succ]
              refine wpAnyH_ready (rs := [12]) (by kernel_rfl) (by simp) ?_
              refine rc (h := fun K hK => ?_) (r := AllReadyH.nil)
              refine wp_st 26 rfl w_Block rfl rfl bk_ zz_ zz_ one_ ?_
              refine hK.out _ _ ⟨bk_, sl_, bk_, bk_, bl_, sz_⟩ (fun hH2 => ?_)
              clear hH
              have hH := hH2
              obtain ⟨hBW, hsT, hS, hL, hfar, hsz⟩ := hH2
              clear hK K
              try simp only [Act.put]
              refine wpAnyH_ready (rs := [13]) (by kernel_rfl) (by simp) ?_
              refine rc (h := fun K hK => ?_) (r := AllReadyH.nil)
              refine wp_st 29 rfl w_State rfl rfl bk_ zz_ zz_ one_ ?_
              refine hK.out _ _ ⟨bk_, sl_, bk_, bk_, bl_, sz_⟩ (fun hH2 => ?_)
              clear hH
              have hH := hH2
              obtain ⟨hBW, hsT, hS, hL, hfar, hsz⟩ := hH2
              clear hK K
              try simp only [Act.put]
              refine tk 14 hH (y := yp) (k := ?_)
              refine wpAnyH_done (by kernel_rfl) ?_ _
              go_wp2_with fail
              go_meet
              case rel => exact ⟨_, _, rfl, rfl, rfl, by exact bk_, by exact bk_, by exact bk_, by exact sl_, by exact bk_, by exact bk_, by exact bl_, by exact sz_, by exact sz_, by exact sz_, by exact sz_⟩
            refine rc (h := fun K hK => ?_) (r := AllReadyH.nil)
            go_simp
            refine hK.out _ _ ⟨bk_, sl_, bk_, bk_, bl_, sz_⟩ (fun hH2 => ?_)
            clear hH
            have hH := hH2
            obtain ⟨hBW, hsT, hS, hL, hfar, hsz⟩ := hH2
            clear hK K
            try simp only [Act.put, sa, List.set_cons_zero, List.set_cons_succ]
            refine wpAnyH_ready (rs := [5]) (by kernel_rfl) (by simp) ?_
            refine rc (h := fun K hK => ?_) (r := AllReadyH.nil)
            go_simp
            refine (HD.out _ hBW).mono ?_
            rintro r wq ⟨rfl, hb⟩
            have hbs := hb.size
            try simp only [World.size_alloc, World.size_setCell, World.size_drew, size_setRow] at hbs
            go_wp2_with fail
            refine hK.out _ _ ⟨bk_, sl_, bk_, bk_, bl_, Nat.le_trans (sz_) hb.size⟩ (fun hH2 => ?_)
            clear hH
            have hH := hH2
            obtain ⟨hBW, hsT, hS, hL, hfar, hsz⟩ := hH2
            clear hK K
            try simp only [Act.put, sa, List.set_cons_zero, List.set_cons_succ]
            refine tk 6 hH (y := yp) (k := ?_)
            refine tk 7 hH (y := yp) (k := ?_)
            refine tk 8 hH (y := yp) (k := ?_)
            refine tk 9 hH (y := yp) (k := ?_)
            refine wpAnyH_ready (rs := [12]) (by kernel_rfl) (by simp) ?_
            refine rc (h := fun K hK => ?_) (r := AllReadyH.nil)
            refine wp_st 26 rfl w_Block rfl rfl bk_ zz_ zz_ one_ ?_
            refine hK.out _ _ ⟨bk_, sl_, bk_, bk_, bl_, sz_⟩ (fun hH2 => ?_)
            clear hH
            have hH := hH2
            obtain ⟨hBW, hsT, hS, hL, hfar, hsz⟩ := hH2
            clear hK K
            try simp only [Act.put]
            refine wpAnyH_ready (rs := [13]) (by kernel_rfl) (by simp) ?_
            refine rc (h := fun K hK => ?_) (r := AllReadyH.nil)
            refine wp_st 29 rfl w_State rfl rfl bk_ zz_ zz_ one_ ?_
            refine hK.out _ _ ⟨bk_, sl_, bk_, bk_, bl_, sz_⟩ (fun hH2 => ?_)
            clear hH
            have hH := hH2
            obtain ⟨hBW, hsT, hS, hL, hfar, hsz⟩ := hH2
            clear hK K
            try simp only [Act.put]
            refine tk 14 hH (y := yp) (k := ?_)
            refine wpAnyH_done (by kernel_rfl) ?_ _
            go_wp2_with fail
            go_meet
            case rel => exact ⟨_, _, rfl, rfl, rfl, by exact bk_, by exact bk_, by exact bk_, by exact sl_, by exact bk_, by exact bk_, by exact bl_, by exact sz_, by exact sz_, by exact sz_, by exact sz_⟩
          case rest =>
            have hY0l := LY0.sz
            clear hBW hsT hS hL hfar hsz
            obtain ⟨g1, g2, rfl, rfl, rfl, hO, hN, hBW, hsT, hS, hL, hfar, hsz, hg1, hg2, hg12⟩ := hcut
            go_wp2_with ((first | (refine ld 29 rfl (by rfl) w_State rfl hN LF1.sz ?_) | (refine st 29 rfl (by rfl) w_State rfl rfl hS LF0.sz LF1.sz one_ ?_) | (refine ld 26 rfl (by rfl) w_Block rfl (hO.setRowOther (by omega)) LO1.sz ?_) | (refine st 26 rfl (by rfl) w_Block rfl rfl (hL.setRowOther (by omega)) hY0l LO1.sz one_ ?_)); try simp only [Act.put, sa, List.set_cons_zero, List.set_cons_succ])
            go_roundw
            case rel => exact ⟨i + 1, hlt, by go_num, by exact bk_, by exact sl_, by rw [HX1.out]; exact bk_, by rw [HY1.out]; exact bk_, by exact bl_, by exact sz_, by rw [HY1.out]; exact LO1⟩
            case measure => simp [intOf]; omega
        · obtain rfl : i = 61 := by omega
          rw [HO61.out] at hL
          have LZ16 := Len.zs 16
          go_wp2_with ((first | (refine ld 26 rfl (by rfl) w_Block rfl hL LZ16.sz ?_) | (refine bd 26 rfl (by rfl) rfl block_zs ?_) | (refine eqw 26 rfl (by rfl) rfl rfl eg_Block (eq_block_self LZ16.out) ?_)); try simp only [Act.put, sa, List.set_cons_zero, List.set_cons_succ])
          go_ret
          exact ⟨rfl, (by (try rw [hB]); exact bl_)⟩
end Go.Proofs.YtkoljgmapclhkaaGreatDoor
