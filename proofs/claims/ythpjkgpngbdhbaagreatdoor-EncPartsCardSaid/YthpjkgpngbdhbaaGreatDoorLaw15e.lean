/- The walk of spoollaw15.EncParts: whatever comes in, it returns true. -/
import Derived.Test.YthpjkgpngbdhbaaGreatDoorLaw15d
set_option linter.unusedSimpArgs false
set_option linter.unusedVariables false
namespace Go.Proofs.YthpjkgpngbdhbaaGreatDoor
open Go.RowKit

/-- One frame of a run, encoded. -/
theorem enc_step {m : Nat} (hm : m ≤ 22) {l : List (List Int)} (hS : ∀ b ∈ l, S16 b) {i : Nat} (hi : i < l.length) :
    ∃ (b : List Int) (P : ByteArray), l[i]? = some b ∧ Len b 16 ∧ (allE (10 + m) e0 l).1[i]? = some P ∧ Len (allE (10 + m) e0 (l.take i)).2.l 55 ∧ Len (allE (10 + m) e0 (l.take (i + 1))).2.l 55 ∧
      ∀ w, BandsW w → Calls Tryz.prog 11 #[.agg (arrV (allE (10 + m) e0 (l.take i)).2.l), .agg (arrV b), .int .i64 (10 + (m : Int))] w fun e w' => e = .returned (.tuple #[.string P, .agg (arrV (allE (10 + m) e0 (l.take (i + 1))).2.l), .int .i64 0]) ∧ Below w.heap.size w w' := by
  obtain ⟨b, hb⟩ : ∃ b, l[i]? = some b := ⟨_, List.getElem?_eq_getElem hi⟩
  have hb16 := hS b (List.mem_of_getElem? hb)
  have hok : ∀ k, (allE (10 + m) e0 (l.take k)).2.Ok := fun k => (allE_ok (by omega) (by omega) (l.take k) e0 e0_ok (fun b hb => hS b (List.mem_of_mem_take hb))).1
  obtain ⟨g1, g2⟩ := allE_get (size := 10 + m) l e0 i b hb
  have hc : (((10 + m : Nat)) : Int) = 10 + (m : Int) := by omega
  refine ⟨b, _, hb, Len.mk hb16.1, g1, Len.mk (est_len (hok i)), Len.mk (est_len (hok (i + 1))), fun w hW => ?_⟩
  have h := EncodeE_any (size := 10 + m) (by omega) (by omega) (hok i) hb16 w hW
  rw [hc, ← g2] at h
  exact h
theorem slw {ops : Array Oper} {rest : List Oper} {op : Oper} {a : Act} {w : World} {Q : Exit → Act → World → Prop} (t : TypeId) {x y : Operand} (ho : op.op = .slice t x none (some y) none) (hwd : Region.wanted op (yielded ops a.tmps) = true) {p : Option Addr} {n cap : Nat} (hx : a.eval x = .slice p n cap) {k : Nat} (hy : a.eval y = .int .i64 (k : Nat))
    {e : TypeId} {s : Nat} (ht : Tryz.prog.underlying t = some (.slice e)) (hs : ∀ w, (sizeOf e).run Tryz.prog w = .ok s w) (hk : k ≤ cap) (h : wpList Tryz.prog ops Q rest (a.put op.dst (.slice p k cap)) w) : wpList Tryz.prog ops Q (op :: rest) a w :=
  wpList_step fun K hK => by
    rw [if_pos hwd]
    have he : Tryz.prog.elem t = e := by unfold Program.elem; rw [ht]
    have ht2 : Tryz.prog.underlying t = some (.slice (Tryz.prog.elem t)) := by rw [he]; exact ht
    unfold Oper.wp execOp
    simp only [ho, hx, hy, Option.map_some, Option.map_none, Sem.run_bind]
    rw [run_sliceAt_slice w t _ _ _ _ ht2, run_slice_h w t p n cap ht2 .i64 k (by omega) (by omega), he, hs]
    have e0 : sliced p 0 k cap s = .slice p k cap := by
      unfold sliced
      cases p with
      | none => simp
      | some a => simp [Addr.add]
    simp only [Result.andThen, Int.toNat_natCast, e0]
    exact hK _ _ h
set_option maxRecDepth 100000 in
set_option maxHeartbeats 8000000 in
theorem EncParts_any (l : List (List Int)) (p : Option Addr) (cap : Nat) (sz cut : Int) (hs : 0 ≤ sz ∧ sz ≤ 255) (hc : 0 ≤ cut ∧ cut ≤ 255) (w : World) (hW : BandsW w) (hE : SixIn w p cap l) :
    Calls Tryz.prog 8 #[.slice p l.length cap, .int .u8 sz, .int .u8 cut] w fun e w' => e = .returned (.bool true) ∧ Below w.heap.size w w' := by
  obtain ⟨m, hm, hm22⟩ := size23 hs
  have hS16 : ∀ b ∈ frames l, S16 b := frames_s16 hE
  have hln30 : (frames l).length ≤ 30 := by rw [frames_len]; omega
  obtain ⟨n, hn⟩ : ∃ n, (frames l).length = n := ⟨_, rfl⟩
  have hfr := fun w h => Frames_sl l hn p cap w h
  rw [hn] at hln30
  obtain ⟨k, hk, hkn⟩ : ∃ k : Nat, cut.tmod ((n : Int) + 1) = k ∧ k ≤ n := by
    have h1 := Int.tmod_lt_of_pos cut (show (0 : Int) < (n : Int) + 1 by omega)
    have h2 := Int.tmod_nonneg (a := cut) ((n : Int) + 1) hc.1
    exact ⟨(cut.tmod ((n : Int) + 1)).toNat, by omega, by omega⟩
  have hal := fun p lo hi cap w hW hB => All_sl hm22 hn (by omega) hS16 p lo hi cap w hW hB
  have hkl : ((frames l).take k).length = k := by rw [List.length_take]; omega
  have hal2 := fun p lo hi cap w hW hB => All_sl hm22 hkl (by omega) (fun b hb => hS16 b (List.mem_of_mem_take hb)) p lo hi cap w hW hB
  have hst := fun i (hi : i < n) => enc_step hm22 hS16 (i := i) (by omega)
  have hfin : ((frames l).take n) = frames l := List.take_of_length_le (by omega)
  have hok := fun k => (allE_ok (size := 10 + m) (by omega) (by omega) ((frames l).take k) e0 e0_ok (fun b hb => hS16 b (List.mem_of_mem_take hb))).1
  obtain ⟨SF, hSF⟩ : ∃ SF : Nat → List Int, (fun i => (allE (10 + m) e0 ((frames l).take i)).2.l) = SF := ⟨_, rfl⟩
  have hSFi : ∀ i, (allE (10 + m) e0 ((frames l).take i)).2.l = SF i := fun i => by rw [← hSF]
  have LSF : ∀ i, Len (SF i) 55 := fun i => by rw [← hSFi]; exact Len.mk (est_len (hok i))
  have hX : (allE (10 + m) e0 (frames l)).2.l = SF n := by rw [← hSFi, hfin]
  simp only [hX] at hal
  simp only [hSFi] at hal2 hst
  have hb16 : ∀ b ∈ frames l, b.length = 16 := fun b hb => (hS16 b hb).1
  obtain ⟨F, hF⟩ : ∃ F, frames l = F := ⟨_, rfl⟩
  obtain ⟨PS, hPS⟩ : ∃ PS, (allE (10 + m) e0 F).1 = PS := ⟨_, rfl⟩
  simp only [hF] at hfr hal hst hal2 hb16 hn
  simp only [hPS] at hal hst
  have HFR := Lib.hid hfr
  have HAL := Lib.hid hal
  have HAL2 := Lib.hid hal2
  have HST := Lib.hid hst
  have HLS := Lib.hid LSF
  have HB16 := Lib.hid hb16
  have HN := Lib.hid hn
  have HE := Lib.hid hE
  have hcl := hE.1
  clear hfr hal hal2 hst LSF hSFi hSF hX hPS hF hfin hok hS16 hn hE hkl hb16
  have hz55 : ((List.toArray (Value.int .i64 0 :: Value.int .i64 0 :: Value.int .i64 0 :: Value.int .i64 0 :: Value.int .i64 0 :: Value.int .i64 0 :: Value.int .i64 0 :: Value.int .i64 0 :: Value.int .i64 0 :: Value.int .i64 0 :: Value.int .i64 0 :: Value.int .i64 0 :: Value.int .i64 0 :: Value.int .i64 0 :: Value.int .i64 0 :: Value.int .i64 0 :: Value.int .i64 0 :: Value.int .i64 0 :: Value.int .i64 0 :: Value.int .i64 0 :: Value.int .i64 0 :: Value.int .i64 0 :: Value.int .i64 0 :: Value.int .i64 0 :: Value.int .i64 0 :: Value.int .i64 0 :: Value.int .i64 0 :: Value.int .i64 0 :: Value.int .i64 0 :: Value.int .i64 0 :: Value.int .i64 0 :: Value.int .i64 0 :: Value.int .i64 0 :: Value.int .i64 0 :: Value.int .i64 0 :: Value.int .i64 0 :: Value.int .i64 0 :: Value.int .i64 0 :: Value.int .i64 0 :: Value.int .i64 0 :: Value.int .i64 0 :: Value.int .i64 0 :: Value.int .i64 0 :: Value.int .i64 0 :: Value.int .i64 0 :: Value.int .i64 0 :: Value.int .i64 0 :: Value.int .i64 0 :: Value.int .i64 0 :: Value.int .i64 0 :: Value.int .i64 0 :: Value.int .i64 0 :: Value.int .i64 0 :: Value.int .i64 0 :: Value.int .i64 0 :: [])) : Array Value).size = 55 := by rfl
  have hBW : Blk w 0 bandE 133 := hW
  have h0 : 0 < w.heap.size := hW.lt
  obtain ⟨B, hB⟩ : ∃ B, w.heap.size = B := ⟨_, rfl⟩
  rw [hB] at h0
  have hfar := Below.refl B w
  have hsz : B ≤ w.heap.size := by omega
  have hn1 : (n : Int) + 1 ≠ 0 := by omega
  go_enter Tryz.func8, Tryz.ntmps8
  go_wp2_with fail
  refine (awake15_any _ hBW).mono ?_
  rintro e w1 ⟨rfl, hb1⟩
  replace hBW := hBW.newB hb1
  replace hfar := hfar.trans (hb1.mono (by omega))
  replace hsz := Nat.le_trans hsz hb1.size
  go_upto_region 4 with (fail)
  go_wp2_with fail
  refine (HFR.out _ (HE.out.below hB.symm hfar)).mono ?_
  rintro e w2 ⟨pF, cF, loF, hiF, rfl, hsF, hloF, hhiF, hb2⟩
  have hloF2 : B ≤ loF := by omega
  clear hloF
  replace hBW := hBW.newB hb2
  replace hfar := hfar.trans (hb2.mono (by omega))
  replace hsz := Nat.le_trans hsz hb2.size
  obtain ⟨G0, hG0⟩ : ∃ G, w2.heap.size = G := ⟨_, rfl⟩
  rw [hG0] at hhiF
  have hBG0 : B ≤ G0 := by omega
  go_wp2_with fail
  refine (HAL.out _ _ _ _ _ hBW hsF).mono ?_
  rintro e w3 ⟨pS, cS, loS, hiS, rfl, hsS, hloS, hhiS, hb3⟩
  have hloS2 : G0 ≤ loS := by omega
  clear hloS
  replace hBW := hBW.newB hb3
  replace hsF := hsF.newB hb3
  replace hfar := hfar.trans (hb3.mono (by omega))
  replace hsz := Nat.le_trans hsz hb3.size
  obtain ⟨G, hG⟩ : ∃ G, w3.heap.size = G := ⟨_, rfl⟩
  have hBG : G0 ≤ G := by have := hb3.size; omega
  rw [hG] at hhiS
  have LX := HLS.out n
  go_upto_region 7 with (refine st 36 rfl (by rfl) w_EEnc rfl rfl bk_ hz55 LX.sz one_ ?_)
  refine wp_gen (fun W => Blk W (0) (bandE) 133 ∧ SL W (loF) (hiF) (16) (pF) (n) (cF) (F.flatMap intsV) ∧ SL W (loS) (hiS) (1) (pS) (n) (cS) (strsV PS) ∧ Blk W (G) (arrV (SF n)) 36 ∧ Below (B) w W ∧ G + 1 ≤ W.heap.size) ⟨bk_, sl_, sl_, bk_, bl_, sz_⟩ ?_
  clear hBW hsF hsS hfar hsz
  rintro w4 ⟨hBW, hsF, hsS, hX, hfar, hsz⟩
  obtain ⟨G4, hG4⟩ : ∃ G, w4.heap.size = G := ⟨_, rfl⟩
  have hGG4 : G + 1 ≤ G4 := by omega
  have hcF := hsF.2.1
  have hcFm := hsF.2.2.1
  unfold maxLen at hcFm
  have hkc : k ≤ cF := by omega
  have hsF2 : SL w4 loF hiF 16 pF k cF ((F.take k).flatMap intsV) := by
    have h := SL.take hsF hkn
    rwa [flat_take _ F (fun b hb => by rw [List.length_map]; exact HB16.out b hb)] at h
  have hsF3 := hsF2
  go_wp2_with (refine slw 29 rfl (by rfl) rfl rfl Tryz.underlying29 el_Block.1 hkc ?_)
  refine (HAL2.out _ _ _ _ _ hBW hsF2).mono ?_
  rintro e w5 ⟨pT, cT, loT, hiT, rfl, hsT, hloT, hhiT, hb5⟩
  clear hsF2 hsF3 hloT hsT hhiT
  replace hBW := hBW.newB hb5
  replace hsF := hsF.newB hb5
  replace hsS := hsS.newB hb5
  replace hX := hX.newB hb5
  replace hfar := hfar.trans (hb5.mono (by omega))
  replace hsz := Nat.le_trans hsz hb5.size
  obtain ⟨G5, hG5⟩ : ∃ G, w5.heap.size = G := ⟨_, rfl⟩
  have hGG5 : G4 ≤ G5 := by have := hb5.size; omega
  have LK := HLS.out k
  go_upto_region 8 with (refine st 36 rfl (by rfl) w_EEnc rfl rfl bk_ hz55 LK.sz one_ ?_)
  refine wp_gen (fun W => Blk W (0) (bandE) 133 ∧ SL W (loF) (hiF) (16) (pF) (n) (cF) (F.flatMap intsV) ∧ SL W (loS) (hiS) (1) (pS) (n) (cS) (strsV PS) ∧ Blk W (G) (arrV (SF n)) 36 ∧ Blk W (G5) (arrV (SF k)) 36 ∧ Below (B) w W ∧ G5 + 1 ≤ W.heap.size) ⟨bk_, sl_, sl_, bk_, bk_, bl_, sz_⟩ ?_
  clear hBW hsF hsS hX hfar hsz
  rintro w6 ⟨hBW, hsF, hsS, hX, hY, hfar, hsz⟩
  go_wp2_with fail
  go_loopw [16] (fun j wr => ∃ i : Nat, i ≤ n ∧ j = .int .i64 i ∧ Blk wr 0 bandE 133 ∧ SL wr loF hiF 16 pF n cF (F.flatMap intsV) ∧ SL wr loS hiS 1 pS n cS (strsV PS) ∧ Blk wr G (arrV (SF n)) 36 ∧ Blk wr G5 (arrV (SF i)) 36 ∧ Below B w wr ∧ G5 + 1 ≤ wr.heap.size) (fun j _ => n - (intOf j).toNat)
  case atStart => exact ⟨k, hkn, rfl, hBW, hsF, hsS, hX, hY, hfar, hsz⟩
  case round =>
    clear hBW hsF hsS hX hY hfar hsz
    obtain ⟨i, hi, rfl, hBW, hsF, hsS, hX, hY, hfar, hsz⟩ := hrel
    by_cases hlt : i < n
    · obtain ⟨b, P, q0, LB, q1, LS, LN, hen⟩ := HST.out i hlt
      have hlti : (i : Int) < n := by omega
      obtain ⟨gS, oS, rfl, -, -, -⟩ := hsS.form (by omega)
      have hcn : n ≤ cS := hsS.2.1
      have hcm := hsS.2.2.1
      unfold maxLen at hcm
      have hBS : BS wr loF hiF pF cF F := by unfold BS; rw [HN.out]; exact hsF
      obtain ⟨gF, oF, rfl, -, -, -⟩ := hBS.get HB16.out q0
      clear hBS
      obtain ⟨S0, hS0⟩ : ∃ S, SF i = S := ⟨_, rfl⟩
      obtain ⟨S1, hS1⟩ : ∃ S, SF (i + 1) = S := ⟨_, rfl⟩
      simp only [hS0, hS1] at LS LN hen hY
      have HD := Lib.hid hen
      have HS1 := Lib.hid hS1
      have HQ0 := Lib.hid q0
      have HQ1 := Lib.hid q1
      clear hen hS1 hS0 q0 q1
      have hrng : ∀ W, SL W loF hiF 16 (some ⟨gF, oF, none⟩) n cF (F.flatMap intsV) → W.rangeAt gF (oF + i * 16) (arrV b).toList := fun W h => by
        have hBS : BS W loF hiF (some ⟨gF, oF, none⟩) cF F := by unfold BS; rw [HN.out]; exact h
        obtain ⟨g, o, e, _, _, hr⟩ := hBS.get HB16.out HQ0.out
        cases e
        simpa using hr
      go_upto_region 13 with (fail)
      go_cut [17, 18, 19] from 70 to 97 (fun s17 s18 s19 wx => ∃ g2, s17 = .string P ∧ s18 = .pointer (some ⟨g2, 0, none⟩) ∧ s19 = .int .i64 0 ∧ Blk wx g2 (arrV S1) 36 ∧ Blk wx 0 bandE 133 ∧ SL wx loF hiF 16 (some ⟨gF, oF, none⟩) n cF (F.flatMap intsV) ∧ SL wx loS hiS 1 (some ⟨gS, oS, none⟩) n cS (strsV PS) ∧ Blk wx G (arrV (SF n)) 36 ∧ Blk wx G5 (arrV S0) 36 ∧ Below B w wx ∧ G5 + 1 ≤ wx.heap.size ∧ G5 < g2)
      case first =>
        refine wp_region_held_drew (S := fun W => Blk W (0) (bandE) 133 ∧ SL W (loF) (hiF) (16) (some ⟨gF, oF, none⟩) (n) (cF) (F.flatMap intsV) ∧ SL W (loS) (hiS) (1) (some ⟨gS, oS, none⟩) (n) (cS) (strsV PS) ∧ Blk W (G) (arrV (SF n)) 36 ∧ Blk W (G5) (arrV S0) 36 ∧ Below (B) w W ∧ G5 + 1 ≤ W.heap.size) (by kernel_rfl) (⟨hBW.drew, hsF.drew, hsS.drew, hX.drew, hY.drew, hfar.drew, hsz⟩) (fun hH => ?_)
        have hH2 := hH
        obtain ⟨hBW, hsF, hsS, hX, hY, hfar, hsz⟩ := hH2
        refine wpAnyH_take (i := 0) (oi := { dst := some 77, op := Op.load 36 (Operand.tmp 14), type := 36, pos := "law.go:148", after := _, guard := none }) (v := .agg (arrV S0)) rfl (by kernel_rfl) (by kernel_rfl) (by kernel_rfl) (fun _ _ _ h => h) (yieldsIf_ld (by rfl) 36 rfl w_EEnc rfl (fun _ hS => hS.2.2.2.2.1) zz_) hH ?_
        try simp only [Act.put, List.setIfInBounds_toArray, List.set_cons_zero, List.set_cons_succ]
        refine wpAnyH_take (i := 1) (oi := { dst := some 78, op := Op.move (Operand.tmp 8), type := 29, pos := "law.go:148", after := _, guard := none }) (v := _) rfl (by kernel_rfl) (by kernel_rfl) (by kernel_rfl) (fun _ _ _ h => h) (.inl ⟨by rfl, fun w hS => by (go_simp; try rfl)⟩) hH ?_
        try simp only [Act.put, List.setIfInBounds_toArray, List.set_cons_zero, List.set_cons_succ]
        refine wpAnyH_take (i := 2) (oi := { dst := some 79, op := Op.move (Operand.tmp 16), type := 3, pos := "law.go:148", after := _, guard := none }) (v := _) rfl (by kernel_rfl) (by kernel_rfl) (by kernel_rfl) (fun _ _ _ h => h) (.inl ⟨by rfl, fun w hS => by (go_simp; try rfl)⟩) hH ?_
        try simp only [Act.put, List.setIfInBounds_toArray, List.set_cons_zero, List.set_cons_succ]
        refine wpAnyH_take (i := 3) (oi := { dst := some 80, op := Op.indexAddr 29 (Operand.tmp 78) (Operand.tmp 79), type := 0, pos := "law.go:148", after := _, guard := none }) (v := _) rfl (by kernel_rfl) (by kernel_rfl) (by kernel_rfl) (fun _ _ _ h => h) (.inl ⟨by rfl, fun w hS => by (go_simp; try rfl)⟩) hH ?_
        try simp only [Act.put, List.setIfInBounds_toArray, List.set_cons_zero, List.set_cons_succ]
        refine wpAnyH_take (i := 4) (oi := { dst := some 81, op := Op.load 32 (Operand.tmp 80), type := 32, pos := "law.go:148", after := _, guard := none }) (v := .agg (arrV b)) rfl (by kernel_rfl) (by kernel_rfl) (by kernel_rfl) (fun _ _ _ h => h) (yieldsIf_ldr (by rfl) 32 rfl w_Block rfl (fun w hS => hrng w hS.2.1) LB.sz) hH ?_
        try simp only [Act.put, List.setIfInBounds_toArray, List.set_cons_zero, List.set_cons_succ]
        refine wpAnyH_take (i := 5) (oi := { dst := some 82, op := Op.move (Operand.tmp 7), type := 3, pos := "law.go:148", after := _, guard := none }) (v := _) rfl (by kernel_rfl) (by kernel_rfl) (by kernel_rfl) (fun _ _ _ h => h) (.inl ⟨by rfl, fun w hS => by (go_simp; try rfl)⟩) hH ?_
        try simp only [Act.put, List.setIfInBounds_toArray, List.set_cons_zero, List.set_cons_succ]
        refine wpAnyH_ready (rs := [6, 11]) (by kernel_rfl) (by simp) ?_
        refine AllReadyH.cons (o := { dst := some 83, op := Op.call { callee := Callee.value (Operand.func 11), args := #[Operand.tmp 77, Operand.tmp 81, Operand.tmp 82], argTypes := #[36, 32, 3] }, type := 38, pos := "law.go:148", after := _, guard := none }) rfl (fun K hK => ?_) ?_
        · rw [if_pos (by rfl)]
          go_simp
          refine (HD.out _ hBW).mono ?_
          rintro r wq ⟨rfl, hb⟩
          have hbs := hb.size
          try simp only [World.size_alloc, World.size_setCell, World.size_drew, size_setRow] at hbs
          go_wp2_with fail
          refine hK.out _ _ ⟨bk_, sl_, sl_, bk_, bk_, bl_, Nat.le_trans (sz_) hb.size⟩ (fun hH2 => ?_)
          clear hH
          have hH := hH2
          obtain ⟨hBW, hsF, hsS, hX, hY, hfar, hsz⟩ := hH2
          clear hK K
          try simp only [Act.put, List.setIfInBounds_toArray, List.set_cons_zero, List.set_cons_succ]
          refine wpAnyH_take (i := 7) (oi := { dst := some 76, op := Op.move (Operand.tmp 83), type := 38, pos := "law.go:148", after := _, guard := none }) (v := _) rfl (by kernel_rfl) (by kernel_rfl) (by kernel_rfl) (fun _ _ _ h => h) (.inl ⟨by rfl, fun w hS => by (go_simp; try rfl)⟩) hH ?_
          try simp only [Act.put, List.setIfInBounds_toArray, List.set_cons_zero, List.set_cons_succ]
          refine wpAnyH_take (i := 8) (oi := { dst := some 84, op := Op.extract (Operand.tmp 76) 0, type := 9, pos := "law.go:148", after := _, guard := none }) (v := _) rfl (by kernel_rfl) (by kernel_rfl) (by kernel_rfl) (fun _ _ _ h => h) (.inl ⟨by rfl, fun w hS => by (go_simp; try rfl)⟩) hH ?_
          try simp only [Act.put, List.setIfInBounds_toArray, List.set_cons_zero, List.set_cons_succ]
          refine wpAnyH_take (i := 9) (oi := { dst := some 85, op := Op.extract (Operand.tmp 76) 1, type := 36, pos := "law.go:148", after := _, guard := none }) (v := _) rfl (by kernel_rfl) (by kernel_rfl) (by kernel_rfl) (fun _ _ _ h => h) (.inl ⟨by rfl, fun w hS => by (go_simp; try rfl)⟩) hH ?_
          try simp only [Act.put, List.setIfInBounds_toArray, List.set_cons_zero, List.set_cons_succ]
          refine wpAnyH_take (i := 10) (oi := { dst := some 86, op := Op.extract (Operand.tmp 76) 2, type := 37, pos := "law.go:148", after := _, guard := none }) (v := _) rfl (by kernel_rfl) (by kernel_rfl) (by kernel_rfl) (fun _ _ _ h => h) (.inl ⟨by rfl, fun w hS => by (go_simp; try rfl)⟩) hH ?_
          try simp only [Act.put, List.setIfInBounds_toArray, List.set_cons_zero, List.set_cons_succ]
          refine wpAnyH_ready (rs := [11]) (by kernel_rfl) (by simp) ?_
          refine AllReadyH.cons (o := { dst := some 18, op := Op.alloc 36, type := 0, pos := "law.go:148", after := _, guard := none }) rfl (fun K hK => ?_) AllReadyH.nil
          rw [if_pos (by rfl)]
          go_simp
          refine hK.out _ _ ⟨bk_, sl_, sl_, bk_, bk_, bl_, sz_⟩ (fun hH2 => ?_)
          clear hH
          have hH := hH2
          obtain ⟨hBW, hsF, hsS, hX, hY, hfar, hsz⟩ := hH2
          clear hK K
          try simp only [Act.put, List.setIfInBounds_toArray, List.set_cons_zero, List.set_cons_succ]
          refine wpAnyH_take (i := 12) (oi := { dst := some 17, op := Op.assign (Operand.tmp 84), type := 9, pos := "law.go:148", after := _, guard := none }) (v := _) rfl (by kernel_rfl) (by kernel_rfl) (by kernel_rfl) (fun _ _ _ h => h) (.inl ⟨by rfl, fun w hS => by (go_simp; try rfl)⟩) hH ?_
          try simp only [Act.put, List.setIfInBounds_toArray, List.set_cons_zero, List.set_cons_succ]
          refine wpAnyH_ready (rs := [13]) (by kernel_rfl) (by simp) ?_
          refine AllReadyH.cons (o := { dst := none, op := Op.store 36 (Operand.tmp 18) (Operand.tmp 85), type := 0, pos := "law.go:148", after := _, guard := none }) rfl (fun K hK => ?_) AllReadyH.nil
          rw [if_pos (by rfl)]
          refine wp_st 36 rfl w_EEnc rfl rfl bk_ hz55 LN.sz one_ ?_
          refine hK.out _ _ ⟨bk_, sl_, sl_, bk_, bk_, bl_, sz_⟩ (fun hH2 => ?_)
          clear hH
          have hH := hH2
          obtain ⟨hBW, hsF, hsS, hX, hY, hfar, hsz⟩ := hH2
          clear hK K
          try simp only [Act.put]
          refine wpAnyH_take (i := 14) (oi := { dst := some 19, op := Op.assign (Operand.tmp 86), type := 37, pos := "law.go:148", after := _, guard := none }) (v := _) rfl (by kernel_rfl) (by kernel_rfl) (by kernel_rfl) (fun _ _ _ h => h) (.inl ⟨by rfl, fun w hS => by (go_simp; try rfl)⟩) hH ?_
          try simp only [Act.put, List.setIfInBounds_toArray, List.set_cons_zero, List.set_cons_succ]
          refine wpAnyH_done (by kernel_rfl) ?_ _
          go_wp2_with fail
          go_meet
          case rel => exact ⟨_, rfl, rfl, rfl, by exact bk_, hBW, hsF, hsS, hX, hY, hfar, hsz, by exact sz_⟩
        refine AllReadyH.cons (o := { dst := some 18, op := Op.alloc 36, type := 0, pos := "law.go:148", after := _, guard := none }) rfl (fun K hK => ?_) AllReadyH.nil
        rw [if_pos (by rfl)]
        go_simp
        refine hK.out _ _ ⟨bk_, sl_, sl_, bk_, bk_, bl_, sz_⟩ (fun hH2 => ?_)
        clear hH
        have hH := hH2
        obtain ⟨hBW, hsF, hsS, hX, hY, hfar, hsz⟩ := hH2
        clear hK K
        try simp only [Act.put, List.setIfInBounds_toArray, List.set_cons_zero, List.set_cons_succ]
        refine wpAnyH_ready (rs := [6]) (by kernel_rfl) (by simp) ?_
        refine AllReadyH.cons (o := { dst := some 83, op := Op.call { callee := Callee.value (Operand.func 11), args := #[Operand.tmp 77, Operand.tmp 81, Operand.tmp 82], argTypes := #[36, 32, 3] }, type := 38, pos := "law.go:148", after := _, guard := none }) rfl (fun K hK => ?_) AllReadyH.nil
        rw [if_pos (by rfl)]
        go_simp
        refine (HD.out _ hBW).mono ?_
        rintro r wq ⟨rfl, hb⟩
        have hbs := hb.size
        try simp only [World.size_alloc, World.size_setCell, World.size_drew, size_setRow] at hbs
        go_wp2_with fail
        refine hK.out _ _ ⟨bk_, sl_, sl_, bk_, bk_, bl_, Nat.le_trans (sz_) hb.size⟩ (fun hH2 => ?_)
        clear hH
        have hH := hH2
        obtain ⟨hBW, hsF, hsS, hX, hY, hfar, hsz⟩ := hH2
        clear hK K
        try simp only [Act.put, List.setIfInBounds_toArray, List.set_cons_zero, List.set_cons_succ]
        refine wpAnyH_take (i := 7) (oi := { dst := some 76, op := Op.move (Operand.tmp 83), type := 38, pos := "law.go:148", after := _, guard := none }) (v := _) rfl (by kernel_rfl) (by kernel_rfl) (by kernel_rfl) (fun _ _ _ h => h) (.inl ⟨by rfl, fun w hS => by (go_simp; try rfl)⟩) hH ?_
        try simp only [Act.put, List.setIfInBounds_toArray, List.set_cons_zero, List.set_cons_succ]
        refine wpAnyH_take (i := 8) (oi := { dst := some 84, op := Op.extract (Operand.tmp 76) 0, type := 9, pos := "law.go:148", after := _, guard := none }) (v := _) rfl (by kernel_rfl) (by kernel_rfl) (by kernel_rfl) (fun _ _ _ h => h) (.inl ⟨by rfl, fun w hS => by (go_simp; try rfl)⟩) hH ?_
        try simp only [Act.put, List.setIfInBounds_toArray, List.set_cons_zero, List.set_cons_succ]
        refine wpAnyH_take (i := 9) (oi := { dst := some 85, op := Op.extract (Operand.tmp 76) 1, type := 36, pos := "law.go:148", after := _, guard := none }) (v := _) rfl (by kernel_rfl) (by kernel_rfl) (by kernel_rfl) (fun _ _ _ h => h) (.inl ⟨by rfl, fun w hS => by (go_simp; try rfl)⟩) hH ?_
        try simp only [Act.put, List.setIfInBounds_toArray, List.set_cons_zero, List.set_cons_succ]
        refine wpAnyH_take (i := 10) (oi := { dst := some 86, op := Op.extract (Operand.tmp 76) 2, type := 37, pos := "law.go:148", after := _, guard := none }) (v := _) rfl (by kernel_rfl) (by kernel_rfl) (by kernel_rfl) (fun _ _ _ h => h) (.inl ⟨by rfl, fun w hS => by (go_simp; try rfl)⟩) hH ?_
        try simp only [Act.put, List.setIfInBounds_toArray, List.set_cons_zero, List.set_cons_succ]
        refine wpAnyH_take (i := 12) (oi := { dst := some 17, op := Op.assign (Operand.tmp 84), type := 9, pos := "law.go:148", after := _, guard := none }) (v := _) rfl (by kernel_rfl) (by kernel_rfl) (by kernel_rfl) (fun _ _ _ h => h) (.inl ⟨by rfl, fun w hS => by (go_simp; try rfl)⟩) hH ?_
        try simp only [Act.put, List.setIfInBounds_toArray, List.set_cons_zero, List.set_cons_succ]
        refine wpAnyH_ready (rs := [13]) (by kernel_rfl) (by simp) ?_
        refine AllReadyH.cons (o := { dst := none, op := Op.store 36 (Operand.tmp 18) (Operand.tmp 85), type := 0, pos := "law.go:148", after := _, guard := none }) rfl (fun K hK => ?_) AllReadyH.nil
        rw [if_pos (by rfl)]
        refine wp_st 36 rfl w_EEnc rfl rfl bk_ hz55 LN.sz one_ ?_
        refine hK.out _ _ ⟨bk_, sl_, sl_, bk_, bk_, bl_, sz_⟩ (fun hH2 => ?_)
        clear hH
        have hH := hH2
        obtain ⟨hBW, hsF, hsS, hX, hY, hfar, hsz⟩ := hH2
        clear hK K
        try simp only [Act.put]
        refine wpAnyH_take (i := 14) (oi := { dst := some 19, op := Op.assign (Operand.tmp 86), type := 37, pos := "law.go:148", after := _, guard := none }) (v := _) rfl (by kernel_rfl) (by kernel_rfl) (by kernel_rfl) (fun _ _ _ h => h) (.inl ⟨by rfl, fun w hS => by (go_simp; try rfl)⟩) hH ?_
        try simp only [Act.put, List.setIfInBounds_toArray, List.set_cons_zero, List.set_cons_succ]
        refine wpAnyH_done (by kernel_rfl) ?_ _
        go_wp2_with fail
        go_meet
        case rel => exact ⟨_, rfl, rfl, rfl, by exact bk_, hBW, hsF, hsS, hX, hY, hfar, hsz, by exact sz_⟩
      case rest =>
        clear hBW hsF hsS hX hY hfar hsz
        obtain ⟨g2, rfl, rfl, rfl, hN2, hBW, hsF, hsS, hX, hY, hfar, hsz, hg2⟩ := hcut
        have c0 := hsS.str HQ1.out
        go_wp2_with (first | (refine ld 36 rfl (by rfl) w_EEnc rfl hN2 LN.sz ?_) | (refine st 36 rfl (by rfl) w_EEnc rfl rfl hY LS.sz LN.sz one_ ?_))
        go_roundw
        case rel => exact ⟨i + 1, hlt, by go_num, by exact bk_, by exact sl_, by exact sl_, by exact bk_, by rw [HS1.out]; exact Blk.setRow hY, by exact bl_, by exact sz_⟩
        case measure => simp [intOf]; omega
    · obtain rfl : i = n := by omega
      have LI := HLS.out i
      go_wp2_with (first | (refine ld 36 rfl (by rfl) w_EEnc rfl hX LI.sz ?_) | (refine ld 36 rfl (by rfl) w_EEnc rfl hY LI.sz ?_) | (refine eqw 36 rfl (by rfl) rfl rfl eg_EEnc (eq_eenc LI) ?_))
      go_ret
      exact ⟨rfl, (by (try rw [hB]); exact bl_)⟩
end Go.Proofs.YthpjkgpngbdhbaaGreatDoor
