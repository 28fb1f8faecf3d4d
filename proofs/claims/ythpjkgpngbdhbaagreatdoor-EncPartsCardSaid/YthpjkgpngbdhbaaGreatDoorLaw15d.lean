/- The walk of spoollaw15.EncDecodes: whatever comes in, it returns true. -/
import Derived.Test.YthpjkgpngbdhbaaGreatDoorLaw15c
set_option linter.unusedSimpArgs false
set_option linter.unusedVariables false
namespace Go.Proofs.YthpjkgpngbdhbaaGreatDoor
open Go.RowKit

/-- A string of a slice of strings. -/
theorem SL.str {W : World} {lo hi g o n c : Nat} {ps : List ByteArray} (h : SL W lo hi 1 (some ⟨g, o, none⟩) n c (strsV ps)) {i : Nat} {P : ByteArray} (hp : ps[i]? = some P) : W.cell? ⟨g, o + i, none⟩ = some (.string P) :=
  h.2.2.2.2.2.2 _ rfl i _ (by unfold strsV; rw [List.getElem?_map, hp]; rfl)
/-- What All answers, of a slice that is read. -/
theorem All_sl {m : Nat} (hm : m ≤ 22) {l : List (List Int)} {n : Nat} (hn : l.length = n) (hl : n ≤ 1000) (hS : ∀ b ∈ l, S16 b) (p : Option Addr) (lo hi cap : Nat) (w : World) (hW : BandsW w) (hB : SL w lo hi 16 p n cap (l.flatMap intsV)) :
    Calls Tryz.prog 21 #[.slice p n cap, .int .i64 (10 + (m : Int))] w fun e w' => ∃ p2 c2 lo2 hi2, e = .returned (.tuple #[.slice p2 n c2, .agg (arrV (allE (10 + m) e0 l).2.l), .int .i64 0]) ∧ SL w' lo2 hi2 1 p2 n c2 (strsV (allE (10 + m) e0 l).1) ∧ w.heap.size ≤ lo2 ∧ hi2 ≤ w'.heap.size ∧ Below w.heap.size w w' := by
  subst hn
  have hc : (((10 + m : Nat)) : Int) = 10 + (m : Int) := by omega
  have h := All_any (size := 10 + m) (by omega) (by omega) l hl hS p lo hi cap w hW hB
  rw [hc] at h
  refine h.mono ?_
  rintro e w2 ⟨v, rfl, hv, hb⟩
  obtain ⟨p2, c2, rfl, hs⟩ := hv.sl
  have hln := (allE_ok (size := 10 + m) (by omega) (by omega) l e0 e0_ok hS).2.1
  rw [hln] at hs ⊢
  exact ⟨p2, c2, _, _, rfl, hs, Nat.le_refl _, Nat.le_refl _, hb⟩
/-- One packet of All, decoded. -/
theorem dec_step {size : Nat} (h0 : 10 ≤ size) (h1 : size ≤ 32) {l : List (List Int)} (hS : ∀ b ∈ l, S16 b) {i : Nat} (hi : i < l.length) :
    ∃ (P : ByteArray) (O : List Int), (allE size e0 l).1[i]? = some P ∧ P.size = size ∧ Len O 16 ∧ Len (allE size e0 (l.take i)).2.L 38 ∧ Len (allE size e0 (l.take (i + 1))).2.L 38 ∧
      (∀ w, BandsW w → Calls Tryz.prog 22 #[.agg (arrV (allE size e0 (l.take i)).2.L), .string P] w fun e w' => e = .returned (.tuple #[.agg (arrV O), .agg (arrV (allE size e0 (l.take (i + 1))).2.L), .int .i64 0]) ∧ Below w.heap.size w w') ∧
      ∀ b, l[i]? = some b → O = outE size (allE size e0 (l.take i)).2 b := by
  obtain ⟨b, hb⟩ : ∃ b, l[i]? = some b := ⟨_, List.getElem?_eq_getElem hi⟩
  have hok : ∀ k, (allE size e0 (l.take k)).2.Ok := fun k => (allE_ok h0 h1 (l.take k) e0 e0_ok (fun b hb => hS b (List.mem_of_mem_take hb))).1
  obtain ⟨g1, g2⟩ := allE_get (size := size) l e0 i b hb
  have hg := packE_good h0 h1 (hok i) b
  have hps := packE_size h0 (hok i) b
  have hd := dec_good (allE size e0 (l.take i)).2.L (packE size (allE size e0 (l.take i)).2 b) (by rw [hps]; exact ⟨h0, h1⟩) (right_st (hok i))
  refine ⟨_, _, g1, hps, Len.mk hd.2.1, Len.mk (hok i).2.1, Len.mk (hok (i + 1)).2.1, fun w hW => ?_, fun b' hb' => ?_⟩
  · have h := Decode_any (allE size e0 (l.take i)).2.L (hok i).2.1 (packE size (allE size e0 (l.take i)).2 b) w hW
    rw [hg, ← nextE_L, ← g2] at h
    exact h
  · rw [hb] at hb'; cases hb'; rfl
set_option maxRecDepth 100000 in
set_option maxHeartbeats 8000000 in
theorem EncDecodes_any (l : List (List Int)) (p : Option Addr) (cap : Nat) (sz : Int) (hs : 0 ≤ sz ∧ sz ≤ 255) (w : World) (hW : BandsW w) (hE : SixIn w p cap l) :
    Calls Tryz.prog 6 #[.slice p l.length cap, .int .u8 sz] w fun e w' => e = .returned (.bool true) ∧ Below w.heap.size w w' := by
  obtain ⟨m, hm, hm22⟩ := size23 hs
  have hS16 : ∀ b ∈ frames l, S16 b := frames_s16 hE
  have hln30 : (frames l).length ≤ 30 := by rw [frames_len]; omega
  obtain ⟨n, hn⟩ : ∃ n, (frames l).length = n := ⟨_, rfl⟩
  have hfr := fun w h => Frames_sl l hn p cap w h
  rw [hn] at hln30
  have hal := fun p lo hi cap w hW hB => All_sl hm22 hn (by omega) hS16 p lo hi cap w hW hB
  have hst := fun i (hi : i < n) => dec_step (size := 10 + m) (by omega) (by omega) hS16 (i := i) (by omega)
  have hok := (allE_ok (size := 10 + m) (by omega) (by omega) (frames l) e0 e0_ok hS16).1
  have LX := Len.mk (est_len hok)
  have hfin : ((frames l).take n) = frames l := List.take_of_length_le (by omega)
  obtain ⟨X, hX⟩ : ∃ X, (allE (10 + m) e0 (frames l)).2 = X := ⟨_, rfl⟩
  have hXL : ((X.l.drop 17).take 38) = X.L := by
    rw [← hX]
    have e : ∀ Y : ESt, Y.Ok → (Y.l.drop 17).take 38 = Y.L := fun Y hY => by
      have e1 : Y.l.drop 17 = Y.L := by unfold ESt.l encL; rw [List.drop_append]; simp [hY.1]
      rw [e1]; exact List.take_of_length_le (by rw [hY.2.1]; exact Nat.le_refl _)
    exact e _ hok
  obtain ⟨F, hF⟩ : ∃ F, frames l = F := ⟨_, rfl⟩
  obtain ⟨PS, hPS⟩ : ∃ PS, (allE (10 + m) e0 F).1 = PS := ⟨_, rfl⟩
  simp only [hF] at hfr hal hst hX hfin
  simp only [hPS] at hal hst
  simp only [hX] at hal
  rw [hF, hX] at LX
  obtain ⟨SF, hSF⟩ : ∃ SF : Nat → List Int, (fun i => (allE (10 + m) e0 (F.take i)).2.L) = SF := ⟨_, rfl⟩
  have hSFi : ∀ i, (allE (10 + m) e0 (F.take i)).2.L = SF i := fun i => by rw [← hSF]
  simp only [hSFi] at hst
  have hs0 : SF 0 = zs 38 := by rw [← hSFi]; rfl
  have hsn : SF n = X.L := by rw [← hSFi, hfin, hX]
  have hst2 : ∀ i, i < n → ∃ (P : ByteArray) (O : List Int), PS[i]? = some P ∧ P.size = 10 + m ∧ Len O 16 ∧ Len (SF i) 38 ∧ Len (SF (i + 1)) 38 ∧ (∀ w, BandsW w → Calls Tryz.prog 22 #[.agg (arrV (SF i)), .string P] w fun e w' => e = .returned (.tuple #[.agg (arrV O), .agg (arrV (SF (i + 1))), .int .i64 0]) ∧ Below w.heap.size w w') := fun i hi => by
    obtain ⟨P, O, q1, q2, q3, q4, q5, q6, _⟩ := hst i hi
    exact ⟨P, O, q1, q2, q3, q4, q5, q6⟩
  have HFR := Lib.hid hfr
  have HAL := Lib.hid hal
  have HST := Lib.hid hst2
  have HXL := Lib.hid hXL
  have HSN := Lib.hid hsn
  have HS0 := Lib.hid hs0
  have HE := Lib.hid hE
  have hcl := hE.1
  clear hfr hal hst hst2 hSFi hSF hs0 hsn hXL hX hPS hF hfin hok hS16 hn hE
  have hz55 : ((List.toArray (Value.int .i64 0 :: Value.int .i64 0 :: Value.int .i64 0 :: Value.int .i64 0 :: Value.int .i64 0 :: Value.int .i64 0 :: Value.int .i64 0 :: Value.int .i64 0 :: Value.int .i64 0 :: Value.int .i64 0 :: Value.int .i64 0 :: Value.int .i64 0 :: Value.int .i64 0 :: Value.int .i64 0 :: Value.int .i64 0 :: Value.int .i64 0 :: Value.int .i64 0 :: Value.int .i64 0 :: Value.int .i64 0 :: Value.int .i64 0 :: Value.int .i64 0 :: Value.int .i64 0 :: Value.int .i64 0 :: Value.int .i64 0 :: Value.int .i64 0 :: Value.int .i64 0 :: Value.int .i64 0 :: Value.int .i64 0 :: Value.int .i64 0 :: Value.int .i64 0 :: Value.int .i64 0 :: Value.int .i64 0 :: Value.int .i64 0 :: Value.int .i64 0 :: Value.int .i64 0 :: Value.int .i64 0 :: Value.int .i64 0 :: Value.int .i64 0 :: Value.int .i64 0 :: Value.int .i64 0 :: Value.int .i64 0 :: Value.int .i64 0 :: Value.int .i64 0 :: Value.int .i64 0 :: Value.int .i64 0 :: Value.int .i64 0 :: Value.int .i64 0 :: Value.int .i64 0 :: Value.int .i64 0 :: Value.int .i64 0 :: Value.int .i64 0 :: Value.int .i64 0 :: Value.int .i64 0 :: Value.int .i64 0 :: Value.int .i64 0 :: [])) : Array Value).size = 55 := by rfl
  have hBW : Blk w 0 bandE 133 := hW
  have h0 : 0 < w.heap.size := hW.lt
  obtain ⟨B, hB⟩ : ∃ B, w.heap.size = B := ⟨_, rfl⟩
  rw [hB] at h0
  have hfar := Below.refl B w
  have hsz : B ≤ w.heap.size := by omega
  go_enter Tryz.func6, Tryz.ntmps6
  go_wp2_with fail
  refine (awake15_any _ hBW).mono ?_
  rintro e w1 ⟨rfl, hb1⟩
  replace hBW := hBW.newB hb1
  replace hfar := hfar.trans (hb1.mono (by omega))
  replace hsz := Nat.le_trans hsz hb1.size
  go_upto_region 4 with (fail)
  go_wp2_with fail
  refine (HFR.out _ (HE.out.below hB.symm hfar)).mono ?_
  rintro e w2 ⟨pF, cF, loF, hiF, rfl, hsF, -, -, hb2⟩
  replace hBW := hBW.newB hb2
  replace hfar := hfar.trans (hb2.mono (by omega))
  replace hsz := Nat.le_trans hsz hb2.size
  go_wp2_with fail
  refine (HAL.out _ _ _ _ _ hBW hsF).mono ?_
  rintro e w3 ⟨pS, cS, loS, hiS, rfl, hsS, hloS, hhiS, hb3⟩
  clear hsF
  have hloS2 : B ≤ loS := by omega
  clear hloS
  replace hBW := hBW.newB hb3
  replace hfar := hfar.trans (hb3.mono (by omega))
  replace hsz := Nat.le_trans hsz hb3.size
  obtain ⟨G, hG⟩ : ∃ G, w3.heap.size = G := ⟨_, rfl⟩
  have hBG : B ≤ G := by omega
  rw [hG] at hhiS
  go_upto_region 6 with (refine st 36 rfl (by rfl) w_EEnc rfl rfl bk_ hz55 LX.sz one_ ?_)
  refine wp_gen (fun W => Blk W (0) (bandE) 133 ∧ SL W (loS) (hiS) (1) (pS) (n) (cS) (strsV PS) ∧ Blk W (G) (arrV X.l) 36 ∧ Below (B) w W ∧ G + 1 ≤ W.heap.size) ⟨bk_, sl_, bk_, bl_, sz_⟩ ?_
  clear hBW hsS hfar hsz
  rintro w4 ⟨hBW, hsS, hX, hfar, hsz⟩
  obtain ⟨G2, hG2⟩ : ∃ g, w4.heap.size = g := ⟨_, rfl⟩
  have hGG : G + 1 ≤ G2 := by omega
  go_upto_region 9 with (fail)
  refine wp_gen (fun W => Blk W (0) (bandE) 133 ∧ SL W (loS) (hiS) (1) (pS) (n) (cS) (strsV PS) ∧ Blk W (G) (arrV X.l) 36 ∧ Blk W (G2) (arrV (zs 38)) 34 ∧ Below (B) w W ∧ G2 + 1 ≤ W.heap.size) ⟨bk_, sl_, bk_, bk_, bl_, sz_⟩ ?_
  clear hBW hsS hX hfar hsz
  rintro w5 ⟨hBW, hsS, hX, hS, hfar, hsz⟩
  rw [← HS0.out] at hS
  go_wp2_with fail
  go_loopw [11] (fun j wr => ∃ i : Nat, i ≤ n ∧ j = .int .i64 i ∧ Blk wr 0 bandE 133 ∧ SL wr loS hiS 1 pS n cS (strsV PS) ∧ Blk wr G (arrV X.l) 36 ∧ Blk wr G2 (arrV (SF i)) 34 ∧ Below B w wr ∧ G2 + 1 ≤ wr.heap.size) (fun j _ => n - (intOf j).toNat)
  case atStart => exact ⟨0, by omega, rfl, hBW, hsS, hX, hS, hfar, hsz⟩
  case round =>
    clear hBW hsS hX hS hfar hsz
    obtain ⟨i, hi, rfl, hBW, hsS, hX, hS, hfar, hsz⟩ := hrel
    by_cases hlt : i < n
    · obtain ⟨P, O, q1, q2, LO, LS, LN, hde⟩ := HST.out i hlt
      have hlti : (i : Int) < n := by omega
      have hP : (P.size : Int) = 10 + (m : Int) := by omega
      obtain ⟨gS, oS, rfl, -, -, -⟩ := hsS.form (by omega)
      have hcn : n ≤ cS := hsS.2.1
      have hcm := hsS.2.2.1
      unfold maxLen at hcm
      obtain ⟨S0, hS0⟩ : ∃ S, SF i = S := ⟨_, rfl⟩
      obtain ⟨S1, hS1⟩ : ∃ S, SF (i + 1) = S := ⟨_, rfl⟩
      simp only [hS0, hS1] at LS LN hde hS
      have HD := Lib.hid hde
      have HS1 := Lib.hid hS1
      have HQ1 := Lib.hid q1
      clear hde hS1 hS0 q1 q2
      go_upto_region 12 with (fail)
      go_cut [12, 13, 14] from 39 to 66 (fun s12 s13 s14 wx => ∃ g1 g2, s12 = .pointer (some ⟨g1, 0, none⟩) ∧ s13 = .pointer (some ⟨g2, 0, none⟩) ∧ s14 = .int .i64 0 ∧ Blk wx g2 (arrV S1) 34 ∧ Blk wx 0 bandE 133 ∧ SL wx loS hiS 1 (some ⟨gS, oS, none⟩) n cS (strsV PS) ∧ Blk wx G (arrV X.l) 36 ∧ Blk wx G2 (arrV S0) 34 ∧ Below B w wx ∧ G2 + 1 ≤ wx.heap.size ∧ G2 < g2)
      case first =>
        refine wp_region_held_drew (S := fun W => Blk W (0) (bandE) 133 ∧ SL W (loS) (hiS) (1) (some ⟨gS, oS, none⟩) (n) (cS) (strsV PS) ∧ Blk W (G) (arrV X.l) 36 ∧ Blk W (G2) (arrV S0) 34 ∧ Below (B) w W ∧ G2 + 1 ≤ W.heap.size) (by kernel_rfl) (⟨hBW.drew, hsS.drew, hX.drew, hS.drew, hfar.drew, hsz⟩) (fun hH => ?_)
        have hH2 := hH
        obtain ⟨hBW, hsS, hX, hS, hfar, hsz⟩ := hH2
        refine wpAnyH_take (i := 0) (oi := { dst := some 46, op := Op.load 34 (Operand.tmp 10), type := 34, pos := "law.go:74", after := _, guard := none }) (v := .agg (arrV S0)) rfl (by kernel_rfl) (by kernel_rfl) (by kernel_rfl) (fun _ _ _ h => h) (yieldsIf_ld (by rfl) 34 rfl w_State rfl (fun _ hS => hS.2.2.2.1) zz_) hH ?_
        try simp only [Act.put, List.setIfInBounds_toArray, List.set_cons_zero, List.set_cons_succ]
        refine wpAnyH_take (i := 1) (oi := { dst := some 47, op := Op.move (Operand.tmp 7), type := 53, pos := "law.go:74", after := _, guard := none }) (v := _) rfl (by kernel_rfl) (by kernel_rfl) (by kernel_rfl) (fun _ _ _ h => h) (.inl ⟨by rfl, fun w hS => by (go_simp; try rfl)⟩) hH ?_
        try simp only [Act.put, List.setIfInBounds_toArray, List.set_cons_zero, List.set_cons_succ]
        refine wpAnyH_take (i := 2) (oi := { dst := some 48, op := Op.move (Operand.tmp 11), type := 3, pos := "law.go:74", after := _, guard := none }) (v := _) rfl (by kernel_rfl) (by kernel_rfl) (by kernel_rfl) (fun _ _ _ h => h) (.inl ⟨by rfl, fun w hS => by (go_simp; try rfl)⟩) hH ?_
        try simp only [Act.put, List.setIfInBounds_toArray, List.set_cons_zero, List.set_cons_succ]
        refine wpAnyH_take (i := 3) (oi := { dst := some 49, op := Op.indexAddr 53 (Operand.tmp 47) (Operand.tmp 48), type := 0, pos := "law.go:74", after := _, guard := none }) (v := _) rfl (by kernel_rfl) (by kernel_rfl) (by kernel_rfl) (fun _ _ _ h => h) (.inl ⟨by rfl, fun w hS => by (go_simp; try rfl)⟩) hH ?_
        try simp only [Act.put, List.setIfInBounds_toArray, List.set_cons_zero, List.set_cons_succ]
        refine wpAnyH_take (i := 4) (oi := { dst := some 50, op := Op.load 9 (Operand.tmp 49), type := 9, pos := "law.go:74", after := _, guard := none }) (v := _) rfl (by kernel_rfl) (by kernel_rfl) (by kernel_rfl) (fun _ _ _ h => h) (.inl ⟨by rfl, fun w hS => by (have c := hS.2.1.str HQ1.out; go_simp; try rfl)⟩) hH ?_
        try simp only [Act.put, List.setIfInBounds_toArray, List.set_cons_zero, List.set_cons_succ]
        refine wpAnyH_ready (rs := [5, 10, 11]) (by kernel_rfl) (by simp) ?_
        refine AllReadyH.cons (o := { dst := some 51, op := Op.call { callee := Callee.value (Operand.func 22), args := #[Operand.tmp 46, Operand.tmp 50], argTypes := #[34, 9] }, type := 56, pos := "law.go:74", after := _, guard := none }) rfl (fun K hK => ?_) ?_
        · rw [if_pos (by rfl)]
          go_simp
          refine (HD.out _ hBW).mono ?_
          rintro r wq ⟨rfl, hb⟩
          have hbs := hb.size
          try simp only [World.size_alloc, World.size_setCell, World.size_drew, size_setRow] at hbs
          go_wp2_with fail
          refine hK.out _ _ ⟨bk_, sl_, bk_, bk_, bl_, Nat.le_trans (sz_) hb.size⟩ (fun hH2 => ?_)
          clear hH
          have hH := hH2
          obtain ⟨hBW, hsS, hX, hS, hfar, hsz⟩ := hH2
          clear hK K
          try simp only [Act.put, List.setIfInBounds_toArray, List.set_cons_zero, List.set_cons_succ]
          refine wpAnyH_take (i := 6) (oi := { dst := some 45, op := Op.move (Operand.tmp 51), type := 56, pos := "law.go:74", after := _, guard := none }) (v := _) rfl (by kernel_rfl) (by kernel_rfl) (by kernel_rfl) (fun _ _ _ h => h) (.inl ⟨by rfl, fun w hS => by (go_simp; try rfl)⟩) hH ?_
          try simp only [Act.put, List.setIfInBounds_toArray, List.set_cons_zero, List.set_cons_succ]
          refine wpAnyH_take (i := 7) (oi := { dst := some 52, op := Op.extract (Operand.tmp 45) 0, type := 32, pos := "law.go:74", after := _, guard := none }) (v := _) rfl (by kernel_rfl) (by kernel_rfl) (by kernel_rfl) (fun _ _ _ h => h) (.inl ⟨by rfl, fun w hS => by (go_simp; try rfl)⟩) hH ?_
          try simp only [Act.put, List.setIfInBounds_toArray, List.set_cons_zero, List.set_cons_succ]
          refine wpAnyH_take (i := 8) (oi := { dst := some 53, op := Op.extract (Operand.tmp 45) 1, type := 34, pos := "law.go:74", after := _, guard := none }) (v := _) rfl (by kernel_rfl) (by kernel_rfl) (by kernel_rfl) (fun _ _ _ h => h) (.inl ⟨by rfl, fun w hS => by (go_simp; try rfl)⟩) hH ?_
          try simp only [Act.put, List.setIfInBounds_toArray, List.set_cons_zero, List.set_cons_succ]
          refine wpAnyH_take (i := 9) (oi := { dst := some 54, op := Op.extract (Operand.tmp 45) 2, type := 37, pos := "law.go:74", after := _, guard := none }) (v := _) rfl (by kernel_rfl) (by kernel_rfl) (by kernel_rfl) (fun _ _ _ h => h) (.inl ⟨by rfl, fun w hS => by (go_simp; try rfl)⟩) hH ?_
          try simp only [Act.put, List.setIfInBounds_toArray, List.set_cons_zero, List.set_cons_succ]
          refine wpAnyH_ready (rs := [10, 11]) (by kernel_rfl) (by simp) ?_
          refine AllReadyH.cons (o := { dst := some 12, op := Op.alloc 32, type := 0, pos := "law.go:74", after := _, guard := none }) rfl (fun K hK => ?_) ?_
          · rw [if_pos (by rfl)]
            go_simp
            refine hK.out _ _ ⟨bk_, sl_, bk_, bk_, bl_, sz_⟩ (fun hH2 => ?_)
            clear hH
            have hH := hH2
            obtain ⟨hBW, hsS, hX, hS, hfar, hsz⟩ := hH2
            clear hK K
            try simp only [Act.put, List.setIfInBounds_toArray, List.set_cons_zero, List.set_cons_succ]
            refine wpAnyH_ready (rs := [11]) (by kernel_rfl) (by simp) ?_
            refine AllReadyH.cons (o := { dst := some 13, op := Op.alloc 34, type := 0, pos := "law.go:74", after := _, guard := none }) rfl (fun K hK => ?_) AllReadyH.nil
            rw [if_pos (by rfl)]
            go_simp
            refine hK.out _ _ ⟨bk_, sl_, bk_, bk_, bl_, sz_⟩ (fun hH2 => ?_)
            clear hH
            have hH := hH2
            obtain ⟨hBW, hsS, hX, hS, hfar, hsz⟩ := hH2
            clear hK K
            try simp only [Act.put, List.setIfInBounds_toArray, List.set_cons_zero, List.set_cons_succ]
            refine wpAnyH_ready (rs := [12]) (by kernel_rfl) (by simp) ?_
            refine AllReadyH.cons (o := { dst := none, op := Op.store 32 (Operand.tmp 12) (Operand.tmp 52), type := 0, pos := "law.go:74", after := _, guard := none }) rfl (fun K hK => ?_) AllReadyH.nil
            rw [if_pos (by rfl)]
            refine wp_st 32 rfl w_Block rfl rfl bk_ zz_ zz_ one_ ?_
            refine hK.out _ _ ⟨bk_, sl_, bk_, bk_, bl_, sz_⟩ (fun hH2 => ?_)
            clear hH
            have hH := hH2
            obtain ⟨hBW, hsS, hX, hS, hfar, hsz⟩ := hH2
            clear hK K
            try simp only [Act.put]
            refine wpAnyH_ready (rs := [13]) (by kernel_rfl) (by simp) ?_
            refine AllReadyH.cons (o := { dst := none, op := Op.store 34 (Operand.tmp 13) (Operand.tmp 53), type := 0, pos := "law.go:74", after := _, guard := none }) rfl (fun K hK => ?_) AllReadyH.nil
            rw [if_pos (by rfl)]
            refine wp_st 34 rfl w_State rfl rfl bk_ zz_ zz_ one_ ?_
            refine hK.out _ _ ⟨bk_, sl_, bk_, bk_, bl_, sz_⟩ (fun hH2 => ?_)
            clear hH
            have hH := hH2
            obtain ⟨hBW, hsS, hX, hS, hfar, hsz⟩ := hH2
            clear hK K
            try simp only [Act.put]
            refine wpAnyH_take (i := 14) (oi := { dst := some 14, op := Op.assign (Operand.tmp 54), type := 37, pos := "law.go:74", after := _, guard := none }) (v := _) rfl (by kernel_rfl) (by kernel_rfl) (by kernel_rfl) (fun _ _ _ h => h) (.inl ⟨by rfl, fun w hS => by (go_simp; try rfl)⟩) hH ?_
            try simp only [Act.put, List.setIfInBounds_toArray, List.set_cons_zero, List.set_cons_succ]
            refine wpAnyH_done (by kernel_rfl) ?_ _
            go_wp2_with fail
            go_meet
            case rel => exact ⟨_, _, rfl, rfl, rfl, by exact bk_, hBW, hsS, hX, hS, hfar, hsz, by exact sz_⟩
          refine AllReadyH.cons (o := { dst := some 13, op := Op.alloc 34, type := 0, pos := "law.go:74", after := _, guard := none }) rfl (fun K hK => ?_) AllReadyH.nil
          rw [if_pos (by rfl)]
          go_simp
          refine hK.out _ _ ⟨bk_, sl_, bk_, bk_, bl_, sz_⟩ (fun hH2 => ?_)
          clear hH
          have hH := hH2
          obtain ⟨hBW, hsS, hX, hS, hfar, hsz⟩ := hH2
          clear hK K
          try simp only [Act.put, List.setIfInBounds_toArray, List.set_cons_zero, List.set_cons_succ]
          refine wpAnyH_ready (rs := [10]) (by kernel_rfl) (by simp) ?_
          refine AllReadyH.cons (o := { dst := some 12, op := Op.alloc 32, type := 0, pos := "law.go:74", after := _, guard := none }) rfl (fun K hK => ?_) AllReadyH.nil
          rw [if_pos (by rfl)]
          go_simp
          refine hK.out _ _ ⟨bk_, sl_, bk_, bk_, bl_, sz_⟩ (fun hH2 => ?_)
          clear hH
          have hH := hH2
          obtain ⟨hBW, hsS, hX, hS, hfar, hsz⟩ := hH2
          clear hK K
          try simp only [Act.put, List.setIfInBounds_toArray, List.set_cons_zero, List.set_cons_succ]
          refine wpAnyH_ready (rs := [12]) (by kernel_rfl) (by simp) ?_
          refine AllReadyH.cons (o := { dst := none, op := Op.store 32 (Operand.tmp 12) (Operand.tmp 52), type := 0, pos := "law.go:74", after := _, guard := none }) rfl (fun K hK => ?_) AllReadyH.nil
          rw [if_pos (by rfl)]
          refine wp_st 32 rfl w_Block rfl rfl bk_ zz_ zz_ one_ ?_
          refine hK.out _ _ ⟨bk_, sl_, bk_, bk_, bl_, sz_⟩ (fun hH2 => ?_)
          clear hH
          have hH := hH2
          obtain ⟨hBW, hsS, hX, hS, hfar, hsz⟩ := hH2
          clear hK K
          try simp only [Act.put]
          refine wpAnyH_ready (rs := [13]) (by kernel_rfl) (by simp) ?_
          refine AllReadyH.cons (o := { dst := none, op := Op.store 34 (Operand.tmp 13) (Operand.tmp 53), type := 0, pos := "law.go:74", after := _, guard := none }) rfl (fun K hK => ?_) AllReadyH.nil
          rw [if_pos (by rfl)]
          refine wp_st 34 rfl w_State rfl rfl bk_ zz_ zz_ one_ ?_
          refine hK.out _ _ ⟨bk_, sl_, bk_, bk_, bl_, sz_⟩ (fun hH2 => ?_)
          clear hH
          have hH := hH2
          obtain ⟨hBW, hsS, hX, hS, hfar, hsz⟩ := hH2
          clear hK K
          try simp only [Act.put]
          refine wpAnyH_take (i := 14) (oi := { dst := some 14, op := Op.assign (Operand.tmp 54), type := 37, pos := "law.go:74", after := _, guard := none }) (v := _) rfl (by kernel_rfl) (by kernel_rfl) (by kernel_rfl) (fun _ _ _ h => h) (.inl ⟨by rfl, fun w hS => by (go_simp; try rfl)⟩) hH ?_
          try simp only [Act.put, List.setIfInBounds_toArray, List.set_cons_zero, List.set_cons_succ]
          refine wpAnyH_done (by kernel_rfl) ?_ _
          go_wp2_with fail
          go_meet
          case rel => exact ⟨_, _, rfl, rfl, rfl, by exact bk_, hBW, hsS, hX, hS, hfar, hsz, by exact sz_⟩
        refine AllReadyH.cons (o := { dst := some 12, op := Op.alloc 32, type := 0, pos := "law.go:74", after := _, guard := none }) rfl (fun K hK => ?_) ?_
        · rw [if_pos (by rfl)]
          go_simp
          refine hK.out _ _ ⟨bk_, sl_, bk_, bk_, bl_, sz_⟩ (fun hH2 => ?_)
          clear hH
          have hH := hH2
          obtain ⟨hBW, hsS, hX, hS, hfar, hsz⟩ := hH2
          clear hK K
          try simp only [Act.put, List.setIfInBounds_toArray, List.set_cons_zero, List.set_cons_succ]
          refine wpAnyH_ready (rs := [5, 11]) (by kernel_rfl) (by simp) ?_
          refine AllReadyH.cons (o := { dst := some 51, op := Op.call { callee := Callee.value (Operand.func 22), args := #[Operand.tmp 46, Operand.tmp 50], argTypes := #[34, 9] }, type := 56, pos := "law.go:74", after := _, guard := none }) rfl (fun K hK => ?_) ?_
          · rw [if_pos (by rfl)]
            go_simp
            refine (HD.out _ hBW).mono ?_
            rintro r wq ⟨rfl, hb⟩
            have hbs := hb.size
            try simp only [World.size_alloc, World.size_setCell, World.size_drew, size_setRow] at hbs
            go_wp2_with fail
            refine hK.out _ _ ⟨bk_, sl_, bk_, bk_, bl_, Nat.le_trans (sz_) hb.size⟩ (fun hH2 => ?_)
            clear hH
            have hH := hH2
            obtain ⟨hBW, hsS, hX, hS, hfar, hsz⟩ := hH2
            clear hK K
            try simp only [Act.put, List.setIfInBounds_toArray, List.set_cons_zero, List.set_cons_succ]
            refine wpAnyH_take (i := 6) (oi := { dst := some 45, op := Op.move (Operand.tmp 51), type := 56, pos := "law.go:74", after := _, guard := none }) (v := _) rfl (by kernel_rfl) (by kernel_rfl) (by kernel_rfl) (fun _ _ _ h => h) (.inl ⟨by rfl, fun w hS => by (go_simp; try rfl)⟩) hH ?_
            try simp only [Act.put, List.setIfInBounds_toArray, List.set_cons_zero, List.set_cons_succ]
            refine wpAnyH_take (i := 7) (oi := { dst := some 52, op := Op.extract (Operand.tmp 45) 0, type := 32, pos := "law.go:74", after := _, guard := none }) (v := _) rfl (by kernel_rfl) (by kernel_rfl) (by kernel_rfl) (fun _ _ _ h => h) (.inl ⟨by rfl, fun w hS => by (go_simp; try rfl)⟩) hH ?_
            try simp only [Act.put, List.setIfInBounds_toArray, List.set_cons_zero, List.set_cons_succ]
            refine wpAnyH_take (i := 8) (oi := { dst := some 53, op := Op.extract (Operand.tmp 45) 1, type := 34, pos := "law.go:74", after := _, guard := none }) (v := _) rfl (by kernel_rfl) (by kernel_rfl) (by kernel_rfl) (fun _ _ _ h => h) (.inl ⟨by rfl, fun w hS => by (go_simp; try rfl)⟩) hH ?_
            try simp only [Act.put, List.setIfInBounds_toArray, List.set_cons_zero, List.set_cons_succ]
            refine wpAnyH_take (i := 9) (oi := { dst := some 54, op := Op.extract (Operand.tmp 45) 2, type := 37, pos := "law.go:74", after := _, guard := none }) (v := _) rfl (by kernel_rfl) (by kernel_rfl) (by kernel_rfl) (fun _ _ _ h => h) (.inl ⟨by rfl, fun w hS => by (go_simp; try rfl)⟩) hH ?_
            try simp only [Act.put, List.setIfInBounds_toArray, List.set_cons_zero, List.set_cons_succ]
            refine wpAnyH_ready (rs := [11]) (by kernel_rfl) (by simp) ?_
            refine AllReadyH.cons (o := { dst := some 13, op := Op.alloc 34, type := 0, pos := "law.go:74", after := _, guard := none }) rfl (fun K hK => ?_) AllReadyH.nil
            rw [if_pos (by rfl)]
            go_simp
            refine hK.out _ _ ⟨bk_, sl_, bk_, bk_, bl_, sz_⟩ (fun hH2 => ?_)
            clear hH
            have hH := hH2
            obtain ⟨hBW, hsS, hX, hS, hfar, hsz⟩ := hH2
            clear hK K
            try simp only [Act.put, List.setIfInBounds_toArray, List.set_cons_zero, List.set_cons_succ]
            refine wpAnyH_ready (rs := [12]) (by kernel_rfl) (by simp) ?_
            refine AllReadyH.cons (o := { dst := none, op := Op.store 32 (Operand.tmp 12) (Operand.tmp 52), type := 0, pos := "law.go:74", after := _, guard := none }) rfl (fun K hK => ?_) AllReadyH.nil
            rw [if_pos (by rfl)]
            refine wp_st 32 rfl w_Block rfl rfl bk_ zz_ zz_ one_ ?_
            refine hK.out _ _ ⟨bk_, sl_, bk_, bk_, bl_, sz_⟩ (fun hH2 => ?_)
            clear hH
            have hH := hH2
            obtain ⟨hBW, hsS, hX, hS, hfar, hsz⟩ := hH2
            clear hK K
            try simp only [Act.put]
            refine wpAnyH_ready (rs := [13]) (by kernel_rfl) (by simp) ?_
            refine AllReadyH.cons (o := { dst := none, op := Op.store 34 (Operand.tmp 13) (Operand.tmp 53), type := 0, pos := "law.go:74", after := _, guard := none }) rfl (fun K hK => ?_) AllReadyH.nil
            rw [if_pos (by rfl)]
            refine wp_st 34 rfl w_State rfl rfl bk_ zz_ zz_ one_ ?_
            refine hK.out _ _ ⟨bk_, sl_, bk_, bk_, bl_, sz_⟩ (fun hH2 => ?_)
            clear hH
            have hH := hH2
            obtain ⟨hBW, hsS, hX, hS, hfar, hsz⟩ := hH2
            clear hK K
            try simp only [Act.put]
            refine wpAnyH_take (i := 14) (oi := { dst := some 14, op := Op.assign (Operand.tmp 54), type := 37, pos := "law.go:74", after := _, guard := none }) (v := _) rfl (by kernel_rfl) (by kernel_rfl) (by kernel_rfl) (fun _ _ _ h => h) (.inl ⟨by rfl, fun w hS => by (go_simp; try rfl)⟩) hH ?_
            try simp only [Act.put, List.setIfInBounds_toArray, List.set_cons_zero, List.set_cons_succ]
            refine wpAnyH_done (by kernel_rfl) ?_ _
            go_wp2_with fail
            go_meet
            case rel => exact ⟨_, _, rfl, rfl, rfl, by exact bk_, hBW, hsS, hX, hS, hfar, hsz, by exact sz_⟩
          refine AllReadyH.cons (o := { dst := some 13, op := Op.alloc 34, type := 0, pos := "law.go:74", after := _, guard := none }) rfl (fun K hK => ?_) AllReadyH.nil
          rw [if_pos (by rfl)]
          go_simp
          refine hK.out _ _ ⟨bk_, sl_, bk_, bk_, bl_, sz_⟩ (fun hH2 => ?_)
          clear hH
          have hH := hH2
          obtain ⟨hBW, hsS, hX, hS, hfar, hsz⟩ := hH2
          clear hK K
          try simp only [Act.put, List.setIfInBounds_toArray, List.set_cons_zero, List.set_cons_succ]
          refine wpAnyH_ready (rs := [5]) (by kernel_rfl) (by simp) ?_
          refine AllReadyH.cons (o := { dst := some 51, op := Op.call { callee := Callee.value (Operand.func 22), args := #[Operand.tmp 46, Operand.tmp 50], argTypes := #[34, 9] }, type := 56, pos := "law.go:74", after := _, guard := none }) rfl (fun K hK => ?_) AllReadyH.nil
          rw [if_pos (by rfl)]
          go_simp
          refine (HD.out _ hBW).mono ?_
          rintro r wq ⟨rfl, hb⟩
          have hbs := hb.size
          try simp only [World.size_alloc, World.size_setCell, World.size_drew, size_setRow] at hbs
          go_wp2_with fail
          refine hK.out _ _ ⟨bk_, sl_, bk_, bk_, bl_, Nat.le_trans (sz_) hb.size⟩ (fun hH2 => ?_)
          clear hH
          have hH := hH2
          obtain ⟨hBW, hsS, hX, hS, hfar, hsz⟩ := hH2
          clear hK K
          try simp only [Act.put, List.setIfInBounds_toArray, List.set_cons_zero, List.set_cons_succ]
          refine wpAnyH_take (i := 6) (oi := { dst := some 45, op := Op.move (Operand.tmp 51), type := 56, pos := "law.go:74", after := _, guard := none }) (v := _) rfl (by kernel_rfl) (by kernel_rfl) (by kernel_rfl) (fun _ _ _ h => h) (.inl ⟨by rfl, fun w hS => by (go_simp; try rfl)⟩) hH ?_
          try simp only [Act.put, List.setIfInBounds_toArray, List.set_cons_zero, List.set_cons_succ]
          refine wpAnyH_take (i := 7) (oi := { dst := some 52, op := Op.extract (Operand.tmp 45) 0, type := 32, pos := "law.go:74", after := _, guard := none }) (v := _) rfl (by kernel_rfl) (by kernel_rfl) (by kernel_rfl) (fun _ _ _ h => h) (.inl ⟨by rfl, fun w hS => by (go_simp; try rfl)⟩) hH ?_
          try simp only [Act.put, List.setIfInBounds_toArray, List.set_cons_zero, List.set_cons_succ]
          refine wpAnyH_take (i := 8) (oi := { dst := some 53, op := Op.extract (Operand.tmp 45) 1, type := 34, pos := "law.go:74", after := _, guard := none }) (v := _) rfl (by kernel_rfl) (by kernel_rfl) (by kernel_rfl) (fun _ _ _ h => h) (.inl ⟨by rfl, fun w hS => by (go_simp; try rfl)⟩) hH ?_
          try simp only [Act.put, List.setIfInBounds_toArray, List.set_cons_zero, List.set_cons_succ]
          refine wpAnyH_take (i := 9) (oi := { dst := some 54, op := Op.extract (Operand.tmp 45) 2, type := 37, pos := "law.go:74", after := _, guard := none }) (v := _) rfl (by kernel_rfl) (by kernel_rfl) (by kernel_rfl) (fun _ _ _ h => h) (.inl ⟨by rfl, fun w hS => by (go_simp; try rfl)⟩) hH ?_
          try simp only [Act.put, List.setIfInBounds_toArray, List.set_cons_zero, List.set_cons_succ]
          refine wpAnyH_ready (rs := [12]) (by kernel_rfl) (by simp) ?_
          refine AllReadyH.cons (o := { dst := none, op := Op.store 32 (Operand.tmp 12) (Operand.tmp 52), type := 0, pos := "law.go:74", after := _, guard := none }) rfl (fun K hK => ?_) AllReadyH.nil
          rw [if_pos (by rfl)]
          refine wp_st 32 rfl w_Block rfl rfl bk_ zz_ zz_ one_ ?_
          refine hK.out _ _ ⟨bk_, sl_, bk_, bk_, bl_, sz_⟩ (fun hH2 => ?_)
          clear hH
          have hH := hH2
          obtain ⟨hBW, hsS, hX, hS, hfar, hsz⟩ := hH2
          clear hK K
          try simp only [Act.put]
          refine wpAnyH_ready (rs := [13]) (by kernel_rfl) (by simp) ?_
          refine AllReadyH.cons (o := { dst := none, op := Op.store 34 (Operand.tmp 13) (Operand.tmp 53), type := 0, pos := "law.go:74", after := _, guard := none }) rfl (fun K hK => ?_) AllReadyH.nil
          rw [if_pos (by rfl)]
          refine wp_st 34 rfl w_State rfl rfl bk_ zz_ zz_ one_ ?_
          refine hK.out _ _ ⟨bk_, sl_, bk_, bk_, bl_, sz_⟩ (fun hH2 => ?_)
          clear hH
          have hH := hH2
          obtain ⟨hBW, hsS, hX, hS, hfar, hsz⟩ := hH2
          clear hK K
          try simp only [Act.put]
          refine wpAnyH_take (i := 14) (oi := { dst := some 14, op := Op.assign (Operand.tmp 54), type := 37, pos := "law.go:74", after := _, guard := none }) (v := _) rfl (by kernel_rfl) (by kernel_rfl) (by kernel_rfl) (fun _ _ _ h => h) (.inl ⟨by rfl, fun w hS => by (go_simp; try rfl)⟩) hH ?_
          try simp only [Act.put, List.setIfInBounds_toArray, List.set_cons_zero, List.set_cons_succ]
          refine wpAnyH_done (by kernel_rfl) ?_ _
          go_wp2_with fail
          go_meet
          case rel => exact ⟨_, _, rfl, rfl, rfl, by exact bk_, hBW, hsS, hX, hS, hfar, hsz, by exact sz_⟩
        refine AllReadyH.cons (o := { dst := some 13, op := Op.alloc 34, type := 0, pos := "law.go:74", after := _, guard := none }) rfl (fun K hK => ?_) AllReadyH.nil
        rw [if_pos (by rfl)]
        go_simp
        refine hK.out _ _ ⟨bk_, sl_, bk_, bk_, bl_, sz_⟩ (fun hH2 => ?_)
        clear hH
        have hH := hH2
        obtain ⟨hBW, hsS, hX, hS, hfar, hsz⟩ := hH2
        clear hK K
        try simp only [Act.put, List.setIfInBounds_toArray, List.set_cons_zero, List.set_cons_succ]
        refine wpAnyH_ready (rs := [5, 10]) (by kernel_rfl) (by simp) ?_
        refine AllReadyH.cons (o := { dst := some 51, op := Op.call { callee := Callee.value (Operand.func 22), args := #[Operand.tmp 46, Operand.tmp 50], argTypes := #[34, 9] }, type := 56, pos := "law.go:74", after := _, guard := none }) rfl (fun K hK => ?_) ?_
        · rw [if_pos (by rfl)]
          go_simp
          refine (HD.out _ hBW).mono ?_
          rintro r wq ⟨rfl, hb⟩
          have hbs := hb.size
          try simp only [World.size_alloc, World.size_setCell, World.size_drew, size_setRow] at hbs
          go_wp2_with fail
          refine hK.out _ _ ⟨bk_, sl_, bk_, bk_, bl_, Nat.le_trans (sz_) hb.size⟩ (fun hH2 => ?_)
          clear hH
          have hH := hH2
          obtain ⟨hBW, hsS, hX, hS, hfar, hsz⟩ := hH2
          clear hK K
          try simp only [Act.put, List.setIfInBounds_toArray, List.set_cons_zero, List.set_cons_succ]
          refine wpAnyH_take (i := 6) (oi := { dst := some 45, op := Op.move (Operand.tmp 51), type := 56, pos := "law.go:74", after := _, guard := none }) (v := _) rfl (by kernel_rfl) (by kernel_rfl) (by kernel_rfl) (fun _ _ _ h => h) (.inl ⟨by rfl, fun w hS => by (go_simp; try rfl)⟩) hH ?_
          try simp only [Act.put, List.setIfInBounds_toArray, List.set_cons_zero, List.set_cons_succ]
          refine wpAnyH_take (i := 7) (oi := { dst := some 52, op := Op.extract (Operand.tmp 45) 0, type := 32, pos := "law.go:74", after := _, guard := none }) (v := _) rfl (by kernel_rfl) (by kernel_rfl) (by kernel_rfl) (fun _ _ _ h => h) (.inl ⟨by rfl, fun w hS => by (go_simp; try rfl)⟩) hH ?_
          try simp only [Act.put, List.setIfInBounds_toArray, List.set_cons_zero, List.set_cons_succ]
          refine wpAnyH_take (i := 8) (oi := { dst := some 53, op := Op.extract (Operand.tmp 45) 1, type := 34, pos := "law.go:74", after := _, guard := none }) (v := _) rfl (by kernel_rfl) (by kernel_rfl) (by kernel_rfl) (fun _ _ _ h => h) (.inl ⟨by rfl, fun w hS => by (go_simp; try rfl)⟩) hH ?_
          try simp only [Act.put, List.setIfInBounds_toArray, List.set_cons_zero, List.set_cons_succ]
          refine wpAnyH_take (i := 9) (oi := { dst := some 54, op := Op.extract (Operand.tmp 45) 2, type := 37, pos := "law.go:74", after := _, guard := none }) (v := _) rfl (by kernel_rfl) (by kernel_rfl) (by kernel_rfl) (fun _ _ _ h => h) (.inl ⟨by rfl, fun w hS => by (go_simp; try rfl)⟩) hH ?_
          try simp only [Act.put, List.setIfInBounds_toArray, List.set_cons_zero, List.set_cons_succ]
          refine wpAnyH_ready (rs := [10]) (by kernel_rfl) (by simp) ?_
          refine AllReadyH.cons (o := { dst := some 12, op := Op.alloc 32, type := 0, pos := "law.go:74", after := _, guard := none }) rfl (fun K hK => ?_) AllReadyH.nil
          rw [if_pos (by rfl)]
          go_simp
          refine hK.out _ _ ⟨bk_, sl_, bk_, bk_, bl_, sz_⟩ (fun hH2 => ?_)
          clear hH
          have hH := hH2
          obtain ⟨hBW, hsS, hX, hS, hfar, hsz⟩ := hH2
          clear hK K
          try simp only [Act.put, List.setIfInBounds_toArray, List.set_cons_zero, List.set_cons_succ]
          refine wpAnyH_ready (rs := [12]) (by kernel_rfl) (by simp) ?_
          refine AllReadyH.cons (o := { dst := none, op := Op.store 32 (Operand.tmp 12) (Operand.tmp 52), type := 0, pos := "law.go:74", after := _, guard := none }) rfl (fun K hK => ?_) AllReadyH.nil
          rw [if_pos (by rfl)]
          refine wp_st 32 rfl w_Block rfl rfl bk_ zz_ zz_ one_ ?_
          refine hK.out _ _ ⟨bk_, sl_, bk_, bk_, bl_, sz_⟩ (fun hH2 => ?_)
          clear hH
          have hH := hH2
          obtain ⟨hBW, hsS, hX, hS, hfar, hsz⟩ := hH2
          clear hK K
          try simp only [Act.put]
          refine wpAnyH_ready (rs := [13]) (by kernel_rfl) (by simp) ?_
          refine AllReadyH.cons (o := { dst := none, op := Op.store 34 (Operand.tmp 13) (Operand.tmp 53), type := 0, pos := "law.go:74", after := _, guard := none }) rfl (fun K hK => ?_) AllReadyH.nil
          rw [if_pos (by rfl)]
          refine wp_st 34 rfl w_State rfl rfl bk_ zz_ zz_ one_ ?_
          refine hK.out _ _ ⟨bk_, sl_, bk_, bk_, bl_, sz_⟩ (fun hH2 => ?_)
          clear hH
          have hH := hH2
          obtain ⟨hBW, hsS, hX, hS, hfar, hsz⟩ := hH2
          clear hK K
          try simp only [Act.put]
          refine wpAnyH_take (i := 14) (oi := { dst := some 14, op := Op.assign (Operand.tmp 54), type := 37, pos := "law.go:74", after := _, guard := none }) (v := _) rfl (by kernel_rfl) (by kernel_rfl) (by kernel_rfl) (fun _ _ _ h => h) (.inl ⟨by rfl, fun w hS => by (go_simp; try rfl)⟩) hH ?_
          try simp only [Act.put, List.setIfInBounds_toArray, List.set_cons_zero, List.set_cons_succ]
          refine wpAnyH_done (by kernel_rfl) ?_ _
          go_wp2_with fail
          go_meet
          case rel => exact ⟨_, _, rfl, rfl, rfl, by exact bk_, hBW, hsS, hX, hS, hfar, hsz, by exact sz_⟩
        refine AllReadyH.cons (o := { dst := some 12, op := Op.alloc 32, type := 0, pos := "law.go:74", after := _, guard := none }) rfl (fun K hK => ?_) AllReadyH.nil
        rw [if_pos (by rfl)]
        go_simp
        refine hK.out _ _ ⟨bk_, sl_, bk_, bk_, bl_, sz_⟩ (fun hH2 => ?_)
        clear hH
        have hH := hH2
        obtain ⟨hBW, hsS, hX, hS, hfar, hsz⟩ := hH2
        clear hK K
        try simp only [Act.put, List.setIfInBounds_toArray, List.set_cons_zero, List.set_cons_succ]
        refine wpAnyH_ready (rs := [5]) (by kernel_rfl) (by simp) ?_
        refine AllReadyH.cons (o := { dst := some 51, op := Op.call { callee := Callee.value (Operand.func 22), args := #[Operand.tmp 46, Operand.tmp 50], argTypes := #[34, 9] }, type := 56, pos := "law.go:74", after := _, guard := none }) rfl (fun K hK => ?_) AllReadyH.nil
        rw [if_pos (by rfl)]
        go_simp
        refine (HD.out _ hBW).mono ?_
        rintro r wq ⟨rfl, hb⟩
        have hbs := hb.size
        try simp only [World.size_alloc, World.size_setCell, World.size_drew, size_setRow] at hbs
        go_wp2_with fail
        refine hK.out _ _ ⟨bk_, sl_, bk_, bk_, bl_, Nat.le_trans (sz_) hb.size⟩ (fun hH2 => ?_)
        clear hH
        have hH := hH2
        obtain ⟨hBW, hsS, hX, hS, hfar, hsz⟩ := hH2
        clear hK K
        try simp only [Act.put, List.setIfInBounds_toArray, List.set_cons_zero, List.set_cons_succ]
        refine wpAnyH_take (i := 6) (oi := { dst := some 45, op := Op.move (Operand.tmp 51), type := 56, pos := "law.go:74", after := _, guard := none }) (v := _) rfl (by kernel_rfl) (by kernel_rfl) (by kernel_rfl) (fun _ _ _ h => h) (.inl ⟨by rfl, fun w hS => by (go_simp; try rfl)⟩) hH ?_
        try simp only [Act.put, List.setIfInBounds_toArray, List.set_cons_zero, List.set_cons_succ]
        refine wpAnyH_take (i := 7) (oi := { dst := some 52, op := Op.extract (Operand.tmp 45) 0, type := 32, pos := "law.go:74", after := _, guard := none }) (v := _) rfl (by kernel_rfl) (by kernel_rfl) (by kernel_rfl) (fun _ _ _ h => h) (.inl ⟨by rfl, fun w hS => by (go_simp; try rfl)⟩) hH ?_
        try simp only [Act.put, List.setIfInBounds_toArray, List.set_cons_zero, List.set_cons_succ]
        refine wpAnyH_take (i := 8) (oi := { dst := some 53, op := Op.extract (Operand.tmp 45) 1, type := 34, pos := "law.go:74", after := _, guard := none }) (v := _) rfl (by kernel_rfl) (by kernel_rfl) (by kernel_rfl) (fun _ _ _ h => h) (.inl ⟨by rfl, fun w hS => by (go_simp; try rfl)⟩) hH ?_
        try simp only [Act.put, List.setIfInBounds_toArray, List.set_cons_zero, List.set_cons_succ]
        refine wpAnyH_take (i := 9) (oi := { dst := some 54, op := Op.extract (Operand.tmp 45) 2, type := 37, pos := "law.go:74", after := _, guard := none }) (v := _) rfl (by kernel_rfl) (by kernel_rfl) (by kernel_rfl) (fun _ _ _ h => h) (.inl ⟨by rfl, fun w hS => by (go_simp; try rfl)⟩) hH ?_
        try simp only [Act.put, List.setIfInBounds_toArray, List.set_cons_zero, List.set_cons_succ]
        refine wpAnyH_ready (rs := [12]) (by kernel_rfl) (by simp) ?_
        refine AllReadyH.cons (o := { dst := none, op := Op.store 32 (Operand.tmp 12) (Operand.tmp 52), type := 0, pos := "law.go:74", after := _, guard := none }) rfl (fun K hK => ?_) AllReadyH.nil
        rw [if_pos (by rfl)]
        refine wp_st 32 rfl w_Block rfl rfl bk_ zz_ zz_ one_ ?_
        refine hK.out _ _ ⟨bk_, sl_, bk_, bk_, bl_, sz_⟩ (fun hH2 => ?_)
        clear hH
        have hH := hH2
        obtain ⟨hBW, hsS, hX, hS, hfar, hsz⟩ := hH2
        clear hK K
        try simp only [Act.put]
        refine wpAnyH_ready (rs := [13]) (by kernel_rfl) (by simp) ?_
        refine AllReadyH.cons (o := { dst := none, op := Op.store 34 (Operand.tmp 13) (Operand.tmp 53), type := 0, pos := "law.go:74", after := _, guard := none }) rfl (fun K hK => ?_) AllReadyH.nil
        rw [if_pos (by rfl)]
        refine wp_st 34 rfl w_State rfl rfl bk_ zz_ zz_ one_ ?_
        refine hK.out _ _ ⟨bk_, sl_, bk_, bk_, bl_, sz_⟩ (fun hH2 => ?_)
        clear hH
        have hH := hH2
        obtain ⟨hBW, hsS, hX, hS, hfar, hsz⟩ := hH2
        clear hK K
        try simp only [Act.put]
        refine wpAnyH_take (i := 14) (oi := { dst := some 14, op := Op.assign (Operand.tmp 54), type := 37, pos := "law.go:74", after := _, guard := none }) (v := _) rfl (by kernel_rfl) (by kernel_rfl) (by kernel_rfl) (fun _ _ _ h => h) (.inl ⟨by rfl, fun w hS => by (go_simp; try rfl)⟩) hH ?_
        try simp only [Act.put, List.setIfInBounds_toArray, List.set_cons_zero, List.set_cons_succ]
        refine wpAnyH_done (by kernel_rfl) ?_ _
        go_wp2_with fail
        go_meet
        case rel => exact ⟨_, _, rfl, rfl, rfl, by exact bk_, hBW, hsS, hX, hS, hfar, hsz, by exact sz_⟩
      case rest =>
        clear hBW hsS hX hS hfar hsz
        obtain ⟨g1, g2, rfl, rfl, rfl, hN, hBW, hsS, hX, hS, hfar, hsz, hg2⟩ := hcut
        have c0 := hsS.str HQ1.out
        go_wp2_with (first | (refine ld 34 rfl (by rfl) w_State rfl hN LN.sz ?_) | (refine st 34 rfl (by rfl) w_State rfl rfl hS LS.sz LN.sz one_ ?_))
        go_roundw
        case rel => exact ⟨i + 1, hlt, by go_num, by exact bk_, by exact sl_, by exact bk_, by rw [HS1.out]; exact Blk.setRow hS, by exact bl_, by exact sz_⟩
        case measure => simp [intOf]; omega
    · obtain rfl : i = n := by omega
      have LL := Len.mk (show X.L.length = 38 by rw [← HXL.out, List.length_take, List.length_drop, LX.out]; rfl)
      have heq : ∀ w, (Op.equalIn 10000 34 (.agg (arrV ((X.l.drop 17).take 38))) (.agg (arrV (SF i)))).run Tryz.prog w = .ok true w := fun w => by
        rw [HXL.out, HSN.out]; exact eq_state _ LL.out w
      have LSn : Len (SF i) 38 := by rw [HSN.out]; exact LL
      go_wp2_with (first | (refine ldp 34 rfl (by rfl) w_State rfl hX LX (by omega) ?_) | (refine ld 34 rfl (by rfl) w_State rfl hS LSn.sz ?_) | (refine eqw 34 rfl (by rfl) rfl rfl eg_State heq ?_))
      go_ret
      exact ⟨rfl, (by (try rw [hB]); exact bl_)⟩
end Go.Proofs.YthpjkgpngbdhbaaGreatDoor
