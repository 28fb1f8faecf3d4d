/- The walk of spoollaw15.EncLevels: whatever comes in, it returns true. -/
import Derived.Test.YthpjkgpngbdhbaaGreatDoorLaw15c
import Derived.Test.YthpjkgpngbdhbaaGreatDoorRRight15
set_option linter.unusedSimpArgs false
set_option linter.unusedVariables false
namespace Go.Proofs.YthpjkgpngbdhbaaGreatDoor
open Go.RowKit

theorem eg_Four : Tryz.prog.eqGuardType Tryz.prog.depth 23 = false := by kernel_rfl
theorem eq_four_self {b : List Int} (h : b.length = 4) (w : World) : (Op.equalIn 10000 23 (.agg (arrV b)) (.agg (arrV b))).run Tryz.prog w = .ok true w := by
  have := eq_four b b h h w
  rwa [beq_self_eq_true] at this
set_option maxRecDepth 100000 in
set_option maxHeartbeats 8000000 in
theorem EncLevels_any (P L b : List Int) (last : Int) (h1 : P.length = 16) (h2 : L.length = 38) (h3 : b.length = 16) (sz : Int) (hs : 0 ≤ sz ∧ sz ≤ 255) (w : World) (hW : BandsW w) :
    Calls Tryz.prog 5 #[.agg (arrV (encL P last L)), .agg (arrV b), .int .u8 sz] w fun e w' => e = .returned (.bool true) ∧ Below w.heap.size w w' := by
  have hof := fun w => Of15_any P L last h1 h2 w
  have her := fun w => RERight_any P L last h1 h2 w
  have hfr := fun p cap w h => Frames_one b p cap w h
  obtain ⟨m, hm, hm22⟩ := size23 hs
  have hb16 := frame_s16 h3
  have hc : (((10 + m : Nat)) : Int) = 10 + (m : Int) := by omega
  have LE := Len.mk (encL_len last h1 h2)
  have LB := Len.mk h3
  have LP := Len.mk h1
  have LF := Len.mk hb16.1
  have hpt : ((encL P last L).drop 0).take 16 = P := by unfold encL; rw [List.drop_zero, ← h1, List.take_left']; rfl
  have hpl : (encL P last L).getD 16 0 = last := by unfold encL; simp [List.getD_eq_getElem?_getD, ← h1]
  by_cases hr : rightE P last L = true
  case neg =>
    have hrf : rightE P last L = false := by simpa using hr
    rw [hrf] at her
    obtain ⟨E, hE⟩ : ∃ E, encL P last L = E := ⟨_, rfl⟩
    simp only [hE] at her
    rw [hE] at LE ⊢
    have HER := Lib.hid her
    clear her hof hfr hE hpt hpl hr hrf hb16 h1 h2
    have hBW : Blk w 0 bandE 133 := hW
    have h0 : 0 < w.heap.size := hW.lt
    obtain ⟨B, hB⟩ : ∃ B, w.heap.size = B := ⟨_, rfl⟩
    rw [hB] at h0
    have hfar := Below.refl B w
    have hsz : B ≤ w.heap.size := by omega
    go_enter Tryz.func5, Tryz.ntmps5
    go_upto_region 1 with (fail)
    refine wp_gen (fun W => Blk W (0) (bandE) 133 ∧ Blk W (B) (arrV E) 27 ∧ Below (B) w W ∧ B + 2 ≤ W.heap.size) ⟨bk_, bk_, bl_, sz_⟩ ?_
    clear hBW hfar hsz
    rintro wa ⟨hBW, hA, hfar, hsz⟩
    go_wp2_with fail
    refine (awake15_any _ hBW).mono ?_
    rintro e w1 ⟨rfl, hb1⟩
    replace hBW := hBW.newB hb1
    replace hA := hA.newB hb1
    replace hfar := hfar.trans (hb1.mono (by omega))
    replace hsz := Nat.le_trans hsz hb1.size
    go_wp2_with (refine ld 27 rfl (by rfl) w_REnc rfl hA LE.sz ?_)
    refine (HER.out _).mono ?_
    rintro e w2 ⟨rfl, hb2⟩
    replace hBW := hBW.newB hb2
    replace hA := hA.newB hb2
    replace hfar := hfar.trans (hb2.mono (by omega))
    replace hsz := Nat.le_trans hsz hb2.size
    go_wp2_with fail
    refine (awake15_any _ hBW).mono ?_
    rintro e w3 ⟨rfl, hb3⟩
    replace hBW := hBW.newB hb3
    replace hA := hA.newB hb3
    replace hfar := hfar.trans (hb3.mono (by omega))
    replace hsz := Nat.le_trans hsz hb3.size
    go_wp2_with fail
    go_ret
    exact ⟨rfl, (by (try rw [hB]); exact bl_)⟩
  case pos =>
    have he : (⟨P, last, L⟩ : ESt).Ok := ⟨h1, h2, hr⟩
    have hen := fun w hW => EncodeE_any (size := 10 + m) (by omega) (by omega) he hb16 w hW
    have hok := nextE_ok (size := 10 + m) (by omega) (by omega) he hb16
    have hlv := nextE_levs (size := 10 + m) (by omega) (by omega) he (frame b)
    have LX := Len.mk (est_len hok)
    rw [hr] at her
    have hX0 : ((nextE (10 + m) ⟨P, last, L⟩ (frame b)).l.drop 0).take 16 = liftL last (frame b) := by
      have hl : (liftL last (frame b)).length = 16 := (liftL_len last _).trans hb16.1
      rw [nextE_l]; unfold encL; rw [List.drop_zero, ← hl, List.take_left']; rfl
    have hX1 : (nextE (10 + m) ⟨P, last, L⟩ (frame b)).l.getD 16 0 = liftN last (frame b) := by
      have hl : (liftL last (frame b)).length = 16 := (liftL_len last _).trans hb16.1
      rw [nextE_l]; unfold encL; simp [List.getD_eq_getElem?_getD, ← hl]
    have hX2 : ((nextE (10 + m) ⟨P, last, L⟩ (frame b)).l.drop 34).take 4 = levelsL (wavesL P (liftL last (frame b))) := by
      have hl : (liftL last (frame b)).length = 16 := (liftL_len last _).trans hb16.1
      have e1 : (nextE (10 + m) ⟨P, last, L⟩ (frame b)).l.drop 34 = (nextE (10 + m) ⟨P, last, L⟩ (frame b)).L.drop 17 := by
        have e2 : (nextE (10 + m) ⟨P, last, L⟩ (frame b)).l.drop 17 = (nextE (10 + m) ⟨P, last, L⟩ (frame b)).L := by
          rw [nextE_l, nextE_L]; unfold encL; rw [List.drop_append]; simp [hl]
        rw [← e2, List.drop_drop]
      rw [e1]; exact hlv
    rw [hc] at hen
    have hel : (⟨P, last, L⟩ : ESt).l = encL P last L := rfl
    rw [hel] at hen
    have hlf := fun w => Lift_any last (frame b) hb16.1 w
    have hwv := fun w => Waves_any P (liftL last (frame b)) h1 ((liftL_len last _).trans hb16.1) w
    have hll := fun w hW => Levels_any (wavesL P (liftL last (frame b))) (wavesL_ok _ _) w hW
    have LLI := Len.mk ((liftL_len last _).trans hb16.1)
    have LV := (levelsL_ok (wavesL P (liftL last (frame b)))).1
    obtain ⟨X, hXX⟩ : ∃ X, (nextE (10 + m) ⟨P, last, L⟩ (frame b)).l = X := ⟨_, rfl⟩
    obtain ⟨E, hE⟩ : ∃ E, encL P last L = E := ⟨_, rfl⟩
    obtain ⟨PK, hPK⟩ : ∃ X, packE (10 + m) ⟨P, last, L⟩ (frame b) = X := ⟨_, rfl⟩
    obtain ⟨F, hF⟩ : ∃ F, frame b = F := ⟨_, rfl⟩
    simp only [hXX, hPK] at hen
    simp only [hF, hE] at hen
    simp only [hXX] at hX0 hX1 hX2 LX
    simp only [hF] at hX0 hX1 hX2 hfr hlf hwv hll LLI LV LF
    obtain ⟨LI, hLI⟩ : ∃ X, liftL last F = X := ⟨_, rfl⟩
    obtain ⟨LN, hLN⟩ : ∃ X, liftN last F = X := ⟨_, rfl⟩
    obtain ⟨WV, hWV⟩ : ∃ X, wavesL P LI = X := ⟨_, rfl⟩
    obtain ⟨V, hV⟩ : ∃ X, levelsL WV = X := ⟨_, rfl⟩
    simp only [hLI, hLN, hWV, hV] at hX0 hX1 hX2 hlf hwv hll LLI LV
    simp only [hE] at hof her hpt hpl LE
    rw [hE]
    have HOF := Lib.hid hof
    have HER := Lib.hid her
    have HEN := Lib.hid hen
    have HFR := Lib.hid hfr
    have HLF := Lib.hid hlf
    have HWV := Lib.hid hwv
    have HLL := Lib.hid hll
    have HX0 := Lib.hid hX0
    have HX1 := Lib.hid hX1
    have HX2 := Lib.hid hX2
    have HPT := Lib.hid hpt
    have HPL := Lib.hid hpl
    have LVN := Len.mk LV
    clear hof her hen hfr hlf hwv hll hE hXX hPK hF hLI hLN hWV hV hX0 hX1 hX2 hpt hpl hel hb16 hlv hok he hr h1 h2 LV
    have hz55 : ((List.toArray (Value.int .i64 0 :: Value.int .i64 0 :: Value.int .i64 0 :: Value.int .i64 0 :: Value.int .i64 0 :: Value.int .i64 0 :: Value.int .i64 0 :: Value.int .i64 0 :: Value.int .i64 0 :: Value.int .i64 0 :: Value.int .i64 0 :: Value.int .i64 0 :: Value.int .i64 0 :: Value.int .i64 0 :: Value.int .i64 0 :: Value.int .i64 0 :: Value.int .i64 0 :: Value.int .i64 0 :: Value.int .i64 0 :: Value.int .i64 0 :: Value.int .i64 0 :: Value.int .i64 0 :: Value.int .i64 0 :: Value.int .i64 0 :: Value.int .i64 0 :: Value.int .i64 0 :: Value.int .i64 0 :: Value.int .i64 0 :: Value.int .i64 0 :: Value.int .i64 0 :: Value.int .i64 0 :: Value.int .i64 0 :: Value.int .i64 0 :: Value.int .i64 0 :: Value.int .i64 0 :: Value.int .i64 0 :: Value.int .i64 0 :: Value.int .i64 0 :: Value.int .i64 0 :: Value.int .i64 0 :: Value.int .i64 0 :: Value.int .i64 0 :: Value.int .i64 0 :: Value.int .i64 0 :: Value.int .i64 0 :: Value.int .i64 0 :: Value.int .i64 0 :: Value.int .i64 0 :: Value.int .i64 0 :: Value.int .i64 0 :: Value.int .i64 0 :: Value.int .i64 0 :: Value.int .i64 0 :: Value.int .i64 0 :: Value.int .i64 0 :: [])) : Array Value).size = 55 := by rfl
    have hBW : Blk w 0 bandE 133 := hW
    have h0 : 0 < w.heap.size := hW.lt
    obtain ⟨B, hB⟩ : ∃ B, w.heap.size = B := ⟨_, rfl⟩
    rw [hB] at h0
    have hfar := Below.refl B w
    have hsz : B ≤ w.heap.size := by omega
    go_enter Tryz.func5, Tryz.ntmps5
    go_upto_region 1 with (fail)
    refine wp_gen (fun W => Blk W (0) (bandE) 133 ∧ Blk W (B) (arrV E) 27 ∧ Blk W (B + 1) (arrV b) 22 ∧ Below (B) w W ∧ B + 2 ≤ W.heap.size) ⟨bk_, bk_, bk_, bl_, sz_⟩ ?_
    clear hBW hfar hsz
    rintro wa ⟨hBW, hA, hb, hfar, hsz⟩
    go_wp2_with fail
    refine (awake15_any _ hBW).mono ?_
    rintro e w1 ⟨rfl, hb1⟩
    replace hBW := hBW.newB hb1
    replace hA := hA.newB hb1
    replace hb := hb.newB hb1
    replace hfar := hfar.trans (hb1.mono (by omega))
    replace hsz := Nat.le_trans hsz hb1.size
    go_wp2_with (refine ld 27 rfl (by rfl) w_REnc rfl hA LE.sz ?_)
    refine (HER.out _).mono ?_
    rintro e w2 ⟨rfl, hb2⟩
    replace hBW := hBW.newB hb2
    replace hA := hA.newB hb2
    replace hb := hb.newB hb2
    replace hfar := hfar.trans (hb2.mono (by omega))
    replace hsz := Nat.le_trans hsz hb2.size
    go_upto_region 3 with (fail)
    go_wp2_with (first | (refine ld 22 rfl (by rfl) w_Sixteen rfl hb LB.sz ?_) | (refine bs1 31 rfl (by rfl) rfl Tryz.underlying31 el_Sixteen (by omega) (by omega) LB.sz ?_))
    refine (HFR.out _ _ _ (SixIn.one (Blk.newAt rfl) LB.out)).mono ?_
    rintro e w3 ⟨gf, of, cf, lof, hif, rfl, hsf, hlo2, hhi2, hb3'⟩
    have hb3 : Below w2.heap.size w2 w3 := ((Below.refl _ _).alloc (Nat.le_refl _) _).trans (hb3'.mono (by rw [World.size_alloc]; omega))
    rw [World.size_alloc] at hlo2
    have hBlo : B + 2 ≤ lof := by omega
    clear hb3'
    clear hb
    replace hBW := hBW.newB hb3
    replace hA := hA.newB hb3
    replace hfar := hfar.trans (hb3.mono (by omega))
    replace hsz := Nat.le_trans hsz hb3.size
    obtain ⟨N, hN⟩ : ∃ N, w3.heap.size = N := ⟨_, rfl⟩
    rw [hN] at hhi2
    have hBN : B + 2 ≤ N := by omega
    replace hsz : N ≤ w3.heap.size := by omega
    have hw1 : IntKind.i64.wrap sz = sz := IntWalk.i64_in _ (by omega)
    have hw2 : IntKind.i64.wrap (10 + (m : Int)) = 10 + (m : Int) := IntWalk.i64_in _ (by omega)
    go_upto_region 4 with (fail)
    go_cut [8, 9, 10] from 24 (fun s8 s9 s10 wx => ∃ g, s8 = .string PK ∧ s9 = .pointer (some ⟨g, 0, none⟩) ∧ s10 = .int .i64 0 ∧ Blk wx g (arrV X) 36 ∧ Blk wx 0 bandE 133 ∧ Blk wx B (arrV E) 27 ∧ SL wx lof hif 16 (some ⟨gf, of, none⟩) 1 cf (intsV F) ∧ Below B w wx ∧ g + 1 ≤ wx.heap.size ∧ N ≤ g)
    case first =>
      refine wp_region_held_drew (S := fun W => Blk W (0) (bandE) 133 ∧ Blk W (B) (arrV E) 27 ∧ SL W (lof) (hif) (16) (some ⟨gf, of, none⟩) (1) (cf) (intsV F) ∧ Below (B) w W ∧ N ≤ W.heap.size) (by kernel_rfl) (⟨hBW.drew, hA.drew, hsf.drew, hfar.drew, hsz⟩) (fun hH => ?_)
      have hH2 := hH
      obtain ⟨hBW, hA, hsf, hfar, hsz⟩ := hH2
      refine wpAnyH_take (i := 0) (oi := { dst := some 25, op := Op.load 27 (Operand.tmp 3), type := 27, pos := "law.go:163", after := _, guard := none }) (v := .agg (arrV E)) rfl (by kernel_rfl) (by kernel_rfl) (by kernel_rfl) (fun _ _ _ h => h) (yieldsIf_ld (by rfl) 27 rfl w_REnc rfl (fun _ hS => hS.2.1) zz_) hH ?_
      try simp only [Act.put, List.setIfInBounds_toArray, List.set_cons_zero, List.set_cons_succ]
      refine wpAnyH_take (i := 2) (oi := { dst := some 27, op := Op.move (Operand.tmp 7), type := 29, pos := "law.go:163", after := _, guard := none }) (v := _) rfl (by kernel_rfl) (by kernel_rfl) (by kernel_rfl) (fun _ _ _ h => h) (.inl ⟨by rfl, fun w hS => by (go_simp; try rfl)⟩) hH ?_
      try simp only [Act.put, List.setIfInBounds_toArray, List.set_cons_zero, List.set_cons_succ]
      refine wpAnyH_take (i := 3) (oi := { dst := some 28, op := Op.indexAddr 29 (Operand.tmp 27) (Operand.const (Value.int IntKind.i64 0)), type := 0, pos := "law.go:163", after := _, guard := none }) (v := _) rfl (by kernel_rfl) (by kernel_rfl) (by kernel_rfl) (fun _ _ _ h => h) (.inl ⟨by rfl, fun w hS => by (go_simp; try rfl)⟩) hH ?_
      try simp only [Act.put, List.setIfInBounds_toArray, List.set_cons_zero, List.set_cons_succ]
      refine wpAnyH_take (i := 4) (oi := { dst := some 29, op := Op.load 32 (Operand.tmp 28), type := 32, pos := "law.go:163", after := _, guard := none }) (v := .agg (arrV F)) rfl (by kernel_rfl) (by kernel_rfl) (by kernel_rfl) (fun _ _ _ h => h) (yieldsIf_ldr (by rfl) 32 rfl w_Block rfl (fun w hS => hS.2.2.1.rng) LF.sz) hH ?_
      try simp only [Act.put, List.setIfInBounds_toArray, List.set_cons_zero, List.set_cons_succ]
      refine wpAnyH_take (i := 5) (oi := { dst := some 30, op := Op.move (Operand.tmp 2), type := 5, pos := "law.go:163", after := _, guard := none }) (v := _) rfl (by kernel_rfl) (by kernel_rfl) (by kernel_rfl) (fun _ _ _ h => h) (.inl ⟨by rfl, fun w hS => by (go_simp; try rfl)⟩) hH ?_
      try simp only [Act.put, List.setIfInBounds_toArray, List.set_cons_zero, List.set_cons_succ]
      refine wpAnyH_take (i := 6) (oi := { dst := some 31, op := Op.convert 5 3 (Operand.tmp 30), type := 3, pos := "law.go:163", after := _, guard := none }) (v := .int .i64 sz) rfl (by kernel_rfl) (by kernel_rfl) (by kernel_rfl) (fun _ _ _ h => h) (.inl ⟨by rfl, fun w hS => by (go_simp; try rfl)⟩) hH ?_
      try simp only [Act.put, List.setIfInBounds_toArray, List.set_cons_zero, List.set_cons_succ]
      refine wpAnyH_take (i := 7) (oi := { dst := some 32, op := Op.binOp BinOp.rem 3 (Operand.tmp 31) (Operand.const (Value.int IntKind.i64 23)) 3, type := 3, pos := "law.go:163", after := _, guard := none }) (v := .int .i64 (m : Int)) rfl (by kernel_rfl) (by kernel_rfl) (by kernel_rfl) (fun _ _ _ h => h) (.inl ⟨by rfl, fun w hS => by (go_simp; try rfl)⟩) hH ?_
      try simp only [Act.put, List.setIfInBounds_toArray, List.set_cons_zero, List.set_cons_succ]
      refine wpAnyH_take (i := 8) (oi := { dst := some 33, op := Op.binOp BinOp.add 3 (Operand.const (Value.int IntKind.i64 10)) (Operand.tmp 32) 3, type := 3, pos := "law.go:163", after := _, guard := none }) (v := .int .i64 (10 + (m : Int))) rfl (by kernel_rfl) (by kernel_rfl) (by kernel_rfl) (fun _ _ _ h => h) (.inl ⟨by rfl, fun w hS => by (go_simp; try rfl)⟩) hH ?_
      try simp only [Act.put, List.setIfInBounds_toArray, List.set_cons_zero, List.set_cons_succ]
      refine wpAnyH_ready (rs := [1, 14]) (by kernel_rfl) (by simp) ?_
      refine AllReadyH.cons (o := { dst := some 26, op := Op.call { callee := Callee.value (Operand.func 12), args := #[Operand.tmp 25], argTypes := #[27] }, type := 36, pos := "law.go:163", after := _, guard := none }) rfl (fun K hK => ?_) ?_
      · rw [if_pos (by rfl)]
        go_simp
        refine (HOF.out _).mono ?_
        rintro r wq ⟨rfl, hb⟩
        have hbs := hb.size
        try simp only [World.size_alloc, World.size_setCell, World.size_drew, size_setRow] at hbs
        go_wp2_with fail
        refine hK.out _ _ ⟨bk_, bk_, sl_, bl_, Nat.le_trans (sz_) hb.size⟩ (fun hH2 => ?_)
        clear hH
        have hH := hH2
        obtain ⟨hBW, hA, hsf, hfar, hsz⟩ := hH2
        clear hK K
        try simp only [Act.put, List.setIfInBounds_toArray, List.set_cons_zero, List.set_cons_succ]
        refine wpAnyH_ready (rs := [9, 14]) (by kernel_rfl) (by simp) ?_
        refine AllReadyH.cons (o := { dst := some 34, op := Op.call { callee := Callee.value (Operand.func 11), args := #[Operand.tmp 26, Operand.tmp 29, Operand.tmp 33], argTypes := #[36, 32, 3] }, type := 38, pos := "law.go:163", after := _, guard := none }) rfl (fun K hK => ?_) ?_
        · rw [if_pos (by rfl)]
          go_simp
          refine (HEN.out _ hBW).mono ?_
          rintro r wq ⟨rfl, hb⟩
          have hbs := hb.size
          try simp only [World.size_alloc, World.size_setCell, World.size_drew, size_setRow] at hbs
          go_wp2_with fail
          refine hK.out _ _ ⟨bk_, bk_, sl_, bl_, Nat.le_trans (sz_) hb.size⟩ (fun hH2 => ?_)
          clear hH
          have hH := hH2
          obtain ⟨hBW, hA, hsf, hfar, hsz⟩ := hH2
          clear hK K
          try simp only [Act.put, List.setIfInBounds_toArray, List.set_cons_zero, List.set_cons_succ]
          refine wpAnyH_take (i := 10) (oi := { dst := some 24, op := Op.move (Operand.tmp 34), type := 38, pos := "law.go:163", after := _, guard := none }) (v := _) rfl (by kernel_rfl) (by kernel_rfl) (by kernel_rfl) (fun _ _ _ h => h) (.inl ⟨by rfl, fun w hS => by (go_simp; try rfl)⟩) hH ?_
          try simp only [Act.put, List.setIfInBounds_toArray, List.set_cons_zero, List.set_cons_succ]
          refine wpAnyH_take (i := 11) (oi := { dst := some 35, op := Op.extract (Operand.tmp 24) 0, type := 9, pos := "law.go:163", after := _, guard := none }) (v := _) rfl (by kernel_rfl) (by kernel_rfl) (by kernel_rfl) (fun _ _ _ h => h) (.inl ⟨by rfl, fun w hS => by (go_simp; try rfl)⟩) hH ?_
          try simp only [Act.put, List.setIfInBounds_toArray, List.set_cons_zero, List.set_cons_succ]
          refine wpAnyH_take (i := 12) (oi := { dst := some 36, op := Op.extract (Operand.tmp 24) 1, type := 36, pos := "law.go:163", after := _, guard := none }) (v := _) rfl (by kernel_rfl) (by kernel_rfl) (by kernel_rfl) (fun _ _ _ h => h) (.inl ⟨by rfl, fun w hS => by (go_simp; try rfl)⟩) hH ?_
          try simp only [Act.put, List.setIfInBounds_toArray, List.set_cons_zero, List.set_cons_succ]
          refine wpAnyH_take (i := 13) (oi := { dst := some 37, op := Op.extract (Operand.tmp 24) 2, type := 37, pos := "law.go:163", after := _, guard := none }) (v := _) rfl (by kernel_rfl) (by kernel_rfl) (by kernel_rfl) (fun _ _ _ h => h) (.inl ⟨by rfl, fun w hS => by (go_simp; try rfl)⟩) hH ?_
          try simp only [Act.put, List.setIfInBounds_toArray, List.set_cons_zero, List.set_cons_succ]
          refine wpAnyH_ready (rs := [14]) (by kernel_rfl) (by simp) ?_
          refine AllReadyH.cons (o := { dst := some 9, op := Op.alloc 36, type := 0, pos := "law.go:163", after := _, guard := none }) rfl (fun K hK => ?_) AllReadyH.nil
          rw [if_pos (by rfl)]
          go_simp
          refine hK.out _ _ ⟨bk_, bk_, sl_, bl_, sz_⟩ (fun hH2 => ?_)
          clear hH
          have hH := hH2
          obtain ⟨hBW, hA, hsf, hfar, hsz⟩ := hH2
          clear hK K
          try simp only [Act.put, List.setIfInBounds_toArray, List.set_cons_zero, List.set_cons_succ]
          refine wpAnyH_take (i := 15) (oi := { dst := some 8, op := Op.assign (Operand.tmp 35), type := 9, pos := "law.go:163", after := _, guard := none }) (v := _) rfl (by kernel_rfl) (by kernel_rfl) (by kernel_rfl) (fun _ _ _ h => h) (.inl ⟨by rfl, fun w hS => by (go_simp; try rfl)⟩) hH ?_
          try simp only [Act.put, List.setIfInBounds_toArray, List.set_cons_zero, List.set_cons_succ]
          refine wpAnyH_ready (rs := [16]) (by kernel_rfl) (by simp) ?_
          refine AllReadyH.cons (o := { dst := none, op := Op.store 36 (Operand.tmp 9) (Operand.tmp 36), type := 0, pos := "law.go:163", after := _, guard := none }) rfl (fun K hK => ?_) AllReadyH.nil
          rw [if_pos (by rfl)]
          refine wp_st 36 rfl w_EEnc rfl rfl bk_ hz55 LX.sz one_ ?_
          refine hK.out _ _ ⟨bk_, bk_, sl_, bl_, sz_⟩ (fun hH2 => ?_)
          clear hH
          have hH := hH2
          obtain ⟨hBW, hA, hsf, hfar, hsz⟩ := hH2
          clear hK K
          try simp only [Act.put]
          refine wpAnyH_take (i := 17) (oi := { dst := some 10, op := Op.assign (Operand.tmp 37), type := 37, pos := "law.go:163", after := _, guard := none }) (v := _) rfl (by kernel_rfl) (by kernel_rfl) (by kernel_rfl) (fun _ _ _ h => h) (.inl ⟨by rfl, fun w hS => by (go_simp; try rfl)⟩) hH ?_
          try simp only [Act.put, List.setIfInBounds_toArray, List.set_cons_zero, List.set_cons_succ]
          refine wpAnyH_done (by kernel_rfl) ?_ _
          go_wp2_with fail
          go_meet
          case rel => exact ⟨_, rfl, rfl, rfl, by exact bk_, hBW, hA, hsf, hfar, by exact sz_, by exact sz_⟩
        refine AllReadyH.cons (o := { dst := some 9, op := Op.alloc 36, type := 0, pos := "law.go:163", after := _, guard := none }) rfl (fun K hK => ?_) AllReadyH.nil
        rw [if_pos (by rfl)]
        go_simp
        refine hK.out _ _ ⟨bk_, bk_, sl_, bl_, sz_⟩ (fun hH2 => ?_)
        clear hH
        have hH := hH2
        obtain ⟨hBW, hA, hsf, hfar, hsz⟩ := hH2
        clear hK K
        try simp only [Act.put, List.setIfInBounds_toArray, List.set_cons_zero, List.set_cons_succ]
        refine wpAnyH_ready (rs := [9]) (by kernel_rfl) (by simp) ?_
        refine AllReadyH.cons (o := { dst := some 34, op := Op.call { callee := Callee.value (Operand.func 11), args := #[Operand.tmp 26, Operand.tmp 29, Operand.tmp 33], argTypes := #[36, 32, 3] }, type := 38, pos := "law.go:163", after := _, guard := none }) rfl (fun K hK => ?_) AllReadyH.nil
        rw [if_pos (by rfl)]
        go_simp
        refine (HEN.out _ hBW).mono ?_
        rintro r wq ⟨rfl, hb⟩
        have hbs := hb.size
        try simp only [World.size_alloc, World.size_setCell, World.size_drew, size_setRow] at hbs
        go_wp2_with fail
        refine hK.out _ _ ⟨bk_, bk_, sl_, bl_, Nat.le_trans (sz_) hb.size⟩ (fun hH2 => ?_)
        clear hH
        have hH := hH2
        obtain ⟨hBW, hA, hsf, hfar, hsz⟩ := hH2
        clear hK K
        try simp only [Act.put, List.setIfInBounds_toArray, List.set_cons_zero, List.set_cons_succ]
        refine wpAnyH_take (i := 10) (oi := { dst := some 24, op := Op.move (Operand.tmp 34), type := 38, pos := "law.go:163", after := _, guard := none }) (v := _) rfl (by kernel_rfl) (by kernel_rfl) (by kernel_rfl) (fun _ _ _ h => h) (.inl ⟨by rfl, fun w hS => by (go_simp; try rfl)⟩) hH ?_
        try simp only [Act.put, List.setIfInBounds_toArray, List.set_cons_zero, List.set_cons_succ]
        refine wpAnyH_take (i := 11) (oi := { dst := some 35, op := Op.extract (Operand.tmp 24) 0, type := 9, pos := "law.go:163", after := _, guard := none }) (v := _) rfl (by kernel_rfl) (by kernel_rfl) (by kernel_rfl) (fun _ _ _ h => h) (.inl ⟨by rfl, fun w hS => by (go_simp; try rfl)⟩) hH ?_
        try simp only [Act.put, List.setIfInBounds_toArray, List.set_cons_zero, List.set_cons_succ]
        refine wpAnyH_take (i := 12) (oi := { dst := some 36, op := Op.extract (Operand.tmp 24) 1, type := 36, pos := "law.go:163", after := _, guard := none }) (v := _) rfl (by kernel_rfl) (by kernel_rfl) (by kernel_rfl) (fun _ _ _ h => h) (.inl ⟨by rfl, fun w hS => by (go_simp; try rfl)⟩) hH ?_
        try simp only [Act.put, List.setIfInBounds_toArray, List.set_cons_zero, List.set_cons_succ]
        refine wpAnyH_take (i := 13) (oi := { dst := some 37, op := Op.extract (Operand.tmp 24) 2, type := 37, pos := "law.go:163", after := _, guard := none }) (v := _) rfl (by kernel_rfl) (by kernel_rfl) (by kernel_rfl) (fun _ _ _ h => h) (.inl ⟨by rfl, fun w hS => by (go_simp; try rfl)⟩) hH ?_
        try simp only [Act.put, List.setIfInBounds_toArray, List.set_cons_zero, List.set_cons_succ]
        refine wpAnyH_take (i := 15) (oi := { dst := some 8, op := Op.assign (Operand.tmp 35), type := 9, pos := "law.go:163", after := _, guard := none }) (v := _) rfl (by kernel_rfl) (by kernel_rfl) (by kernel_rfl) (fun _ _ _ h => h) (.inl ⟨by rfl, fun w hS => by (go_simp; try rfl)⟩) hH ?_
        try simp only [Act.put, List.setIfInBounds_toArray, List.set_cons_zero, List.set_cons_succ]
        refine wpAnyH_ready (rs := [16]) (by kernel_rfl) (by simp) ?_
        refine AllReadyH.cons (o := { dst := none, op := Op.store 36 (Operand.tmp 9) (Operand.tmp 36), type := 0, pos := "law.go:163", after := _, guard := none }) rfl (fun K hK => ?_) AllReadyH.nil
        rw [if_pos (by rfl)]
        refine wp_st 36 rfl w_EEnc rfl rfl bk_ hz55 LX.sz one_ ?_
        refine hK.out _ _ ⟨bk_, bk_, sl_, bl_, sz_⟩ (fun hH2 => ?_)
        clear hH
        have hH := hH2
        obtain ⟨hBW, hA, hsf, hfar, hsz⟩ := hH2
        clear hK K
        try simp only [Act.put]
        refine wpAnyH_take (i := 17) (oi := { dst := some 10, op := Op.assign (Operand.tmp 37), type := 37, pos := "law.go:163", after := _, guard := none }) (v := _) rfl (by kernel_rfl) (by kernel_rfl) (by kernel_rfl) (fun _ _ _ h => h) (.inl ⟨by rfl, fun w hS => by (go_simp; try rfl)⟩) hH ?_
        try simp only [Act.put, List.setIfInBounds_toArray, List.set_cons_zero, List.set_cons_succ]
        refine wpAnyH_done (by kernel_rfl) ?_ _
        go_wp2_with fail
        go_meet
        case rel => exact ⟨_, rfl, rfl, rfl, by exact bk_, hBW, hA, hsf, hfar, by exact sz_, by exact sz_⟩
      refine AllReadyH.cons (o := { dst := some 9, op := Op.alloc 36, type := 0, pos := "law.go:163", after := _, guard := none }) rfl (fun K hK => ?_) AllReadyH.nil
      rw [if_pos (by rfl)]
      go_simp
      refine hK.out _ _ ⟨bk_, bk_, sl_, bl_, sz_⟩ (fun hH2 => ?_)
      clear hH
      have hH := hH2
      obtain ⟨hBW, hA, hsf, hfar, hsz⟩ := hH2
      clear hK K
      try simp only [Act.put, List.setIfInBounds_toArray, List.set_cons_zero, List.set_cons_succ]
      refine wpAnyH_ready (rs := [1]) (by kernel_rfl) (by simp) ?_
      refine AllReadyH.cons (o := { dst := some 26, op := Op.call { callee := Callee.value (Operand.func 12), args := #[Operand.tmp 25], argTypes := #[27] }, type := 36, pos := "law.go:163", after := _, guard := none }) rfl (fun K hK => ?_) AllReadyH.nil
      rw [if_pos (by rfl)]
      go_simp
      refine (HOF.out _).mono ?_
      rintro r wq ⟨rfl, hb⟩
      have hbs := hb.size
      try simp only [World.size_alloc, World.size_setCell, World.size_drew, size_setRow] at hbs
      go_wp2_with fail
      refine hK.out _ _ ⟨bk_, bk_, sl_, bl_, Nat.le_trans (sz_) hb.size⟩ (fun hH2 => ?_)
      clear hH
      have hH := hH2
      obtain ⟨hBW, hA, hsf, hfar, hsz⟩ := hH2
      clear hK K
      try simp only [Act.put, List.setIfInBounds_toArray, List.set_cons_zero, List.set_cons_succ]
      refine wpAnyH_ready (rs := [9]) (by kernel_rfl) (by simp) ?_
      refine AllReadyH.cons (o := { dst := some 34, op := Op.call { callee := Callee.value (Operand.func 11), args := #[Operand.tmp 26, Operand.tmp 29, Operand.tmp 33], argTypes := #[36, 32, 3] }, type := 38, pos := "law.go:163", after := _, guard := none }) rfl (fun K hK => ?_) AllReadyH.nil
      rw [if_pos (by rfl)]
      go_simp
      refine (HEN.out _ hBW).mono ?_
      rintro r wq ⟨rfl, hb⟩
      have hbs := hb.size
      try simp only [World.size_alloc, World.size_setCell, World.size_drew, size_setRow] at hbs
      go_wp2_with fail
      refine hK.out _ _ ⟨bk_, bk_, sl_, bl_, Nat.le_trans (sz_) hb.size⟩ (fun hH2 => ?_)
      clear hH
      have hH := hH2
      obtain ⟨hBW, hA, hsf, hfar, hsz⟩ := hH2
      clear hK K
      try simp only [Act.put, List.setIfInBounds_toArray, List.set_cons_zero, List.set_cons_succ]
      refine wpAnyH_take (i := 10) (oi := { dst := some 24, op := Op.move (Operand.tmp 34), type := 38, pos := "law.go:163", after := _, guard := none }) (v := _) rfl (by kernel_rfl) (by kernel_rfl) (by kernel_rfl) (fun _ _ _ h => h) (.inl ⟨by rfl, fun w hS => by (go_simp; try rfl)⟩) hH ?_
      try simp only [Act.put, List.setIfInBounds_toArray, List.set_cons_zero, List.set_cons_succ]
      refine wpAnyH_take (i := 11) (oi := { dst := some 35, op := Op.extract (Operand.tmp 24) 0, type := 9, pos := "law.go:163", after := _, guard := none }) (v := _) rfl (by kernel_rfl) (by kernel_rfl) (by kernel_rfl) (fun _ _ _ h => h) (.inl ⟨by rfl, fun w hS => by (go_simp; try rfl)⟩) hH ?_
      try simp only [Act.put, List.setIfInBounds_toArray, List.set_cons_zero, List.set_cons_succ]
      refine wpAnyH_take (i := 12) (oi := { dst := some 36, op := Op.extract (Operand.tmp 24) 1, type := 36, pos := "law.go:163", after := _, guard := none }) (v := _) rfl (by kernel_rfl) (by kernel_rfl) (by kernel_rfl) (fun _ _ _ h => h) (.inl ⟨by rfl, fun w hS => by (go_simp; try rfl)⟩) hH ?_
      try simp only [Act.put, List.setIfInBounds_toArray, List.set_cons_zero, List.set_cons_succ]
      refine wpAnyH_take (i := 13) (oi := { dst := some 37, op := Op.extract (Operand.tmp 24) 2, type := 37, pos := "law.go:163", after := _, guard := none }) (v := _) rfl (by kernel_rfl) (by kernel_rfl) (by kernel_rfl) (fun _ _ _ h => h) (.inl ⟨by rfl, fun w hS => by (go_simp; try rfl)⟩) hH ?_
      try simp only [Act.put, List.setIfInBounds_toArray, List.set_cons_zero, List.set_cons_succ]
      refine wpAnyH_take (i := 15) (oi := { dst := some 8, op := Op.assign (Operand.tmp 35), type := 9, pos := "law.go:163", after := _, guard := none }) (v := _) rfl (by kernel_rfl) (by kernel_rfl) (by kernel_rfl) (fun _ _ _ h => h) (.inl ⟨by rfl, fun w hS => by (go_simp; try rfl)⟩) hH ?_
      try simp only [Act.put, List.setIfInBounds_toArray, List.set_cons_zero, List.set_cons_succ]
      refine wpAnyH_ready (rs := [16]) (by kernel_rfl) (by simp) ?_
      refine AllReadyH.cons (o := { dst := none, op := Op.store 36 (Operand.tmp 9) (Operand.tmp 36), type := 0, pos := "law.go:163", after := _, guard := none }) rfl (fun K hK => ?_) AllReadyH.nil
      rw [if_pos (by rfl)]
      refine wp_st 36 rfl w_EEnc rfl rfl bk_ hz55 LX.sz one_ ?_
      refine hK.out _ _ ⟨bk_, bk_, sl_, bl_, sz_⟩ (fun hH2 => ?_)
      clear hH
      have hH := hH2
      obtain ⟨hBW, hA, hsf, hfar, hsz⟩ := hH2
      clear hK K
      try simp only [Act.put]
      refine wpAnyH_take (i := 17) (oi := { dst := some 10, op := Op.assign (Operand.tmp 37), type := 37, pos := "law.go:163", after := _, guard := none }) (v := _) rfl (by kernel_rfl) (by kernel_rfl) (by kernel_rfl) (fun _ _ _ h => h) (.inl ⟨by rfl, fun w hS => by (go_simp; try rfl)⟩) hH ?_
      try simp only [Act.put, List.setIfInBounds_toArray, List.set_cons_zero, List.set_cons_succ]
      refine wpAnyH_done (by kernel_rfl) ?_ _
      go_wp2_with fail
      go_meet
      case rel => exact ⟨_, rfl, rfl, rfl, by exact bk_, hBW, hA, hsf, hfar, by exact sz_, by exact sz_⟩
    case rest =>
      clear hA hBW hsf hfar hsz
      obtain ⟨g, rfl, rfl, rfl, hX, hBW, hA, hsf, hfar, hsz, hNg⟩ := hcut
      have c16 : ∀ w, Blk w B (arrV E) 27 → w.cell? ⟨B, 16, none⟩ = some (.int .i64 last) := fun w h => (h.cell 16).trans ((arr_get (l := E) (by rw [LE.out]; omega)).trans (by rw [HPL.out]))
      have d16 : ∀ w, Blk w g (arrV X) 36 → w.cell? ⟨g, 16, none⟩ = some (.int .i64 LN) := fun w h => (h.cell 16).trans ((arr_get (l := X) (by rw [LX.out]; omega)).trans (by rw [HX1.out]))
      have hp0 : arrV ((E.drop 0).take 16) = arrV P := by rw [HPT.out]
      have hx0 : arrV ((X.drop 0).take 16) = arrV LI := by rw [HX0.out]
      have hx2 : arrV ((X.drop 34).take 4) = arrV V := by rw [HX2.out]
      go_upto_region 5 with (fail)
      go_cut [11, 12] from 38 (fun s11 s12 wx => ∃ g2, s11 = .pointer (some ⟨g2, 0, none⟩) ∧ s12 = .int .i64 LN ∧ Blk wx g2 (arrV LI) 32 ∧ Blk wx 0 bandE 133 ∧ Blk wx g (arrV X) 36 ∧ Blk wx B (arrV E) 27 ∧ Below B w wx ∧ g + 1 ≤ wx.heap.size)
      case first =>
        refine wp_region_held_drew (S := fun W => Blk W (0) (bandE) 133 ∧ Blk W (g) (arrV X) 36 ∧ Blk W (B) (arrV E) 27 ∧ SL W (lof) (hif) (16) (some ⟨gf, of, none⟩) (1) (cf) (intsV F) ∧ Below (B) w W ∧ g + 1 ≤ W.heap.size) (by kernel_rfl) (⟨hBW.drew, hX.drew, hA.drew, hsf.drew, hfar.drew, hsz⟩) (fun hH => ?_)
        have hH2 := hH
        obtain ⟨hBW, hX, hA, hsf, hfar, hsz⟩ := hH2
        refine wpAnyH_take (i := 0) (oi := { dst := some 39, op := Op.fieldAddr 27 (Operand.tmp 3) 1, type := 0, pos := "law.go:164", after := _, guard := none }) (v := _) rfl (by kernel_rfl) (by kernel_rfl) (by kernel_rfl) (fun _ _ _ h => h) (.inl ⟨by rfl, fun w hS => by (go_simp; try rfl)⟩) hH ?_
        try simp only [Act.put, List.setIfInBounds_toArray, List.set_cons_zero, List.set_cons_succ]
        refine wpAnyH_take (i := 1) (oi := { dst := some 40, op := Op.load 3 (Operand.tmp 39), type := 3, pos := "law.go:164", after := _, guard := none }) (v := _) rfl (by kernel_rfl) (by kernel_rfl) (by kernel_rfl) (fun _ _ _ h => h) (.inl ⟨by rfl, fun w hS => by (have c := c16 w hS.2.2.1; go_simp; try rfl)⟩) hH ?_
        try simp only [Act.put, List.setIfInBounds_toArray, List.set_cons_zero, List.set_cons_succ]
        refine wpAnyH_take (i := 2) (oi := { dst := some 41, op := Op.move (Operand.tmp 7), type := 29, pos := "law.go:164", after := _, guard := none }) (v := _) rfl (by kernel_rfl) (by kernel_rfl) (by kernel_rfl) (fun _ _ _ h => h) (.inl ⟨by rfl, fun w hS => by (go_simp; try rfl)⟩) hH ?_
        try simp only [Act.put, List.setIfInBounds_toArray, List.set_cons_zero, List.set_cons_succ]
        refine wpAnyH_take (i := 3) (oi := { dst := some 42, op := Op.indexAddr 29 (Operand.tmp 41) (Operand.const (Value.int IntKind.i64 0)), type := 0, pos := "law.go:164", after := _, guard := none }) (v := _) rfl (by kernel_rfl) (by kernel_rfl) (by kernel_rfl) (fun _ _ _ h => h) (.inl ⟨by rfl, fun w hS => by (go_simp; try rfl)⟩) hH ?_
        try simp only [Act.put, List.setIfInBounds_toArray, List.set_cons_zero, List.set_cons_succ]
        refine wpAnyH_take (i := 4) (oi := { dst := some 43, op := Op.load 32 (Operand.tmp 42), type := 32, pos := "law.go:164", after := _, guard := none }) (v := .agg (arrV F)) rfl (by kernel_rfl) (by kernel_rfl) (by kernel_rfl) (fun _ _ _ h => h) (yieldsIf_ldr (by rfl) 32 rfl w_Block rfl (fun w hS => hS.2.2.2.1.rng) LF.sz) hH ?_
        try simp only [Act.put, List.setIfInBounds_toArray, List.set_cons_zero, List.set_cons_succ]
        refine wpAnyH_ready (rs := [5, 9]) (by kernel_rfl) (by simp) ?_
        refine AllReadyH.cons (o := { dst := some 44, op := Op.call { callee := Callee.value (Operand.func 18), args := #[Operand.tmp 40, Operand.tmp 43], argTypes := #[3, 32] }, type := 49, pos := "law.go:164", after := _, guard := none }) rfl (fun K hK => ?_) ?_
        · rw [if_pos (by rfl)]
          go_simp
          refine (HLF.out _).mono ?_
          rintro r wq ⟨rfl, hb⟩
          have hbs := hb.size
          try simp only [World.size_alloc, World.size_setCell, World.size_drew, size_setRow] at hbs
          go_wp2_with fail
          refine hK.out _ _ ⟨bk_, bk_, bk_, sl_, bl_, Nat.le_trans (sz_) hb.size⟩ (fun hH2 => ?_)
          clear hH
          have hH := hH2
          obtain ⟨hBW, hX, hA, hsf, hfar, hsz⟩ := hH2
          clear hK K
          try simp only [Act.put, List.setIfInBounds_toArray, List.set_cons_zero, List.set_cons_succ]
          refine wpAnyH_take (i := 6) (oi := { dst := some 38, op := Op.move (Operand.tmp 44), type := 49, pos := "law.go:164", after := _, guard := none }) (v := _) rfl (by kernel_rfl) (by kernel_rfl) (by kernel_rfl) (fun _ _ _ h => h) (.inl ⟨by rfl, fun w hS => by (go_simp; try rfl)⟩) hH ?_
          try simp only [Act.put, List.setIfInBounds_toArray, List.set_cons_zero, List.set_cons_succ]
          refine wpAnyH_take (i := 7) (oi := { dst := some 45, op := Op.extract (Operand.tmp 38) 0, type := 32, pos := "law.go:164", after := _, guard := none }) (v := _) rfl (by kernel_rfl) (by kernel_rfl) (by kernel_rfl) (fun _ _ _ h => h) (.inl ⟨by rfl, fun w hS => by (go_simp; try rfl)⟩) hH ?_
          try simp only [Act.put, List.setIfInBounds_toArray, List.set_cons_zero, List.set_cons_succ]
          refine wpAnyH_take (i := 8) (oi := { dst := some 46, op := Op.extract (Operand.tmp 38) 1, type := 3, pos := "law.go:164", after := _, guard := none }) (v := _) rfl (by kernel_rfl) (by kernel_rfl) (by kernel_rfl) (fun _ _ _ h => h) (.inl ⟨by rfl, fun w hS => by (go_simp; try rfl)⟩) hH ?_
          try simp only [Act.put, List.setIfInBounds_toArray, List.set_cons_zero, List.set_cons_succ]
          refine wpAnyH_ready (rs := [9]) (by kernel_rfl) (by simp) ?_
          refine AllReadyH.cons (o := { dst := some 11, op := Op.alloc 32, type := 0, pos := "law.go:164", after := _, guard := none }) rfl (fun K hK => ?_) AllReadyH.nil
          rw [if_pos (by rfl)]
          go_simp
          refine hK.out _ _ ⟨bk_, bk_, bk_, sl_, bl_, sz_⟩ (fun hH2 => ?_)
          clear hH
          have hH := hH2
          obtain ⟨hBW, hX, hA, hsf, hfar, hsz⟩ := hH2
          clear hK K
          try simp only [Act.put, List.setIfInBounds_toArray, List.set_cons_zero, List.set_cons_succ]
          refine wpAnyH_ready (rs := [10]) (by kernel_rfl) (by simp) ?_
          refine AllReadyH.cons (o := { dst := none, op := Op.store 32 (Operand.tmp 11) (Operand.tmp 45), type := 0, pos := "law.go:164", after := _, guard := none }) rfl (fun K hK => ?_) AllReadyH.nil
          rw [if_pos (by rfl)]
          refine wp_st 32 rfl w_Block rfl rfl bk_ zz_ LLI.sz one_ ?_
          refine hK.out _ _ ⟨bk_, bk_, bk_, sl_, bl_, sz_⟩ (fun hH2 => ?_)
          clear hH
          have hH := hH2
          obtain ⟨hBW, hX, hA, hsf, hfar, hsz⟩ := hH2
          clear hK K
          try simp only [Act.put]
          refine wpAnyH_take (i := 11) (oi := { dst := some 12, op := Op.assign (Operand.tmp 46), type := 3, pos := "law.go:164", after := _, guard := none }) (v := _) rfl (by kernel_rfl) (by kernel_rfl) (by kernel_rfl) (fun _ _ _ h => h) (.inl ⟨by rfl, fun w hS => by (go_simp; try rfl)⟩) hH ?_
          try simp only [Act.put, List.setIfInBounds_toArray, List.set_cons_zero, List.set_cons_succ]
          refine wpAnyH_done (by kernel_rfl) ?_ _
          go_wp2_with fail
          go_meet
          case rel => exact ⟨_, rfl, rfl, by exact bk_, hBW, hX, hA, hfar, hsz⟩
        refine AllReadyH.cons (o := { dst := some 11, op := Op.alloc 32, type := 0, pos := "law.go:164", after := _, guard := none }) rfl (fun K hK => ?_) AllReadyH.nil
        rw [if_pos (by rfl)]
        go_simp
        refine hK.out _ _ ⟨bk_, bk_, bk_, sl_, bl_, sz_⟩ (fun hH2 => ?_)
        clear hH
        have hH := hH2
        obtain ⟨hBW, hX, hA, hsf, hfar, hsz⟩ := hH2
        clear hK K
        try simp only [Act.put, List.setIfInBounds_toArray, List.set_cons_zero, List.set_cons_succ]
        refine wpAnyH_ready (rs := [5]) (by kernel_rfl) (by simp) ?_
        refine AllReadyH.cons (o := { dst := some 44, op := Op.call { callee := Callee.value (Operand.func 18), args := #[Operand.tmp 40, Operand.tmp 43], argTypes := #[3, 32] }, type := 49, pos := "law.go:164", after := _, guard := none }) rfl (fun K hK => ?_) AllReadyH.nil
        rw [if_pos (by rfl)]
        go_simp
        refine (HLF.out _).mono ?_
        rintro r wq ⟨rfl, hb⟩
        have hbs := hb.size
        try simp only [World.size_alloc, World.size_setCell, World.size_drew, size_setRow] at hbs
        go_wp2_with fail
        refine hK.out _ _ ⟨bk_, bk_, bk_, sl_, bl_, Nat.le_trans (sz_) hb.size⟩ (fun hH2 => ?_)
        clear hH
        have hH := hH2
        obtain ⟨hBW, hX, hA, hsf, hfar, hsz⟩ := hH2
        clear hK K
        try simp only [Act.put, List.setIfInBounds_toArray, List.set_cons_zero, List.set_cons_succ]
        refine wpAnyH_take (i := 6) (oi := { dst := some 38, op := Op.move (Operand.tmp 44), type := 49, pos := "law.go:164", after := _, guard := none }) (v := _) rfl (by kernel_rfl) (by kernel_rfl) (by kernel_rfl) (fun _ _ _ h => h) (.inl ⟨by rfl, fun w hS => by (go_simp; try rfl)⟩) hH ?_
        try simp only [Act.put, List.setIfInBounds_toArray, List.set_cons_zero, List.set_cons_succ]
        refine wpAnyH_take (i := 7) (oi := { dst := some 45, op := Op.extract (Operand.tmp 38) 0, type := 32, pos := "law.go:164", after := _, guard := none }) (v := _) rfl (by kernel_rfl) (by kernel_rfl) (by kernel_rfl) (fun _ _ _ h => h) (.inl ⟨by rfl, fun w hS => by (go_simp; try rfl)⟩) hH ?_
        try simp only [Act.put, List.setIfInBounds_toArray, List.set_cons_zero, List.set_cons_succ]
        refine wpAnyH_take (i := 8) (oi := { dst := some 46, op := Op.extract (Operand.tmp 38) 1, type := 3, pos := "law.go:164", after := _, guard := none }) (v := _) rfl (by kernel_rfl) (by kernel_rfl) (by kernel_rfl) (fun _ _ _ h => h) (.inl ⟨by rfl, fun w hS => by (go_simp; try rfl)⟩) hH ?_
        try simp only [Act.put, List.setIfInBounds_toArray, List.set_cons_zero, List.set_cons_succ]
        refine wpAnyH_ready (rs := [10]) (by kernel_rfl) (by simp) ?_
        refine AllReadyH.cons (o := { dst := none, op := Op.store 32 (Operand.tmp 11) (Operand.tmp 45), type := 0, pos := "law.go:164", after := _, guard := none }) rfl (fun K hK => ?_) AllReadyH.nil
        rw [if_pos (by rfl)]
        refine wp_st 32 rfl w_Block rfl rfl bk_ zz_ LLI.sz one_ ?_
        refine hK.out _ _ ⟨bk_, bk_, bk_, sl_, bl_, sz_⟩ (fun hH2 => ?_)
        clear hH
        have hH := hH2
        obtain ⟨hBW, hX, hA, hsf, hfar, hsz⟩ := hH2
        clear hK K
        try simp only [Act.put]
        refine wpAnyH_take (i := 11) (oi := { dst := some 12, op := Op.assign (Operand.tmp 46), type := 3, pos := "law.go:164", after := _, guard := none }) (v := _) rfl (by kernel_rfl) (by kernel_rfl) (by kernel_rfl) (fun _ _ _ h => h) (.inl ⟨by rfl, fun w hS => by (go_simp; try rfl)⟩) hH ?_
        try simp only [Act.put, List.setIfInBounds_toArray, List.set_cons_zero, List.set_cons_succ]
        refine wpAnyH_done (by kernel_rfl) ?_ _
        go_wp2_with fail
        go_meet
        case rel => exact ⟨_, rfl, rfl, by exact bk_, hBW, hX, hA, hfar, hsz⟩
      case rest =>
        clear hA hBW hsf hfar hsz hX
        obtain ⟨g2, rfl, rfl, hLB, hBW, hX, hA, hfar, hsz⟩ := hcut
        go_upto_region 6 with (fail)
        refine wp_region_held_drew (S := fun W => Blk W (0) (bandE) 133 ∧ Blk W (g) (arrV X) 36 ∧ Blk W (B) (arrV E) 27 ∧ Blk W (g2) (arrV LI) 32 ∧ Below (B) w W ∧ g + 1 ≤ W.heap.size) (by kernel_rfl) (⟨hBW.drew, hX.drew, hA.drew, hLB.drew, hfar.drew, hsz⟩) (fun hH => ?_)
        have hH2 := hH
        obtain ⟨hBW, hX, hA, hLB, hfar, hsz⟩ := hH2
        refine wpAnyH_take (i := 0) (oi := { dst := some 47, op := Op.move (Operand.tmp 10), type := 37, pos := "law.go:165", after := _, guard := none }) (v := _) rfl (by kernel_rfl) (by kernel_rfl) (by kernel_rfl) (fun _ _ _ h => h) (.inl ⟨by rfl, fun w hS => by (go_simp; try rfl)⟩) hH ?_
        try simp only [Act.put, List.setIfInBounds_toArray, List.set_cons_zero, List.set_cons_succ]
        refine wpAnyH_take (i := 1) (oi := { dst := some 48, op := Op.binOp BinOp.eql 37 (Operand.tmp 47) (Operand.const (Value.int IntKind.i64 0)) 37, type := 4, pos := "law.go:165", after := _, guard := none }) (v := _) rfl (by kernel_rfl) (by kernel_rfl) (by kernel_rfl) (fun _ _ _ h => h) (.inl ⟨by rfl, fun w hS => by (go_simp; try rfl)⟩) hH ?_
        try simp only [Act.put, List.setIfInBounds_toArray, List.set_cons_zero, List.set_cons_succ]
        refine wpAnyH_take (i := 2) (oi := { dst := some 49, op := Op.move (Operand.tmp 48), type := 4, pos := "law.go:165", after := _, guard := none }) (v := _) rfl (by kernel_rfl) (by kernel_rfl) (by kernel_rfl) (fun _ _ _ h => h) (.inl ⟨by rfl, fun w hS => by (go_simp; try rfl)⟩) hH ?_
        try simp only [Act.put, List.setIfInBounds_toArray, List.set_cons_zero, List.set_cons_succ]
        refine wpAnyH_take (i := 3) (oi := { dst := some 50, op := Op.fieldAddr 36 (Operand.tmp 9) 0, type := 0, pos := "law.go:165", after := _, guard := some (2, true) }) (v := _) rfl (by kernel_rfl) (by kernel_rfl) (by kernel_rfl) (fun _ _ _ h => h) (.inl ⟨by rfl, fun w hS => by (go_simp; try rfl)⟩) hH ?_
        try simp only [Act.put, List.setIfInBounds_toArray, List.set_cons_zero, List.set_cons_succ]
        refine wpAnyH_take (i := 4) (oi := { dst := some 51, op := Op.load 32 (Operand.tmp 50), type := 32, pos := "law.go:165", after := _, guard := some (2, true) }) (v := .agg (arrV LI)) rfl (by kernel_rfl) (by kernel_rfl) (by kernel_rfl) (fun _ _ _ h => h) (hx0 ▸ yieldsIf_ldp (by rfl) 32 rfl w_Block rfl (fun _ hS => hS.2.1) LX (by omega)) hH ?_
        try simp only [Act.put, List.setIfInBounds_toArray, List.set_cons_zero, List.set_cons_succ]
        refine wpAnyH_take (i := 5) (oi := { dst := some 52, op := Op.load 32 (Operand.tmp 11), type := 32, pos := "law.go:165", after := _, guard := some (2, true) }) (v := .agg (arrV LI)) rfl (by kernel_rfl) (by kernel_rfl) (by kernel_rfl) (fun _ _ _ h => h) (yieldsIf_ld (by rfl) 32 rfl w_Block rfl (fun _ hS => hS.2.2.2.1) zz_) hH ?_
        try simp only [Act.put, List.setIfInBounds_toArray, List.set_cons_zero, List.set_cons_succ]
        refine wpAnyH_take (i := 6) (oi := { dst := some 53, op := Op.binOp BinOp.eql 32 (Operand.tmp 51) (Operand.tmp 52) 32, type := 4, pos := "law.go:165", after := _, guard := some (2, true) }) (v := .bool true) rfl (by kernel_rfl) (by kernel_rfl) (by kernel_rfl) (fun _ _ _ h => h) (yieldsIf_eql (by rfl) 32 rfl rfl rfl eg_Block (eq_block_self LLI.out)) hH ?_
        try simp only [Act.put, List.setIfInBounds_toArray, List.set_cons_zero, List.set_cons_succ]
        refine wpAnyH_take (i := 7) (oi := { dst := some 54, op := Op.pick (Operand.tmp 49) (Operand.tmp 53) (Operand.const (Value.bool false)), type := 4, pos := "law.go:165", after := _, guard := none }) (v := _) rfl (by kernel_rfl) (by kernel_rfl) (by kernel_rfl) (fun _ _ _ h => h) (.inl ⟨by rfl, fun w hS => by (go_simp; try rfl)⟩) hH ?_
        try simp only [Act.put, List.setIfInBounds_toArray, List.set_cons_zero, List.set_cons_succ]
        refine wpAnyH_take (i := 8) (oi := { dst := some 55, op := Op.move (Operand.tmp 54), type := 4, pos := "law.go:165", after := _, guard := none }) (v := _) rfl (by kernel_rfl) (by kernel_rfl) (by kernel_rfl) (fun _ _ _ h => h) (.inl ⟨by rfl, fun w hS => by (go_simp; try rfl)⟩) hH ?_
        try simp only [Act.put, List.setIfInBounds_toArray, List.set_cons_zero, List.set_cons_succ]
        refine wpAnyH_take (i := 9) (oi := { dst := some 56, op := Op.fieldAddr 36 (Operand.tmp 9) 1, type := 0, pos := "law.go:165", after := _, guard := some (8, true) }) (v := _) rfl (by kernel_rfl) (by kernel_rfl) (by kernel_rfl) (fun _ _ _ h => h) (.inl ⟨by rfl, fun w hS => by (go_simp; try rfl)⟩) hH ?_
        try simp only [Act.put, List.setIfInBounds_toArray, List.set_cons_zero, List.set_cons_succ]
        refine wpAnyH_take (i := 10) (oi := { dst := some 57, op := Op.load 3 (Operand.tmp 56), type := 3, pos := "law.go:165", after := _, guard := some (8, true) }) (v := _) rfl (by kernel_rfl) (by kernel_rfl) (by kernel_rfl) (fun _ _ _ h => h) (.inl ⟨by rfl, fun w hS => by (have c := d16 w hS.2.1; go_simp; try rfl)⟩) hH ?_
        try simp only [Act.put, List.setIfInBounds_toArray, List.set_cons_zero, List.set_cons_succ]
        refine wpAnyH_take (i := 11) (oi := { dst := some 58, op := Op.move (Operand.tmp 12), type := 3, pos := "law.go:165", after := _, guard := some (8, true) }) (v := _) rfl (by kernel_rfl) (by kernel_rfl) (by kernel_rfl) (fun _ _ _ h => h) (.inl ⟨by rfl, fun w hS => by (go_simp; try rfl)⟩) hH ?_
        try simp only [Act.put, List.setIfInBounds_toArray, List.set_cons_zero, List.set_cons_succ]
        refine wpAnyH_take (i := 12) (oi := { dst := some 59, op := Op.binOp BinOp.eql 3 (Operand.tmp 57) (Operand.tmp 58) 3, type := 4, pos := "law.go:165", after := _, guard := some (8, true) }) (v := _) rfl (by kernel_rfl) (by kernel_rfl) (by kernel_rfl) (fun _ _ _ h => h) (.inl ⟨by rfl, fun w hS => by (go_simp; try rfl)⟩) hH ?_
        try simp only [Act.put, List.setIfInBounds_toArray, List.set_cons_zero, List.set_cons_succ]
        refine wpAnyH_take (i := 13) (oi := { dst := some 60, op := Op.pick (Operand.tmp 55) (Operand.tmp 59) (Operand.const (Value.bool false)), type := 4, pos := "law.go:165", after := _, guard := none }) (v := _) rfl (by kernel_rfl) (by kernel_rfl) (by kernel_rfl) (fun _ _ _ h => h) (.inl ⟨by rfl, fun w hS => by (go_simp; try rfl)⟩) hH ?_
        try simp only [Act.put, List.setIfInBounds_toArray, List.set_cons_zero, List.set_cons_succ]
        refine wpAnyH_take (i := 14) (oi := { dst := some 61, op := Op.move (Operand.tmp 60), type := 4, pos := "law.go:165", after := _, guard := none }) (v := _) rfl (by kernel_rfl) (by kernel_rfl) (by kernel_rfl) (fun _ _ _ h => h) (.inl ⟨by rfl, fun w hS => by (go_simp; try rfl)⟩) hH ?_
        try simp only [Act.put, List.setIfInBounds_toArray, List.set_cons_zero, List.set_cons_succ]
        refine wpAnyH_take (i := 15) (oi := { dst := some 62, op := Op.fieldAddr 36 (Operand.tmp 9) 2, type := 0, pos := "law.go:165", after := _, guard := some (14, true) }) (v := _) rfl (by kernel_rfl) (by kernel_rfl) (by kernel_rfl) (fun _ _ _ h => h) (.inl ⟨by rfl, fun w hS => by (go_simp; try rfl)⟩) hH ?_
        try simp only [Act.put, List.setIfInBounds_toArray, List.set_cons_zero, List.set_cons_succ]
        refine wpAnyH_take (i := 16) (oi := { dst := some 63, op := Op.fieldAddr 34 (Operand.tmp 62) 2, type := 0, pos := "law.go:165", after := _, guard := some (14, true) }) (v := _) rfl (by kernel_rfl) (by kernel_rfl) (by kernel_rfl) (fun _ _ _ h => h) (.inl ⟨by rfl, fun w hS => by (go_simp; try rfl)⟩) hH ?_
        try simp only [Act.put, List.setIfInBounds_toArray, List.set_cons_zero, List.set_cons_succ]
        refine wpAnyH_take (i := 17) (oi := { dst := some 64, op := Op.load 23 (Operand.tmp 63), type := 23, pos := "law.go:165", after := _, guard := some (14, true) }) (v := .agg (arrV V)) rfl (by kernel_rfl) (by kernel_rfl) (by kernel_rfl) (fun _ _ _ h => h) (hx2 ▸ yieldsIf_ldp (by rfl) 23 rfl w_Four rfl (fun _ hS => hS.2.1) LX (by omega)) hH ?_
        try simp only [Act.put, List.setIfInBounds_toArray, List.set_cons_zero, List.set_cons_succ]
        refine wpAnyH_take (i := 18) (oi := { dst := some 65, op := Op.fieldAddr 27 (Operand.tmp 3) 0, type := 0, pos := "law.go:165", after := _, guard := some (14, true) }) (v := _) rfl (by kernel_rfl) (by kernel_rfl) (by kernel_rfl) (fun _ _ _ h => h) (.inl ⟨by rfl, fun w hS => by (go_simp; try rfl)⟩) hH ?_
        try simp only [Act.put, List.setIfInBounds_toArray, List.set_cons_zero, List.set_cons_succ]
        refine wpAnyH_take (i := 19) (oi := { dst := some 66, op := Op.load 22 (Operand.tmp 65), type := 22, pos := "law.go:165", after := _, guard := some (14, true) }) (v := .agg (arrV P)) rfl (by kernel_rfl) (by kernel_rfl) (by kernel_rfl) (fun _ _ _ h => h) (hp0 ▸ yieldsIf_ldp (by rfl) 22 rfl w_Sixteen rfl (fun _ hS => hS.2.2.1) LE (by omega)) hH ?_
        try simp only [Act.put, List.setIfInBounds_toArray, List.set_cons_zero, List.set_cons_succ]
        refine wpAnyH_take (i := 20) (oi := { dst := some 67, op := Op.load 32 (Operand.tmp 11), type := 32, pos := "law.go:165", after := _, guard := some (14, true) }) (v := .agg (arrV LI)) rfl (by kernel_rfl) (by kernel_rfl) (by kernel_rfl) (fun _ _ _ h => h) (yieldsIf_ld (by rfl) 32 rfl w_Block rfl (fun _ hS => hS.2.2.2.1) zz_) hH ?_
        try simp only [Act.put, List.setIfInBounds_toArray, List.set_cons_zero, List.set_cons_succ]
        refine wpAnyH_ready (rs := [21]) (by kernel_rfl) (by simp) ?_
        refine AllReadyH.cons (o := { dst := some 68, op := Op.call { callee := Callee.value (Operand.func 20), args := #[Operand.tmp 66, Operand.tmp 67], argTypes := #[32, 32] }, type := 32, pos := "law.go:165", after := _, guard := some (14, true) }) rfl (fun K hK => ?_) AllReadyH.nil
        rw [if_pos (by rfl)]
        go_simp
        refine (HWV.out _).mono ?_
        rintro r wq ⟨rfl, hb⟩
        have hbs := hb.size
        try simp only [World.size_alloc, World.size_setCell, World.size_drew, size_setRow] at hbs
        go_wp2_with fail
        refine hK.out _ _ ⟨bk_, bk_, bk_, bk_, bl_, Nat.le_trans (sz_) hb.size⟩ (fun hH2 => ?_)
        clear hH
        have hH := hH2
        obtain ⟨hBW, hX, hA, hLB, hfar, hsz⟩ := hH2
        clear hK K
        try simp only [Act.put, List.setIfInBounds_toArray, List.set_cons_zero, List.set_cons_succ]
        refine wpAnyH_ready (rs := [22]) (by kernel_rfl) (by simp) ?_
        refine AllReadyH.cons (o := { dst := some 69, op := Op.call { callee := Callee.value (Operand.func 19), args := #[Operand.tmp 68], argTypes := #[32] }, type := 23, pos := "law.go:165", after := _, guard := some (14, true) }) rfl (fun K hK => ?_) AllReadyH.nil
        rw [if_pos (by rfl)]
        go_simp
        refine (HLL.out _ hBW).mono ?_
        rintro r wq ⟨rfl, hb⟩
        have hbs := hb.size
        try simp only [World.size_alloc, World.size_setCell, World.size_drew, size_setRow] at hbs
        go_wp2_with fail
        refine hK.out _ _ ⟨bk_, bk_, bk_, bk_, bl_, Nat.le_trans (sz_) hb.size⟩ (fun hH2 => ?_)
        clear hH
        have hH := hH2
        obtain ⟨hBW, hX, hA, hLB, hfar, hsz⟩ := hH2
        clear hK K
        try simp only [Act.put, List.setIfInBounds_toArray, List.set_cons_zero, List.set_cons_succ]
        refine wpAnyH_take (i := 23) (oi := { dst := some 70, op := Op.binOp BinOp.eql 23 (Operand.tmp 64) (Operand.tmp 69) 23, type := 4, pos := "law.go:165", after := _, guard := some (14, true) }) (v := .bool true) rfl (by kernel_rfl) (by kernel_rfl) (by kernel_rfl) (fun _ _ _ h => h) (yieldsIf_eql (by rfl) 23 rfl rfl rfl eg_Four (eq_four_self LVN.out)) hH ?_
        try simp only [Act.put, List.setIfInBounds_toArray, List.set_cons_zero, List.set_cons_succ]
        refine wpAnyH_take (i := 24) (oi := { dst := some 71, op := Op.pick (Operand.tmp 61) (Operand.tmp 70) (Operand.const (Value.bool false)), type := 4, pos := "law.go:165", after := _, guard := none }) (v := _) rfl (by kernel_rfl) (by kernel_rfl) (by kernel_rfl) (fun _ _ _ h => h) (.inl ⟨by rfl, fun w hS => by (go_simp; try rfl)⟩) hH ?_
        try simp only [Act.put, List.setIfInBounds_toArray, List.set_cons_zero, List.set_cons_succ]
        refine wpAnyH_take (i := 25) (oi := { dst := some 6, op := Op.assign (Operand.tmp 71), type := 4, pos := "law.go:165", after := _, guard := none }) (v := _) rfl (by kernel_rfl) (by kernel_rfl) (by kernel_rfl) (fun _ _ _ h => h) (.inl ⟨by rfl, fun w hS => by (go_simp; try rfl)⟩) hH ?_
        try simp only [Act.put, List.setIfInBounds_toArray, List.set_cons_zero, List.set_cons_succ]
        refine wpAnyH_done (by kernel_rfl) ?_ _
        go_wp2_with fail
        go_ret
        exact ⟨rfl, (by (try rw [hB]); exact bl_)⟩
end Go.Proofs.YthpjkgpngbdhbaaGreatDoor
