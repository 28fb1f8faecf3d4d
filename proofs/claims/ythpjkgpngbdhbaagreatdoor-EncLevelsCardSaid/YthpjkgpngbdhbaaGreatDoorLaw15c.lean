/- The walk of spoollaw15.EncSizes: whatever comes in, it returns true. -/
import Derived.Test.YthpjkgpngbdhbaaGreatDoorLaw15b
set_option linter.unusedSimpArgs false
set_option linter.unusedVariables false
namespace Go.Proofs.YthpjkgpngbdhbaaGreatDoor
open Go.RowKit

theorem el_Sixteen : ElemT 22 16 := ⟨fun _ => by kernel_rfl, .agg #[.int .i64 0, .int .i64 0, .int .i64 0, .int .i64 0, .int .i64 0, .int .i64 0, .int .i64 0, .int .i64 0, .int .i64 0, .int .i64 0, .int .i64 0, .int .i64 0, .int .i64 0, .int .i64 0, .int .i64 0, .int .i64 0], fun _ => by kernel_rfl, by kernel_rfl⟩
theorem ERightE_any {e : ESt} (h : e.Ok) (w : World) : Calls Tryz.prog 13 #[.agg (arrV e.l)] w fun r w' => r = .returned (.bool true) ∧ Below w.heap.size w w' := by
  have h2 := ERight_any e.P e.L e.last h.1 h.2.1 w
  rw [h.2.2] at h2
  exact h2
theorem frames_one {b : List Int} : frames [b] = [frame b] := rfl
/-- The first of a slice of one block. -/
theorem SL.rng {W : World} {lo hi g o n c : Nat} {F : List Int} (h : SL W lo hi 16 (some ⟨g, o, none⟩) n c (intsV F)) : W.rangeAt g o (arrV F).toList := fun j u hu => h.2.2.2.2.2.2 _ rfl j u (by simpa using hu)
/-- Of a byte so many bytes for a packet. -/
theorem size23 {sz : Int} (h : 0 ≤ sz ∧ sz ≤ 255) : ∃ m : Nat, sz.tmod 23 = m ∧ m ≤ 22 := by
  have h1 := Int.tmod_lt_of_pos sz (show (0 : Int) < 23 by decide)
  have h2 := Int.tmod_nonneg (a := sz) 23 h.1
  exact ⟨(sz.tmod 23).toNat, by omega, by omega⟩
/-- Whatever is encoded of a frame that has 16 bits. -/
theorem Encode_both (e : ESt) (h1 : e.P.length = 16) (h2 : e.L.length = 38) {b : List Int} (hb : S16 b) {m : Nat} (hm : m ≤ 22) (w : World) (hW : BandsW w) :
    ∃ (R : ByteArray) (X : List Int) (f : Int), Len X 55 ∧ (∀ w, BandsW w → Calls Tryz.prog 11 #[.agg (arrV e.l), .agg (arrV b), .int .i64 (10 + (m : Int))] w fun r w' => r = .returned (.tuple #[.string R, .agg (arrV X), .int .i64 f]) ∧ Below w.heap.size w w') ∧
      ((e.Ok ∧ f = 0 ∧ R = packE (10 + m) e b ∧ X = (nextE (10 + m) e b).l) ∨ (rightE e.P e.last e.L = false ∧ f = 1 ∧ R = ⟨#[]⟩ ∧ X = zs 55)) := by
  have hc : (((10 + m : Nat)) : Int) = 10 + (m : Int) := by omega
  by_cases hr : rightE e.P e.last e.L = true
  · have he : e.Ok := ⟨h1, h2, hr⟩
    refine ⟨_, _, 0, Len.mk (est_len (nextE_ok (size := 10 + m) (by omega) (by omega) he hb)), fun w hW => ?_, .inl ⟨he, rfl, rfl, rfl⟩⟩
    have h := EncodeE_any (size := 10 + m) (by omega) (by omega) he hb w hW
    rw [hc] at h
    exact h
  · refine ⟨_, _, 1, Len.zs 55, fun w hW => ?_, .inr ⟨by simpa using hr, rfl, rfl, rfl⟩⟩
    exact Encode_arg e.P e.L b e.last h1 h2 hb.1 (10 + (m : Int)) (by omega) (by omega) (fun h => hr h.1) w
theorem Frames_sl (l : List (List Int)) {n : Nat} (hn : (frames l).length = n) (p : Option Addr) (cap : Nat) (w : World) (hE : SixIn w p cap l) :
    Calls Tryz.prog 10 #[.slice p l.length cap] w fun e w' => ∃ p2 c2 lo hi, e = .returned (.slice p2 n c2) ∧ SL w' lo hi 16 p2 n c2 ((frames l).flatMap intsV) ∧ w.heap.size ≤ lo ∧ hi ≤ w'.heap.size ∧ Below w.heap.size w w' := by
  subst hn
  refine (Frames_any l p cap w hE).mono ?_
  rintro e w2 ⟨v, rfl, hv, hb⟩
  obtain ⟨p2, c2, rfl, hs⟩ := hv.sl
  exact ⟨p2, c2, _, _, rfl, hs, Nat.le_refl _, Nat.le_refl _, hb⟩
theorem Frames_one (b : List Int) (p : Option Addr) (cap : Nat) (w : World) (hE : SixIn w p cap [b]) :
    Calls Tryz.prog 10 #[.slice p 1 cap] w fun e w' => ∃ g o c lo hi, e = .returned (.slice (some ⟨g, o, none⟩) 1 c) ∧ SL w' lo hi 16 (some ⟨g, o, none⟩) 1 c (intsV (frame b)) ∧ w.heap.size ≤ lo ∧ hi ≤ w'.heap.size ∧ Below w.heap.size w w' := by
  refine (Frames_sl [b] (n := 1) rfl p cap w hE).mono ?_
  rintro e w2 ⟨p2, c2, lo, hi, rfl, hs, h1, h2, hb⟩
  obtain ⟨g, o, rfl, -, -, -⟩ := hs.form (by omega)
  exact ⟨g, o, c2, lo, hi, rfl, by simpa [frames_one] using hs, h1, h2, hb⟩
set_option maxRecDepth 100000 in
set_option maxHeartbeats 4000000 in
theorem EncSizes_any (P L b : List Int) (last : Int) (h1 : P.length = 16) (h2 : L.length = 38) (h3 : b.length = 16) (sz : Int) (hs : 0 ≤ sz ∧ sz ≤ 255) (w : World) (hW : BandsW w) :
    Calls Tryz.prog 3 #[.agg (arrV (encL P last L)), .agg (arrV b), .int .u8 sz] w fun e w' => e = .returned (.bool true) ∧ Below w.heap.size w w' := by
  have hof := fun w => Of15_any P L last h1 h2 w
  have her := fun w => ERight_any P L last h1 h2 w
  obtain ⟨m, hm, hm22⟩ := size23 hs
  have hb16 := frame_s16 h3
  obtain ⟨R, X, f, LX, hen, hcase⟩ := Encode_both ⟨P, last, L⟩ h1 h2 hb16 hm22 w hW
  have LE := Len.mk (encL_len last h1 h2)
  have hel : (⟨P, last, L⟩ : ESt).l = encL P last L := rfl
  rw [hel] at hen
  have hcase2 : (f = 0 ∧ (R.size : Int) = 10 + m ∧ rightE P last L = true ∧ ∀ w, Calls Tryz.prog 13 #[.agg (arrV X)] w fun r w' => r = .returned (.bool true) ∧ Below w.heap.size w w') ∨ (f = 1 ∧ rightE P last L = false ∧ R = ⟨#[]⟩ ∧ X = zs 55) := by
    rcases hcase with ⟨he, hf, hR, hX⟩ | ⟨he, hf, hR, hX⟩
    · refine .inl ⟨hf, ?_, he.2.2, fun w => ?_⟩
      · rw [hR, packE_size (by omega) he]; omega
      · rw [hX]; exact ERightE_any (nextE_ok (size := 10 + m) (by omega) (by omega) he hb16) w
    · exact .inr ⟨hf, he, hR, hX⟩
  have LB := Len.mk h3
  have LF := Len.mk hb16.1
  have hfr := fun p cap w h => Frames_one b p cap w h
  obtain ⟨E, hE⟩ : ∃ E, encL P last L = E := ⟨_, rfl⟩
  obtain ⟨rr, hrr⟩ : ∃ r, rightE P last L = r := ⟨_, rfl⟩
  obtain ⟨F, hF⟩ : ∃ F, frame b = F := ⟨_, rfl⟩
  simp only [hE, hrr] at hof her hen hcase2 LE
  simp only [hF] at hfr hen LF
  rw [hE]
  have HOF := Lib.hid hof
  have HER := Lib.hid her
  have HEN := Lib.hid hen
  have HFR := Lib.hid hfr
  have HCA := Lib.hid hcase2
  clear hof her hen hfr hcase hcase2 hE hrr hF hel hb16 h1 h2
  have hz55 : ((List.toArray (Value.int .i64 0 :: Value.int .i64 0 :: Value.int .i64 0 :: Value.int .i64 0 :: Value.int .i64 0 :: Value.int .i64 0 :: Value.int .i64 0 :: Value.int .i64 0 :: Value.int .i64 0 :: Value.int .i64 0 :: Value.int .i64 0 :: Value.int .i64 0 :: Value.int .i64 0 :: Value.int .i64 0 :: Value.int .i64 0 :: Value.int .i64 0 :: Value.int .i64 0 :: Value.int .i64 0 :: Value.int .i64 0 :: Value.int .i64 0 :: Value.int .i64 0 :: Value.int .i64 0 :: Value.int .i64 0 :: Value.int .i64 0 :: Value.int .i64 0 :: Value.int .i64 0 :: Value.int .i64 0 :: Value.int .i64 0 :: Value.int .i64 0 :: Value.int .i64 0 :: Value.int .i64 0 :: Value.int .i64 0 :: Value.int .i64 0 :: Value.int .i64 0 :: Value.int .i64 0 :: Value.int .i64 0 :: Value.int .i64 0 :: Value.int .i64 0 :: Value.int .i64 0 :: Value.int .i64 0 :: Value.int .i64 0 :: Value.int .i64 0 :: Value.int .i64 0 :: Value.int .i64 0 :: Value.int .i64 0 :: Value.int .i64 0 :: Value.int .i64 0 :: Value.int .i64 0 :: Value.int .i64 0 :: Value.int .i64 0 :: Value.int .i64 0 :: Value.int .i64 0 :: Value.int .i64 0 :: Value.int .i64 0 :: Value.int .i64 0 :: [])) : Array Value).size = 55 := by rfl
  have hBW : Blk w 0 bandE 133 := hW
  have h0 : 0 < w.heap.size := hW.lt
  obtain ⟨B, hB⟩ : ∃ B, w.heap.size = B := ⟨_, rfl⟩
  rw [hB] at h0
  have hfar := Below.refl B w
  have hsz : B ≤ w.heap.size := by omega
  go_enter Tryz.func3, Tryz.ntmps3
  go_upto_region 1 with (fail)
  refine wp_gen (fun W => Blk W (0) (bandE) 133 ∧ Blk W (B) (arrV E) 27 ∧ Blk W (B + 1) (arrV b) 22 ∧ Below (B) w W ∧ B + 2 ≤ W.heap.size) ⟨bk_, bk_, bk_, bl_, sz_⟩ ?_
  clear hBW hfar hsz
  rintro wa ⟨hBW, hA, hb, hfar, hsz⟩
  go_wp2_with fail
  refine (awake15_any _ hBW).mono ?_
  rintro e w1 ⟨rfl, hb1⟩
  replace hBW := hBW.newB hb1
  replace hA := hA.newB hb1
  replace hb := hb.newB hb1
  replace hfar := hfar.trans (hb1.mono (by omega))
  replace hsz := Nat.le_trans hsz hb1.size
  go_upto_region 4 with (fail)
  go_wp2_with (first | (refine ld 22 rfl (by rfl) w_Sixteen rfl hb LB.sz ?_) | (refine bs1 31 rfl (by rfl) rfl Tryz.underlying31 el_Sixteen (by omega) (by omega) LB.sz ?_))
  refine (HFR.out _ _ _ (SixIn.one (Blk.newAt rfl) LB.out)).mono ?_
  rintro e w2 ⟨gf, of, cf, lof, hif, rfl, hsf, hlo2, hhi2, hb2'⟩
  have hb2 : Below w1.heap.size w1 w2 := ((Below.refl _ _).alloc (Nat.le_refl _) _).trans (hb2'.mono (by rw [World.size_alloc]; omega))
  rw [World.size_alloc] at hlo2
  have hBlo : B + 2 ≤ lof := by omega
  clear hb2'
  clear hb
  replace hBW := hBW.newB hb2
  replace hA := hA.newB hb2
  replace hfar := hfar.trans (hb2.mono (by omega))
  replace hsz := Nat.le_trans hsz hb2.size
  go_upto_region 5 with (fail)
  go_cut [9, 10, 11] from 21 (fun s9 s10 s11 wx => ∃ g, s9 = .string R ∧ s10 = .pointer (some ⟨g, 0, none⟩) ∧ s11 = .int .i64 f ∧ Blk wx g (arrV X) 36 ∧ Blk wx B (arrV E) 27 ∧ Below B w wx ∧ B + 2 ≤ wx.heap.size)
  case first =>
    refine wp_region_held_drew (S := fun W => Blk W (0) (bandE) 133 ∧ Blk W (B) (arrV E) 27 ∧ SL W (lof) (hif) (16) (some ⟨gf, of, none⟩) (1) (cf) (intsV F) ∧ Below (B) w W ∧ B + 2 ≤ W.heap.size) (by kernel_rfl) (⟨hBW.drew, hA.drew, hsf.drew, hfar.drew, hsz⟩) (fun hH => ?_)
    have hH2 := hH
    obtain ⟨hBW, hA, hsf, hfar, hsz⟩ := hH2
    refine wpAnyH_take (i := 0) (oi := { dst := some 22, op := Op.load 27 (Operand.tmp 3), type := 27, pos := "law.go:54", after := _, guard := none }) (v := .agg (arrV E)) rfl (by kernel_rfl) (by kernel_rfl) (by kernel_rfl) (fun _ _ _ h => h) (yieldsIf_ld (by rfl) 27 rfl w_REnc rfl (fun _ hS => hS.2.1) zz_) hH ?_
    try simp only [Act.put, List.setIfInBounds_toArray, List.set_cons_zero, List.set_cons_succ]
    refine wpAnyH_take (i := 2) (oi := { dst := some 24, op := Op.move (Operand.tmp 8), type := 29, pos := "law.go:54", after := _, guard := none }) (v := _) rfl (by kernel_rfl) (by kernel_rfl) (by kernel_rfl) (fun _ _ _ h => h) (.inl ⟨by rfl, fun w hS => by (go_simp; try rfl)⟩) hH ?_
    try simp only [Act.put, List.setIfInBounds_toArray, List.set_cons_zero, List.set_cons_succ]
    refine wpAnyH_take (i := 3) (oi := { dst := some 25, op := Op.indexAddr 29 (Operand.tmp 24) (Operand.const (Value.int IntKind.i64 0)), type := 0, pos := "law.go:54", after := _, guard := none }) (v := _) rfl (by kernel_rfl) (by kernel_rfl) (by kernel_rfl) (fun _ _ _ h => h) (.inl ⟨by rfl, fun w hS => by (go_simp; try rfl)⟩) hH ?_
    try simp only [Act.put, List.setIfInBounds_toArray, List.set_cons_zero, List.set_cons_succ]
    refine wpAnyH_take (i := 4) (oi := { dst := some 26, op := Op.load 32 (Operand.tmp 25), type := 32, pos := "law.go:54", after := _, guard := none }) (v := .agg (arrV F)) rfl (by kernel_rfl) (by kernel_rfl) (by kernel_rfl) (fun _ _ _ h => h) (yieldsIf_ldr (by rfl) 32 rfl w_Block rfl (fun w hS => hS.2.2.1.rng) LF.sz) hH ?_
    try simp only [Act.put, List.setIfInBounds_toArray, List.set_cons_zero, List.set_cons_succ]
    refine wpAnyH_take (i := 5) (oi := { dst := some 27, op := Op.move (Operand.tmp 7), type := 3, pos := "law.go:54", after := _, guard := none }) (v := _) rfl (by kernel_rfl) (by kernel_rfl) (by kernel_rfl) (fun _ _ _ h => h) (.inl ⟨by rfl, fun w hS => by (go_simp; try rfl)⟩) hH ?_
    try simp only [Act.put, List.setIfInBounds_toArray, List.set_cons_zero, List.set_cons_succ]
    refine wpAnyH_ready (rs := [1, 11]) (by kernel_rfl) (by simp) ?_
    refine AllReadyH.cons (o := { dst := some 23, op := Op.call { callee := Callee.value (Operand.func 12), args := #[Operand.tmp 22], argTypes := #[27] }, type := 36, pos := "law.go:54", after := _, guard := none }) rfl (fun K hK => ?_) ?_
    · rw [if_pos (by rfl)]
      go_simp
      refine (HOF.out _).mono ?_
      rintro r wq ⟨rfl, hb⟩
      have hbs := hb.size
      try simp only [World.size_alloc, World.size_setCell, World.size_drew, size_setRow] at hbs
      go_wp2_with fail
      refine hK.out _ _ ⟨bk_, bk_, sl_, bl_, Nat.le_trans (sz_) hb.size⟩ (fun hH2 => ?_)
      clear hH
      have hH := hH2
      obtain ⟨hBW, hA, hsf, hfar, hsz⟩ := hH2
      clear hK K
      try simp only [Act.put, List.setIfInBounds_toArray, List.set_cons_zero, List.set_cons_succ]
      refine wpAnyH_ready (rs := [6, 11]) (by kernel_rfl) (by simp) ?_
      refine AllReadyH.cons (o := { dst := some 28, op := Op.call { callee := Callee.value (Operand.func 11), args := #[Operand.tmp 23, Operand.tmp 26, Operand.tmp 27], argTypes := #[36, 32, 3] }, type := 38, pos := "law.go:54", after := _, guard := none }) rfl (fun K hK => ?_) ?_
      · rw [if_pos (by rfl)]
        go_simp
        refine (HEN.out _ hBW).mono ?_
        rintro r wq ⟨rfl, hb⟩
        have hbs := hb.size
        try simp only [World.size_alloc, World.size_setCell, World.size_drew, size_setRow] at hbs
        go_wp2_with fail
        refine hK.out _ _ ⟨bk_, bk_, sl_, bl_, Nat.le_trans (sz_) hb.size⟩ (fun hH2 => ?_)
        clear hH
        have hH := hH2
        obtain ⟨hBW, hA, hsf, hfar, hsz⟩ := hH2
        clear hK K
        try simp only [Act.put, List.setIfInBounds_toArray, List.set_cons_zero, List.set_cons_succ]
        refine wpAnyH_take (i := 7) (oi := { dst := some 21, op := Op.move (Operand.tmp 28), type := 38, pos := "law.go:54", after := _, guard := none }) (v := _) rfl (by kernel_rfl) (by kernel_rfl) (by kernel_rfl) (fun _ _ _ h => h) (.inl ⟨by rfl, fun w hS => by (go_simp; try rfl)⟩) hH ?_
        try simp only [Act.put, List.setIfInBounds_toArray, List.set_cons_zero, List.set_cons_succ]
        refine wpAnyH_take (i := 8) (oi := { dst := some 29, op := Op.extract (Operand.tmp 21) 0, type := 9, pos := "law.go:54", after := _, guard := none }) (v := _) rfl (by kernel_rfl) (by kernel_rfl) (by kernel_rfl) (fun _ _ _ h => h) (.inl ⟨by rfl, fun w hS => by (go_simp; try rfl)⟩) hH ?_
        try simp only [Act.put, List.setIfInBounds_toArray, List.set_cons_zero, List.set_cons_succ]
        refine wpAnyH_take (i := 9) (oi := { dst := some 30, op := Op.extract (Operand.tmp 21) 1, type := 36, pos := "law.go:54", after := _, guard := none }) (v := _) rfl (by kernel_rfl) (by kernel_rfl) (by kernel_rfl) (fun _ _ _ h => h) (.inl ⟨by rfl, fun w hS => by (go_simp; try rfl)⟩) hH ?_
        try simp only [Act.put, List.setIfInBounds_toArray, List.set_cons_zero, List.set_cons_succ]
        refine wpAnyH_take (i := 10) (oi := { dst := some 31, op := Op.extract (Operand.tmp 21) 2, type := 37, pos := "law.go:54", after := _, guard := none }) (v := _) rfl (by kernel_rfl) (by kernel_rfl) (by kernel_rfl) (fun _ _ _ h => h) (.inl ⟨by rfl, fun w hS => by (go_simp; try rfl)⟩) hH ?_
        try simp only [Act.put, List.setIfInBounds_toArray, List.set_cons_zero, List.set_cons_succ]
        refine wpAnyH_ready (rs := [11]) (by kernel_rfl) (by simp) ?_
        refine AllReadyH.cons (o := { dst := some 10, op := Op.alloc 36, type := 0, pos := "law.go:54", after := _, guard := none }) rfl (fun K hK => ?_) AllReadyH.nil
        rw [if_pos (by rfl)]
        go_simp
        refine hK.out _ _ ⟨bk_, bk_, sl_, bl_, sz_⟩ (fun hH2 => ?_)
        clear hH
        have hH := hH2
        obtain ⟨hBW, hA, hsf, hfar, hsz⟩ := hH2
        clear hK K
        try simp only [Act.put, List.setIfInBounds_toArray, List.set_cons_zero, List.set_cons_succ]
        refine wpAnyH_take (i := 12) (oi := { dst := some 9, op := Op.assign (Operand.tmp 29), type := 9, pos := "law.go:54", after := _, guard := none }) (v := _) rfl (by kernel_rfl) (by kernel_rfl) (by kernel_rfl) (fun _ _ _ h => h) (.inl ⟨by rfl, fun w hS => by (go_simp; try rfl)⟩) hH ?_
        try simp only [Act.put, List.setIfInBounds_toArray, List.set_cons_zero, List.set_cons_succ]
        refine wpAnyH_ready (rs := [13]) (by kernel_rfl) (by simp) ?_
        refine AllReadyH.cons (o := { dst := none, op := Op.store 36 (Operand.tmp 10) (Operand.tmp 30), type := 0, pos := "law.go:54", after := _, guard := none }) rfl (fun K hK => ?_) AllReadyH.nil
        rw [if_pos (by rfl)]
        refine wp_st 36 rfl w_EEnc rfl rfl bk_ hz55 LX.sz one_ ?_
        refine hK.out _ _ ⟨bk_, bk_, sl_, bl_, sz_⟩ (fun hH2 => ?_)
        clear hH
        have hH := hH2
        obtain ⟨hBW, hA, hsf, hfar, hsz⟩ := hH2
        clear hK K
        try simp only [Act.put]
        refine wpAnyH_take (i := 14) (oi := { dst := some 11, op := Op.assign (Operand.tmp 31), type := 37, pos := "law.go:54", after := _, guard := none }) (v := _) rfl (by kernel_rfl) (by kernel_rfl) (by kernel_rfl) (fun _ _ _ h => h) (.inl ⟨by rfl, fun w hS => by (go_simp; try rfl)⟩) hH ?_
        try simp only [Act.put, List.setIfInBounds_toArray, List.set_cons_zero, List.set_cons_succ]
        refine wpAnyH_done (by kernel_rfl) ?_ _
        go_wp2_with fail
        go_meet
        case rel => exact ⟨_, rfl, rfl, rfl, by exact bk_, hA, hfar, hsz⟩
      refine AllReadyH.cons (o := { dst := some 10, op := Op.alloc 36, type := 0, pos := "law.go:54", after := _, guard := none }) rfl (fun K hK => ?_) AllReadyH.nil
      rw [if_pos (by rfl)]
      go_simp
      refine hK.out _ _ ⟨bk_, bk_, sl_, bl_, sz_⟩ (fun hH2 => ?_)
      clear hH
      have hH := hH2
      obtain ⟨hBW, hA, hsf, hfar, hsz⟩ := hH2
      clear hK K
      try simp only [Act.put, List.setIfInBounds_toArray, List.set_cons_zero, List.set_cons_succ]
      refine wpAnyH_ready (rs := [6]) (by kernel_rfl) (by simp) ?_
      refine AllReadyH.cons (o := { dst := some 28, op := Op.call { callee := Callee.value (Operand.func 11), args := #[Operand.tmp 23, Operand.tmp 26, Operand.tmp 27], argTypes := #[36, 32, 3] }, type := 38, pos := "law.go:54", after := _, guard := none }) rfl (fun K hK => ?_) AllReadyH.nil
      rw [if_pos (by rfl)]
      go_simp
      refine (HEN.out _ hBW).mono ?_
      rintro r wq ⟨rfl, hb⟩
      have hbs := hb.size
      try simp only [World.size_alloc, World.size_setCell, World.size_drew, size_setRow] at hbs
      go_wp2_with fail
      refine hK.out _ _ ⟨bk_, bk_, sl_, bl_, Nat.le_trans (sz_) hb.size⟩ (fun hH2 => ?_)
      clear hH
      have hH := hH2
      obtain ⟨hBW, hA, hsf, hfar, hsz⟩ := hH2
      clear hK K
      try simp only [Act.put, List.setIfInBounds_toArray, List.set_cons_zero, List.set_cons_succ]
      refine wpAnyH_take (i := 7) (oi := { dst := some 21, op := Op.move (Operand.tmp 28), type := 38, pos := "law.go:54", after := _, guard := none }) (v := _) rfl (by kernel_rfl) (by kernel_rfl) (by kernel_rfl) (fun _ _ _ h => h) (.inl ⟨by rfl, fun w hS => by (go_simp; try rfl)⟩) hH ?_
      try simp only [Act.put, List.setIfInBounds_toArray, List.set_cons_zero, List.set_cons_succ]
      refine wpAnyH_take (i := 8) (oi := { dst := some 29, op := Op.extract (Operand.tmp 21) 0, type := 9, pos := "law.go:54", after := _, guard := none }) (v := _) rfl (by kernel_rfl) (by kernel_rfl) (by kernel_rfl) (fun _ _ _ h => h) (.inl ⟨by rfl, fun w hS => by (go_simp; try rfl)⟩) hH ?_
      try simp only [Act.put, List.setIfInBounds_toArray, List.set_cons_zero, List.set_cons_succ]
      refine wpAnyH_take (i := 9) (oi := { dst := some 30, op := Op.extract (Operand.tmp 21) 1, type := 36, pos := "law.go:54", after := _, guard := none }) (v := _) rfl (by kernel_rfl) (by kernel_rfl) (by kernel_rfl) (fun _ _ _ h => h) (.inl ⟨by rfl, fun w hS => by (go_simp; try rfl)⟩) hH ?_
      try simp only [Act.put, List.setIfInBounds_toArray, List.set_cons_zero, List.set_cons_succ]
      refine wpAnyH_take (i := 10) (oi := { dst := some 31, op := Op.extract (Operand.tmp 21) 2, type := 37, pos := "law.go:54", after := _, guard := none }) (v := _) rfl (by kernel_rfl) (by kernel_rfl) (by kernel_rfl) (fun _ _ _ h => h) (.inl ⟨by rfl, fun w hS => by (go_simp; try rfl)⟩) hH ?_
      try simp only [Act.put, List.setIfInBounds_toArray, List.set_cons_zero, List.set_cons_succ]
      refine wpAnyH_take (i := 12) (oi := { dst := some 9, op := Op.assign (Operand.tmp 29), type := 9, pos := "law.go:54", after := _, guard := none }) (v := _) rfl (by kernel_rfl) (by kernel_rfl) (by kernel_rfl) (fun _ _ _ h => h) (.inl ⟨by rfl, fun w hS => by (go_simp; try rfl)⟩) hH ?_
      try simp only [Act.put, List.setIfInBounds_toArray, List.set_cons_zero, List.set_cons_succ]
      refine wpAnyH_ready (rs := [13]) (by kernel_rfl) (by simp) ?_
      refine AllReadyH.cons (o := { dst := none, op := Op.store 36 (Operand.tmp 10) (Operand.tmp 30), type := 0, pos := "law.go:54", after := _, guard := none }) rfl (fun K hK => ?_) AllReadyH.nil
      rw [if_pos (by rfl)]
      refine wp_st 36 rfl w_EEnc rfl rfl bk_ hz55 LX.sz one_ ?_
      refine hK.out _ _ ⟨bk_, bk_, sl_, bl_, sz_⟩ (fun hH2 => ?_)
      clear hH
      have hH := hH2
      obtain ⟨hBW, hA, hsf, hfar, hsz⟩ := hH2
      clear hK K
      try simp only [Act.put]
      refine wpAnyH_take (i := 14) (oi := { dst := some 11, op := Op.assign (Operand.tmp 31), type := 37, pos := "law.go:54", after := _, guard := none }) (v := _) rfl (by kernel_rfl) (by kernel_rfl) (by kernel_rfl) (fun _ _ _ h => h) (.inl ⟨by rfl, fun w hS => by (go_simp; try rfl)⟩) hH ?_
      try simp only [Act.put, List.setIfInBounds_toArray, List.set_cons_zero, List.set_cons_succ]
      refine wpAnyH_done (by kernel_rfl) ?_ _
      go_wp2_with fail
      go_meet
      case rel => exact ⟨_, rfl, rfl, rfl, by exact bk_, hA, hfar, hsz⟩
    refine AllReadyH.cons (o := { dst := some 10, op := Op.alloc 36, type := 0, pos := "law.go:54", after := _, guard := none }) rfl (fun K hK => ?_) AllReadyH.nil
    rw [if_pos (by rfl)]
    go_simp
    refine hK.out _ _ ⟨bk_, bk_, sl_, bl_, sz_⟩ (fun hH2 => ?_)
    clear hH
    have hH := hH2
    obtain ⟨hBW, hA, hsf, hfar, hsz⟩ := hH2
    clear hK K
    try simp only [Act.put, List.setIfInBounds_toArray, List.set_cons_zero, List.set_cons_succ]
    refine wpAnyH_ready (rs := [1]) (by kernel_rfl) (by simp) ?_
    refine AllReadyH.cons (o := { dst := some 23, op := Op.call { callee := Callee.value (Operand.func 12), args := #[Operand.tmp 22], argTypes := #[27] }, type := 36, pos := "law.go:54", after := _, guard := none }) rfl (fun K hK => ?_) AllReadyH.nil
    rw [if_pos (by rfl)]
    go_simp
    refine (HOF.out _).mono ?_
    rintro r wq ⟨rfl, hb⟩
    have hbs := hb.size
    try simp only [World.size_alloc, World.size_setCell, World.size_drew, size_setRow] at hbs
    go_wp2_with fail
    refine hK.out _ _ ⟨bk_, bk_, sl_, bl_, Nat.le_trans (sz_) hb.size⟩ (fun hH2 => ?_)
    clear hH
    have hH := hH2
    obtain ⟨hBW, hA, hsf, hfar, hsz⟩ := hH2
    clear hK K
    try simp only [Act.put, List.setIfInBounds_toArray, List.set_cons_zero, List.set_cons_succ]
    refine wpAnyH_ready (rs := [6]) (by kernel_rfl) (by simp) ?_
    refine AllReadyH.cons (o := { dst := some 28, op := Op.call { callee := Callee.value (Operand.func 11), args := #[Operand.tmp 23, Operand.tmp 26, Operand.tmp 27], argTypes := #[36, 32, 3] }, type := 38, pos := "law.go:54", after := _, guard := none }) rfl (fun K hK => ?_) AllReadyH.nil
    rw [if_pos (by rfl)]
    go_simp
    refine (HEN.out _ hBW).mono ?_
    rintro r wq ⟨rfl, hb⟩
    have hbs := hb.size
    try simp only [World.size_alloc, World.size_setCell, World.size_drew, size_setRow] at hbs
    go_wp2_with fail
    refine hK.out _ _ ⟨bk_, bk_, sl_, bl_, Nat.le_trans (sz_) hb.size⟩ (fun hH2 => ?_)
    clear hH
    have hH := hH2
    obtain ⟨hBW, hA, hsf, hfar, hsz⟩ := hH2
    clear hK K
    try simp only [Act.put, List.setIfInBounds_toArray, List.set_cons_zero, List.set_cons_succ]
    refine wpAnyH_take (i := 7) (oi := { dst := some 21, op := Op.move (Operand.tmp 28), type := 38, pos := "law.go:54", after := _, guard := none }) (v := _) rfl (by kernel_rfl) (by kernel_rfl) (by kernel_rfl) (fun _ _ _ h => h) (.inl ⟨by rfl, fun w hS => by (go_simp; try rfl)⟩) hH ?_
    try simp only [Act.put, List.setIfInBounds_toArray, List.set_cons_zero, List.set_cons_succ]
    refine wpAnyH_take (i := 8) (oi := { dst := some 29, op := Op.extract (Operand.tmp 21) 0, type := 9, pos := "law.go:54", after := _, guard := none }) (v := _) rfl (by kernel_rfl) (by kernel_rfl) (by kernel_rfl) (fun _ _ _ h => h) (.inl ⟨by rfl, fun w hS => by (go_simp; try rfl)⟩) hH ?_
    try simp only [Act.put, List.setIfInBounds_toArray, List.set_cons_zero, List.set_cons_succ]
    refine wpAnyH_take (i := 9) (oi := { dst := some 30, op := Op.extract (Operand.tmp 21) 1, type := 36, pos := "law.go:54", after := _, guard := none }) (v := _) rfl (by kernel_rfl) (by kernel_rfl) (by kernel_rfl) (fun _ _ _ h => h) (.inl ⟨by rfl, fun w hS => by (go_simp; try rfl)⟩) hH ?_
    try simp only [Act.put, List.setIfInBounds_toArray, List.set_cons_zero, List.set_cons_succ]
    refine wpAnyH_take (i := 10) (oi := { dst := some 31, op := Op.extract (Operand.tmp 21) 2, type := 37, pos := "law.go:54", after := _, guard := none }) (v := _) rfl (by kernel_rfl) (by kernel_rfl) (by kernel_rfl) (fun _ _ _ h => h) (.inl ⟨by rfl, fun w hS => by (go_simp; try rfl)⟩) hH ?_
    try simp only [Act.put, List.setIfInBounds_toArray, List.set_cons_zero, List.set_cons_succ]
    refine wpAnyH_take (i := 12) (oi := { dst := some 9, op := Op.assign (Operand.tmp 29), type := 9, pos := "law.go:54", after := _, guard := none }) (v := _) rfl (by kernel_rfl) (by kernel_rfl) (by kernel_rfl) (fun _ _ _ h => h) (.inl ⟨by rfl, fun w hS => by (go_simp; try rfl)⟩) hH ?_
    try simp only [Act.put, List.setIfInBounds_toArray, List.set_cons_zero, List.set_cons_succ]
    refine wpAnyH_ready (rs := [13]) (by kernel_rfl) (by simp) ?_
    refine AllReadyH.cons (o := { dst := none, op := Op.store 36 (Operand.tmp 10) (Operand.tmp 30), type := 0, pos := "law.go:54", after := _, guard := none }) rfl (fun K hK => ?_) AllReadyH.nil
    rw [if_pos (by rfl)]
    refine wp_st 36 rfl w_EEnc rfl rfl bk_ hz55 LX.sz one_ ?_
    refine hK.out _ _ ⟨bk_, bk_, sl_, bl_, sz_⟩ (fun hH2 => ?_)
    clear hH
    have hH := hH2
    obtain ⟨hBW, hA, hsf, hfar, hsz⟩ := hH2
    clear hK K
    try simp only [Act.put]
    refine wpAnyH_take (i := 14) (oi := { dst := some 11, op := Op.assign (Operand.tmp 31), type := 37, pos := "law.go:54", after := _, guard := none }) (v := _) rfl (by kernel_rfl) (by kernel_rfl) (by kernel_rfl) (fun _ _ _ h => h) (.inl ⟨by rfl, fun w hS => by (go_simp; try rfl)⟩) hH ?_
    try simp only [Act.put, List.setIfInBounds_toArray, List.set_cons_zero, List.set_cons_succ]
    refine wpAnyH_done (by kernel_rfl) ?_ _
    go_wp2_with fail
    go_meet
    case rel => exact ⟨_, rfl, rfl, rfl, by exact bk_, hA, hfar, hsz⟩
  case rest =>
    clear hA hBW hsf hfar hsz
    obtain ⟨g, rfl, rfl, rfl, hX, hA, hfar, hsz⟩ := hcut
    rcases HCA.out with ⟨rfl, hsz2, rfl, hrx⟩ | ⟨rfl, rfl, rfl, rfl⟩
    · have HRX := Lib.hid hrx
      clear hrx
      go_wp2_with (first | (refine ld 36 rfl (by rfl) w_EEnc rfl bk_ lz_ ?_) | (refine ld 27 rfl (by rfl) w_REnc rfl bk_ lz_ ?_))
      refine (HRX.out _).mono ?_
      rintro e w5 ⟨rfl, hb5⟩
      replace hX := hX.newB hb5
      replace hA := hA.newB hb5
      replace hfar := hfar.trans (hb5.mono (by omega))
      replace hsz := Nat.le_trans hsz hb5.size
      go_wp2_with (first | (refine ld 36 rfl (by rfl) w_EEnc rfl bk_ lz_ ?_) | (refine ld 27 rfl (by rfl) w_REnc rfl bk_ lz_ ?_))
      refine (HOF.out _).mono ?_
      rintro e w6 ⟨rfl, hb6⟩
      replace hX := hX.newB hb6
      replace hA := hA.newB hb6
      replace hfar := hfar.trans (hb6.mono (by omega))
      replace hsz := Nat.le_trans hsz hb6.size
      go_wp2_with fail
      refine (HER.out _).mono ?_
      rintro e w7 ⟨rfl, hb7⟩
      replace hX := hX.newB hb7
      replace hA := hA.newB hb7
      replace hfar := hfar.trans (hb7.mono (by omega))
      replace hsz := Nat.le_trans hsz hb7.size
      go_wp2_with fail
      go_ret
      exact ⟨rfl, (by (try rw [hB]); exact bl_)⟩
    · go_wp2_with (first | (refine ld 36 rfl (by rfl) w_EEnc rfl bk_ lz_ ?_) | (refine ld 27 rfl (by rfl) w_REnc rfl bk_ lz_ ?_))
      refine (HOF.out _).mono ?_
      rintro e w6 ⟨rfl, hb6⟩
      replace hX := hX.newB hb6
      replace hA := hA.newB hb6
      replace hfar := hfar.trans (hb6.mono (by omega))
      replace hsz := Nat.le_trans hsz hb6.size
      go_wp2_with fail
      refine (HER.out _).mono ?_
      rintro e w7 ⟨rfl, hb7⟩
      replace hX := hX.newB hb7
      replace hA := hA.newB hb7
      replace hfar := hfar.trans (hb7.mono (by omega))
      replace hsz := Nat.le_trans hsz hb7.size
      go_wp2_with (first | (refine ld 36 rfl (by rfl) w_EEnc rfl bk_ lz_ ?_) | (refine eqw 36 rfl (by rfl) rfl rfl eg_EEnc (eq_eenc LX) ?_) | (refine bd 36 rfl (by rfl) rfl eenc_zs ?_))
      go_ret
      exact ⟨rfl, (by (try rw [hB]); exact bl_)⟩
end Go.Proofs.YthpjkgpngbdhbaaGreatDoor
