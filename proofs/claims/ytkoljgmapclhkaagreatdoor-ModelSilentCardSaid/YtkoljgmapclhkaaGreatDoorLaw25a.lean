/- The walks of spoollaw25.awake and ModelRefuses. -/
import Derived.Test.YtkoljgmapclhkaaGreatDoorModK
set_option linter.unusedSimpArgs false
set_option linter.unusedVariables false
namespace Go.Proofs.YtkoljgmapclhkaaGreatDoor
open Go.RowKit

set_option maxRecDepth 100000 in
theorem pol_built (a b c : Int) : Tryz.prog.built 41 [(0, .int .i64 a), (1, .int .i64 b), (2, .int .i64 c)] = some #[.int .i64 a, .int .i64 b, .int .i64 c] := by rfl
set_option maxRecDepth 100000 in
theorem mact_0 : Tryz.prog.built 50 [] = some (actV ⟨0, [], 0⟩ none 0) := by rfl
set_option maxRecDepth 100000 in
theorem mact_f (d : Int) (p : Option Addr) (n c : Nat) : Tryz.prog.built 50 [(0, .int .i64 d), (1, .slice p n c)] = some #[.int .i64 d, .slice p n c, .int .i64 0] := by rfl
set_option maxRecDepth 100000 in
theorem mact_d (d : Int) : Tryz.prog.built 50 [(0, .int .i64 d)] = some (actV ⟨d, [], 0⟩ none 0) := by rfl
theorem info_int1 : (Tryz.prog.info? 3).map (fun i => (i.zero, i.size, i.bytes)) = some (some (.int .i64 0), 1, 8) := by kernel_rfl
/-- Sixteen noughts made. -/
theorem mki {ops : Array Oper} {rest : List Oper} {op : Oper} {a : Act} {w : World} {Q : Exit → Act → World → Prop} {x y : Operand}
    (ho : op.op = .makeSlice 48 x y) (hwd : Region.wanted op (yielded ops a.tmps) = true) (hx : a.eval x = .int .i64 16) (hy : a.eval y = .int .i64 16)
    (h : wpList Tryz.prog ops Q rest (a.put op.dst (.slice (some ⟨w.heap.size, 0, none⟩) 16 16)) (w.alloc (.cells (arrV (zs 16)) 3))) : wpList Tryz.prog ops Q (op :: rest) a w :=
  wpList_step fun K hK => by
    rw [if_pos hwd]
    obtain ⟨i0, hi, hz0, hz1, hz2⟩ := info_parts info_int1
    have hr := run_makeSlice (P := Tryz.prog) w 48 3 i0 (.int .i64 0) Tryz.underlying48 hi hz0 .i64 .i64 16 16 (by omega) (Int.le_refl _) (by rw [hz1]; omega) (by rw [hz2]; omega) (by omega)
    rw [hz1] at hr
    have e : madeCells (Value.int .i64 0).cells (((16 : Int).toNat) * 1) = arrV (zs 16) := by kernel_rfl
    rw [e] at hr
    unfold Oper.wp execOp
    simp only [ho, hx, hy, Sem.run_bind, hr, Result.andThen_ok]
    exact hK _ _ h
/-- What an act without sounds leaves. -/
def RetX (w : World) (g : Nat) (v : Value) (N : Mst) (E : Int) (e : Ending) (w' : World) : Prop :=
  ∃ (v' : Value) (q : Option Addr) (cp : Nat), e = .returned (.agg #[.int .i64 E, .slice q 0 cp]) ∧ MB w' g N v' ∧ Trn g v v' w w'
theorem Do_err {w : World} {g : Nat} {M : Mst} {v : Value} (h : MB w g M v) {k n : Nat} (hO : M.Ok k n) (hk : k ≤ 900000) (hn : n ≤ 898) (hW : BandsW w) {a : Mact} {p : Option Addr} {cap : Nat} (hF : FrIn w g v p cap a.frame) (hl : a.frame.length ≤ 1000000) (hb : -9223372036854775808 ≤ a.what ∧ a.what ≤ 9223372036854775807) {N : Mst} {E : Int} (hd : doM M a = (N, E, [])) :
    Calls Tryz.prog 15 #[.pointer (some ⟨g, 0, none⟩), .agg (actV a p cap)] w (RetX w g v N E) := by
  have := Do_any h hO hk hn hW hF hl hb
  rw [hd] at this
  refine this.mono ?_
  rintro e w' ⟨v', q, n', cp, lo, hi, rfl, rfl, _, _, hM, hT⟩
  exact ⟨v', q, cp, rfl, hM, hT⟩
/-- Frames of silence in new memory. -/
theorem frin_new {W : World} {G D : Nat} {V : Value} (h : Blk W D (arrV (zs 16)) 3) (hG : D ≠ G) (hV : V.ownBlock ≠ some D) : FrIn W G V (some ⟨D, 0, none⟩) 16 z16 := by
  refine ⟨Nat.le_refl _, by omega, fun i x hx => ⟨_, rfl, ⟨hG, hV⟩, h.lt, ?_⟩⟩
  rw [Addr.add_mid, Nat.zero_add, h.cell]
  show (intsV (zs 16)).toArray[i]? = _
  rw [List.getElem?_toArray, List.getElem?_map]
  show (z16[i]?).map _ = _
  rw [hx]; rfl
set_option maxRecDepth 100000 in
set_option maxHeartbeats 8000000 in
theorem awake25_any (w : World) (hW : BandsW w) : Calls Tryz.prog 13 #[] w fun r w' => r = .returned (.bool true) ∧ Below w.heap.size w w' := by
  have hBW : Blk w 0 bandC 164 := hW
  have hB0 := hW.lt
  have hnew := fun w => New_right 32 10 1 9 (by decide) (by decide) w
  obtain ⟨M0, hM0⟩ : ∃ M, newM 32 10 1 9 = M := ⟨_, rfl⟩
  have hO0 : M0.Ok 0 0 := hM0 ▸ newM_ok (by omega) (by omega) (by omega) (by omega)
  have hs0 : startM M0 = (begM M0, 0) := by rw [← hM0]; exact start_new _ _ _ _
  obtain ⟨M1, hM1⟩ : ∃ M, begM M0 = M := ⟨_, rfl⟩
  have hO1 : M1.Ok 0 0 := hM1 ▸ hO0.beg
  have ha := awake_mod
  rw [hM0] at ha
  rw [hM1] at ha hs0
  obtain ⟨⟨M2, E2⟩, hM2⟩ : ∃ M, feedM M1 z16 = M := ⟨_, rfl⟩
  rw [hM2] at ha
  obtain ⟨rfl, hl2, hp2, hn2⟩ := ha
  dsimp only at hl2 hp2 hn2
  have hO2 : M2.Ok 1 2 := by have := hO1.feed z16; rw [hM2] at this; exact this
  have hd0 : doM M0 ⟨0, [], 0⟩ = (M1, 0, []) := by unfold doM; rw [if_pos rfl, hs0]
  have hd1 : doM M1 ⟨1, z16, 0⟩ = (M2, 0, []) := by unfold doM; rw [if_neg (by decide), if_pos rfl, hM2]
  have hD0 : ∀ w g v, MB w g M0 v → BandsW w → Calls Tryz.prog 15 #[.pointer (some ⟨g, 0, none⟩), .agg (actV ⟨0, [], 0⟩ none 0)] w (RetX w g v M1 0) := fun w g v h hW => Do_err h hO0 (by omega) (by omega) hW (FrIn.nil _ _ _ _ (by omega)) (by show 0 ≤ 1000000; omega) (by show (-9223372036854775808 : Int) ≤ 0 ∧ (0 : Int) ≤ _; omega) hd0
  have hD1 : ∀ w g v D, MB w g M1 v → BandsW w → FrIn w g v (some ⟨D, 0, none⟩) 16 z16 → Calls Tryz.prog 15 #[.pointer (some ⟨g, 0, none⟩), .agg #[.int .i64 1, .slice (some ⟨D, 0, none⟩) 16 16, .int .i64 0]] w (RetX w g v M2 0) := fun w g v D h hW hF => Do_err (a := ⟨1, z16, 0⟩) (p := some ⟨D, 0, none⟩) (cap := 16) h hO1 (by omega) (by omega) hW hF (by show 16 ≤ 1000000; omega) (by show (-9223372036854775808 : Int) ≤ 1 ∧ (1 : Int) ≤ _; omega) hd1
  have hen : ∀ w g v, MB w g M2 v → Calls Tryz.prog 22 #[.pointer (some ⟨g, 0, none⟩)] w (RetEn w M2.ents 1) := fun w g v h => by have := MEntries_any h (by omega); rw [hl2] at this; exact this
  have hle : ∀ w g v, MB w g M2 v → Calls Tryz.prog 17 #[.pointer (some ⟨g, 0, none⟩)] w fun r w' => r = .returned (.int .i64 30) ∧ Below w.heap.size w w' := fun w g v h => by have := Left_any h hO2; rw [hp2, hn2] at this; exact this
  rw [hM0] at hnew
  have HNEW := Lib.hid hnew
  have HD0 := Lib.hid hD0
  have HD1 := Lib.hid hD1
  have HEN := Lib.hid hen
  have HLE := Lib.hid hle
  clear hnew hd0 hd1 hD0 hD1 hen hle hs0 hl2 hp2 hn2 hO2 hM0 hM1 hM2 hO0 hO1 hW
  obtain ⟨B, hB⟩ : ∃ B, w.heap.size = B := ⟨_, rfl⟩
  rw [hB] at hB0
  have hfar := Below.refl B w
  have hsz : B ≤ w.heap.size := by omega
  go_enter Tryz.func13, Tryz.ntmps13
  go_wp2_with (refine bd 41 rfl (by rfl) rfl (pol_built _ _ _) ?_)
  refine (HNEW.out _).mono ?_
  rintro e w1 ⟨g, rfl, hg, h, hb1⟩
  replace hBW := hBW.newB hb1
  replace hfar := hfar.trans (hb1.mono (by omega))
  replace hsz := Nat.le_trans hsz hb1.size
  have hgB : B ≤ g := by omega
  go_wp2_with (refine bd 50 rfl (by rfl) rfl mact_0 ?_)
  refine (HD0.out _ _ _ h hBW).mono ?_
  rintro e w2 ⟨v2, q, cp, rfl, h2, ht2⟩
  have hgv := mb_bands h hBW
  have hBW2 := ht2.blk hBW (by omega) hgv.2
  have hfar2 := hfar.trans (ht2.below h hgB)
  have hgC := h2.lt
  obtain ⟨C, hC⟩ : ∃ C, w2.heap.size = C := ⟨_, rfl⟩
  rw [hC] at hgC
  have HVB : VB v2 C := h2.vb hC
  have hsz2 : C ≤ w2.heap.size := by omega
  clear h hBW hfar hsz ht2
  have hBW := hBW2
  have h := h2
  have hfar := hfar2
  have hsz := hsz2
  clear hBW2 h2 hfar2 hsz2
  go_upto_region 3 with (refine st 46 rfl (by rfl) w_Reply rfl rfl bk_ zz_ zz_ one_ ?_)
  refine wp_gen (fun W => Blk W (0) (bandC) 164 ∧ MB W (g) (M1) (v2) ∧ Blk W (C) (#[.int .i64 0, .slice q 0 cp]) 46 ∧ Below (B) w W ∧ C + 1 ≤ W.heap.size) ⟨bk_, mb_, bk_, bl_, sz_⟩ ?_
  clear hBW h hfar hsz
  rintro w3 ⟨hBW, h, hP, hfar, hsz⟩
  obtain ⟨D, hD⟩ : ∃ D, w3.heap.size = D := ⟨_, rfl⟩
  have hCD : C + 1 ≤ D := by omega
  have hvC : VB v2 D := h.vb hD
  have hN : Blk (w3.alloc (.cells (arrV (zs 16)) 3)) D (arrV (zs 16)) 3 := Blk.newAt hD.symm
  have hFR := frin_new (V := v2) (G := g) hN (by omega) (fun e => by have := hvC.out _ e; omega)
  have HFR := Lib.hid hFR
  clear hFR hN
  go_wp2_with (first | (refine mki rfl (by rfl) rfl rfl ?_) | (refine bd 50 rfl (by rfl) rfl (mact_f _ _ _ _) ?_))
  refine (HD1.out _ _ _ _ (h.alloc _) (hBW.alloc _) HFR.out).mono ?_
  rintro e w4 ⟨v4, q4, cp4, rfl, h4, ht4⟩
  have hgv4 := mb_bands h hBW
  have hBW4 := ht4.blk (hBW.alloc _) (by omega) hgv4.2
  have hP4 := ht4.blk (hP.alloc _) (by omega) (fun e => by have := HVB.out _ e; omega)
  have hfar4 : Below B w w4 := (hfar.alloc (by omega) _).trans (ht4.below (h.alloc _) hgB)
  have hs4 := ht4.size
  rw [World.size_alloc] at hs4
  obtain ⟨F, hF⟩ : ∃ F, w4.heap.size = F := ⟨_, rfl⟩
  have HVB4 : VB v4 F := h4.vb hF
  have hDF : D + 1 ≤ F := by omega
  have hsz4 : F ≤ w4.heap.size := by omega
  clear h hBW hfar hsz ht4 hP HVB hvC HFR HD0 HD1 HNEW
  have hBW := hBW4
  have h := h4
  have hfar := hfar4
  have hsz := hsz4
  have hP := hP4
  clear hBW4 h4 hfar4 hsz4 hP4
  go_upto_region 4 with (refine st 46 rfl (by rfl) w_Reply rfl rfl bk_ zz_ zz_ one_ ?_)
  refine wp_gen (fun W => Blk W (0) (bandC) 164 ∧ MB W (g) (M2) (v4) ∧ Blk W (C) (#[.int .i64 0, .slice q 0 cp]) 46 ∧ Blk W (F) (#[.int .i64 0, .slice q4 0 cp4]) 46 ∧ Below (B) w W ∧ F + 1 ≤ W.heap.size) ⟨bk_, mb_, bk_, bk_, bl_, sz_⟩ ?_
  clear hBW h hP hfar hsz
  rintro w5 ⟨hBW, h, hP, hQ, hfar, hsz⟩
  have p0 := hP.cell 0
  have q0 := hQ.cell 0
  simp only [List.getElem?_toArray, List.getElem?_cons_zero] at p0 q0
  go_wp2_with fail
  refine (HEN.out _ _ _ h).mono ?_
  rintro e w6 ⟨p6, c6, lo6, hi6, rfl, hs6, hlo6, hb6⟩
  clear hs6 hlo6 p0 q0
  replace hBW := hBW.newB hb6
  replace h := h.newB hb6
  replace hP := hP.newB hb6
  replace hQ := hQ.newB hb6
  replace hfar := hfar.trans (hb6.mono (by omega))
  replace hsz := Nat.le_trans hsz hb6.size
  go_wp2_with fail
  refine (HLE.out _ _ _ h).mono ?_
  rintro e w7 ⟨rfl, hb7⟩
  replace hBW := hBW.newB hb7
  replace h := h.newB hb7
  replace hP := hP.newB hb7
  replace hQ := hQ.newB hb7
  replace hfar := hfar.trans (hb7.mono (by omega))
  replace hsz := Nat.le_trans hsz hb7.size
  go_wp2_with fail
  go_ret
  exact ⟨rfl, (by (try rw [hB]); exact bl_)⟩
end Go.Proofs.YtkoljgmapclhkaaGreatDoor
