/- The walks of the document's Decode (spoolref13) and of spoollaw12.Plain; the document's states compared. -/
import Derived.Test.YtmfihaaiddolmaaGreatDoorRef13b
import Derived.Test.YtmfihaaiddolmaaGreatDoorLaw13b
import Derived.Test.YtmfihaaiddolmaaGreatDoorLot8
set_option linter.unusedSimpArgs false
set_option linter.unusedVariables false
namespace Go.Proofs.YtmfihaaiddolmaaGreatDoor
open Go.RowKit

theorem ok_of_levP {ls : List Int} (hl : ls.length = 4) (h : ls.all levP = true) : LevelsOk ls :=
  ⟨hl, fun x hx => by have := List.all_eq_true.1 h x hx; simp [levP] at this; omega⟩
theorem dec_lens (L : List Int) (s : ByteArray) : (decO L s).length = 16 ∧ (decSt L s).length = 38 := by
  by_cases h : decE L s = 0
  · have hE : decE L s = if 10 ≤ s.size ∧ s.size ≤ 32 then (if rightS L = true then 0 else 1) else 10 := rfl
    have hsz : 10 ≤ s.size ∧ s.size ≤ 32 := by
      by_cases h2 : 10 ≤ s.size ∧ s.size ≤ 32
      · exact h2
      · rw [hE, if_neg h2] at h; exact absurd h (by decide)
    have hr : rightS L = true := by
      cases hr : rightS L with
      | true => rfl
      | false => rw [hE, if_pos hsz, hr] at h; exact absurd h (by decide)
    obtain ⟨_, a, _, _, _, b⟩ := dec_good L s hsz hr
    exact ⟨a, b⟩
  · obtain ⟨a, b⟩ := dec_bad L s h
    rw [a, b]; simp
theorem levL_len {L : List Int} (h : L.length = 38) : (levL L).length = 4 := by simp [levL, h]
set_option maxRecDepth 100000 in
set_option maxHeartbeats 1600000 in
theorem RDecode_any (L : List Int) (hL : L.length = 38) (hr : rightS L = true) (s : ByteArray) (hs0 : 10 ≤ s.size) (hs1 : s.size ≤ 32) (w : World) :
    Calls Tryz.prog 12 #[.agg (arrV L), .string s] w fun e w' => e = .returned (.tuple #[.agg (arrV (decO L s)), .agg (arrV (decSt L s))]) ∧ Below w.heap.size w w' := by
  have hE : decE L s = 0 := by unfold decE; rw [if_pos ⟨hs0, hs1⟩, hr]; rfl
  have e1 : decO L s = soundL (nextO L (wavS s (levL L))) := by unfold decO; rw [hE]; rfl
  have e2 : decSt L s = nextSt L (levsS s (levL L)) (wavS s (levL L)) 0 := by unfold decSt; rw [hE]; rfl
  obtain ⟨_, hO16, _, _, _, hS38⟩ := dec_good L s ⟨hs0, hs1⟩ hr
  have hpa := fun w => RParts_any (levL L) (ok_of_levP (levL_len hL) (right_levs hr)) s hs0 hs1 w
  have hLO := levsS_ok s (levL L)
  have hWO := wavS_ok s (levL L)
  have hne := fun w => RNext_any L _ _ 0 hL hr hLO.1 hWO.1 hWO.2 w
  simp only [← e1, ← e2] at hne
  obtain ⟨O, hO⟩ : ∃ l, decO L s = l := ⟨_, rfl⟩
  obtain ⟨F, hF⟩ : ∃ l, decSt L s = l := ⟨_, rfl⟩
  obtain ⟨ls, hls⟩ : ∃ l, levsS s (levL L) = l := ⟨_, rfl⟩
  obtain ⟨wv, hwv⟩ : ∃ l, wavS s (levL L) = l := ⟨_, rfl⟩
  rw [hO] at hO16
  rw [hF] at hS38
  rw [hls] at hLO
  rw [hwv] at hWO
  simp only [hO, hF, hls, hwv] at hne hpa ⊢
  have LL := Len.mk hL
  have LO := Len.mk hO16
  have LF := Len.mk hS38
  have LLS := Len.mk hLO.1
  have LWV := Len.mk hWO.1
  have HPA := Lib.hid hpa
  have HNE := Lib.hid hne
  clear hpa hne hE e1 e2 hLO hWO hO hF hls hwv hO16 hS38
  obtain ⟨B, hB⟩ : ∃ B, w.heap.size = B := ⟨_, rfl⟩
  have hfar := Below.refl B w
  have hsz : B ≤ w.heap.size := by omega
  go_enter Tryz.func12, Tryz.ntmps12
  go_upto_region 1 with (fail)
  refine wp_gen (fun W => Blk W (B) (arrV L) 25 ∧ Blk W (B + 1) (arrV (zs 16)) 22 ∧ Blk W (B + 1 + 1) (arrV (zs 38)) 25 ∧ Below (B) w W ∧ B + 3 ≤ W.heap.size) ⟨bk_, bk_, bk_, bl_, sz_⟩ ?_
  clear hfar hsz
  rintro w1 ⟨hA, hR1, hR2, hfar, hsz⟩
  go_wp2_with (refine ldp 23 rfl (by rfl) w_Four rfl hA LL (by omega) ?_)
  refine (HPA.out _).mono ?_
  rintro e w2 ⟨rfl, hb2⟩
  replace hA := hA.newB hb2
  replace hR1 := hR1.newB hb2
  replace hR2 := hR2.newB hb2
  replace hfar := hfar.trans (hb2.mono (by omega))
  replace hsz := Nat.le_trans hsz hb2.size
  obtain ⟨g, hs_g⟩ : ∃ g, w2.heap.size = g := ⟨_, rfl⟩
  have hk_g : B + 3 ≤ g := by omega
  go_upto_region 2 with (first | (refine st 23 rfl (by rfl) w_Four rfl rfl bk_ lz_ lz_ one_ ?_) | (refine st 22 rfl (by rfl) w_Sixteen rfl rfl bk_ lz_ lz_ one_ ?_))
  refine wp_gen (fun W => Blk W (B) (arrV L) 25 ∧ Blk W (B + 1) (arrV (zs 16)) 22 ∧ Blk W (B + 1 + 1) (arrV (zs 38)) 25 ∧ Blk W (g) (arrV ls) 23 ∧ Blk W (g + 1) (arrV wv) 22 ∧ Below (B) w W ∧ g + 2 ≤ W.heap.size) ⟨bk_, bk_, bk_, bk_, bk_, bl_, sz_⟩ ?_
  clear hA hR1 hR2 hfar hsz
  rintro w3 ⟨hA, hR1, hR2, hLs, hWv, hfar, hsz⟩
  go_wp2_with (first | (refine ld 25 rfl (by rfl) w_RState rfl hA LL.sz ?_) | (refine ld 23 rfl (by rfl) w_Four rfl hLs LLS.sz ?_) | (refine ld 22 rfl (by rfl) w_Sixteen rfl hWv LWV.sz ?_))
  refine (HNE.out _).mono ?_
  rintro e w4 ⟨rfl, hb4⟩
  replace hA := hA.newB hb4
  replace hR1 := hR1.newB hb4
  replace hR2 := hR2.newB hb4
  replace hLs := hLs.newB hb4
  replace hWv := hWv.newB hb4
  replace hfar := hfar.trans (hb4.mono (by omega))
  replace hsz := Nat.le_trans hsz hb4.size
  go_wp2_with (first | (refine st 22 rfl (by rfl) w_Sixteen rfl rfl bk_ lz_ lz_ one_ ?_) | (refine st 25 rfl (by rfl) w_RState rfl rfl bk_ lz_ lz_ one_ ?_))
  exact bodyPost_ret (v := .tuple #[.agg (arrV O), .agg (arrV F)]) (res_cc Tryz.results12 rfl w_Sixteen (by exact bk_) LO.sz rfl w_RState (by exact bk_) LF.sz) rfl ⟨rfl, (by (try rw [hB]); exact bl_)⟩
set_option maxRecDepth 100000 in
theorem rstate_built5 (L : List Int) (hL : L.length = 38) : Tryz.prog.built 25 [(0, .agg (arrV (memL L))), (1, .int .i64 (lastL L)), (2, .agg (arrV (levL L))), (3, .agg (arrV (wavL L))), (4, .int .i64 (lostL L))] = some (arrV L) := by
  obtain ⟨it, hi, z, hz, hzc, fs, hu, hp⟩ := rstate_places
  have m0 : (memL L).length = 16 := by simp [memL, hL]
  have m2 : (levL L).length = 4 := by simp [levL, hL]
  have m3 : (wavL L).length = 16 := by simp [wavL, hL]
  have l0 : (putL (List.replicate 38 0) 0 (memL L)).length = 38 := by rw [putL_len (by simp [m0])]; simp
  have l1 : (putL (putL (List.replicate 38 0) 0 (memL L)) 16 [lastL L]).length = 38 := by rw [putL_len (by rw [l0]; simp), l0]
  have l2 : (putL (putL (putL (List.replicate 38 0) 0 (memL L)) 16 [lastL L]) 17 (levL L)).length = 38 := by rw [putL_len (by rw [l1, m2]; omega), l1]
  have l3 : (putL (putL (putL (putL (List.replicate 38 0) 0 (memL L)) 16 [lastL L]) 17 (levL L)) 21 (wavL L)).length = 38 := by rw [putL_len (by rw [l2, m3]; omega), l2]
  rw [built_struct hi hu hz hp, hzc, fill_ints (off := 0) (size := 16) rfl m0 (by simp), fill_int (off := 16) rfl (by rw [l0]; omega), fill_ints (off := 17) (size := 4) rfl m2 (by rw [l1]; omega), fill_ints (off := 21) (size := 16) rfl m3 (by rw [l2]; omega), fill_int (off := 37) rfl (by rw [l3]; omega)]
  simp only [Instr.fill]
  congr 2
  clear l0 l1 l2 l3 m0 m2 m3
  match L, hL with
  | x0 :: x1 :: x2 :: x3 :: x4 :: x5 :: x6 :: x7 :: x8 :: x9 :: x10 :: x11 :: x12 :: x13 :: x14 :: x15 :: x16 :: x17 :: x18 :: x19 :: x20 :: x21 :: x22 :: x23 :: x24 :: x25 :: x26 :: x27 :: x28 :: x29 :: x30 :: x31 :: x32 :: x33 :: x34 :: x35 :: x36 :: x37 :: [], _ => rfl
set_option maxRecDepth 100000 in
theorem rstate_built1 (ls : List Int) (h1 : ls.length = 4) : Tryz.prog.built 25 [(2, .agg (arrV ls))] = some (arrV (mkSt ls (List.replicate 16 0) 0)) := by
  obtain ⟨it, hi, z, hz, hzc, fs, hu, hp⟩ := rstate_places
  rw [built_struct hi hu hz hp, hzc, fill_ints (off := 17) (size := 4) rfl h1 (by rw [List.length_replicate]; omega)]
  simp only [Instr.fill]
  congr 2
  unfold mkSt
  match ls, h1 with
  | [a, b, c, d], _ => rfl
set_option maxRecDepth 100000 in
set_option maxHeartbeats 1600000 in
theorem Plain_any (L : List Int) (hL : L.length = 38) (w : World) : Calls Tryz.prog 13 #[.agg (arrV L)] w fun e w' => e = .returned (.agg (arrV L)) ∧ Below w.heap.size w w' := by
  have LL := Len.mk hL
  have hbu := rstate_built5 L hL
  have HBU := Lib.hid hbu
  clear hbu hL
  obtain ⟨B, hB⟩ : ∃ B, w.heap.size = B := ⟨_, rfl⟩
  have hfar := Below.refl B w
  have hsz : B ≤ w.heap.size := by omega
  go_enter Tryz.func13, Tryz.ntmps13
  go_upto_region 1 with (fail)
  refine wp_gen (fun W => Blk W (B) (arrV L) 35 ∧ Blk W (B + 1) (arrV (zs 38)) 25 ∧ Below (B) w W ∧ B + 2 ≤ W.heap.size) ⟨bk_, bk_, bl_, sz_⟩ ?_
  clear hfar hsz
  rintro w1 ⟨hA, hR, hfar, hsz⟩
  have c16 := (hA.cell 16).trans (arr_get (l := L) (by have := LL.out; omega))
  have c37 := (hA.cell 37).trans (arr_get (l := L) (by have := LL.out; omega))
  change w1.cell? ⟨B, 16, none⟩ = some (.int .i64 (lastL L)) at c16
  change w1.cell? ⟨B, 37, none⟩ = some (.int .i64 (lostL L)) at c37
  go_wp2_with (first | (refine ldp 27 rfl (by rfl) w_Block rfl hA LL (by omega) ?_) | (refine ldp 23 rfl (by rfl) w_Four rfl hA LL (by omega) ?_) | (refine bd 25 rfl (by rfl) rfl HBU.out ?_) | (refine st 25 rfl (by rfl) w_RState rfl rfl bk_ lz_ lz_ one_ ?_))
  exact bodyPost_ret (v := .agg (arrV L)) (res_c Tryz.results13 rfl w_RState (by exact bk_) LL.sz) rfl ⟨rfl, (by (try rw [hB]); exact bl_)⟩
/-- Two wholes that are alike, asked whether they differ. -/
theorem neqw {ops : Array Oper} {rest : List Oper} {op : Oper} {a : Act} {w : World} {Q : Exit → Act → World → Prop} (t : TypeId) {t2 : TypeId} {x y : Operand} (ho : op.op = .binOp .neq t x y t2) (hwd : Region.wanted op (yielded ops a.tmps) = true)
    {xs ys : Array Value} (hx : a.eval x = .agg xs) (hy : a.eval y = .agg ys) (hg : Tryz.prog.eqGuardType Tryz.prog.depth t = false) (he : ∀ w, (Op.equalIn 10000 t (.agg xs) (.agg ys)).run Tryz.prog w = .ok true w)
    (h : wpList Tryz.prog ops Q rest (a.put op.dst (.bool false)) w) : wpList Tryz.prog ops Q (op :: rest) a w :=
  wpList_step fun K hK => by
    rw [if_pos hwd]
    unfold Oper.wp execOp
    simp only [ho, hx, hy, Sem.run_bind, run_eqGuard_agg w .neq t x y xs ys hg, Result.andThen_ok, run_neq_struct, he, Oper.upon, Bool.not_true]
    exact hK _ _ h
theorem eg_RState : Tryz.prog.eqGuardType Tryz.prog.depth 25 = false := by kernel_rfl
theorem eg_Four : Tryz.prog.eqGuardType Tryz.prog.depth 23 = false := by kernel_rfl
theorem eq_four_self {b : List Int} (h : Len b 4) (w : World) : (Op.equalIn 10000 23 (.agg (arrV b)) (.agg (arrV b))).run Tryz.prog w = .ok true w := by
  have := eq_four b b h.out h.out w
  rwa [beq_self_eq_true] at this
set_option maxRecDepth 100000 in
theorem eq_rstate_d (d : Nat) (L : List Int) (h : L.length = 38) (w : World) : (Op.equalIn (d + 3) 25 (.agg (arrV L)) (.agg (arrV L))).run Tryz.prog w = .ok true w := by
  have ht : Tryz.prog.underlying 25 = some (.struct (Tryz.prog.fieldsOf 25)) := by kernel_rfl
  have hp : Tryz.prog.stoodInHeld 25 = false := by kernel_rfl
  have a16 : (isAgg 22).run Tryz.prog w = .ok true w := by kernel_rfl
  have a4 : (isAgg 23).run Tryz.prog w = .ok true w := by kernel_rfl
  have s16 : (sizeOf 22).run Tryz.prog w = .ok 16 w := by kernel_rfl
  have s4 : (sizeOf 23).run Tryz.prog w = .ok 4 w := by kernel_rfl
  have e0 : ((L.drop 0).take 16).length = 16 := by rw [List.length_take, List.length_drop, h]; rfl
  have e2 : ((L.drop 17).take 4).length = 4 := by rw [List.length_take, List.length_drop, h]; rfl
  have e3 : ((L.drop 21).take 16).length = 16 := by rw [List.length_take, List.length_drop, h]; rfl
  rw [run_equalIn_struct w (d + 2) _ _ _ ht hp]
  have q0 := eq_ints d _ _ e0 e0 Tryz.underlying22 w
  have q2 := eq_ints d _ _ e2 e2 Tryz.underlying23 w
  have q3 := eq_ints d _ _ e3 e3 Tryz.underlying22 w
  have p0 := run_part_arr 22 L 0 16 w a16 s16
  have p2 := run_part_arr 23 L 17 4 w a4 s4
  have p3 := run_part_arr 22 L 21 16 w a16 s16
  have p1 := run_part_one L 16 (by omega) w
  have p4 := run_part_one L 37 (by omega) w
  simp only [beq_self_eq_true] at q0 q2 q3
  have n0 : ("Mem" : String) ≠ "_" := by decide +kernel
  have n1 : ("Last" : String) ≠ "_" := by decide +kernel
  have n2 : ("Levels" : String) ≠ "_" := by decide +kernel
  have n3 : ("Waves" : String) ≠ "_" := by decide +kernel
  have n4 : ("Lost" : String) ≠ "_" := by decide +kernel
  simp only [Program.fieldsOf, Tryz.underlying25]
  have r1 := run_equalIn_int w (d + 1) 3 .i64 .i64 (L.getD 16 0) (L.getD 16 0) Tryz.underlying3
  have r4 := run_equalIn_int w (d + 1) 3 .i64 .i64 (L.getD 37 0) (L.getD 37 0) Tryz.underlying3
  rw [beq_self_eq_true] at r1 r4
  refine Eq.trans (eqFields_step (a := .agg (arrV ((L.drop 0).take 16))) (b := .agg (arrV ((L.drop 0).take 16))) ?_ ?_ ?_ ?_) ?_
  · exact n0
  · exact p0
  · exact p0
  · exact q0
  refine Eq.trans (eqFields_step (a := .int .i64 (L.getD 16 0)) (b := .int .i64 (L.getD 16 0)) ?_ ?_ ?_ ?_) ?_
  · exact n1
  · exact p1
  · exact p1
  · exact r1
  refine Eq.trans (eqFields_step (a := .agg (arrV ((L.drop 17).take 4))) (b := .agg (arrV ((L.drop 17).take 4))) ?_ ?_ ?_ ?_) ?_
  · exact n2
  · exact p2
  · exact p2
  · exact q2
  refine Eq.trans (eqFields_step (a := .agg (arrV ((L.drop 21).take 16))) (b := .agg (arrV ((L.drop 21).take 16))) ?_ ?_ ?_ ?_) ?_
  · exact n3
  · exact p3
  · exact p3
  · exact q3
  refine Eq.trans (eqFields_step (a := .int .i64 (L.getD 37 0)) (b := .int .i64 (L.getD 37 0)) ?_ ?_ ?_ ?_) ?_
  · exact n4
  · exact p4
  · exact p4
  · exact r4
  simp [Op.eqFields]
set_option maxRecDepth 100000 in
theorem eq_rstate_self {L : List Int} (h : Len L 38) (w : World) : (Op.equalIn 10000 25 (.agg (arrV L)) (.agg (arrV L))).run Tryz.prog w = .ok true w := eq_rstate_d 9997 L h.out w
end Go.Proofs.YtmfihaaiddolmaaGreatDoor
