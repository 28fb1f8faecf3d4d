/- The walk of dec.Parts: a packet's levels and waves. (Its drawn regions were printed by wip/mkParts.py.) The walk of dec.Decode. (Its drawn region was printed by wip/mkDecode.py.) -/
import Derived.Test.YtkoljgmapclhkaaGreatDoorLot4
set_option linter.unusedSimpArgs false
set_option linter.unusedVariables false
namespace Go.Proofs.YtkoljgmapclhkaaGreatDoor
open Go.RowKit

theorem yieldsIf_build_l {ops : Array Oper} {S : World → Prop} {op : Oper} {a : Act} (hw : Region.wanted op (yielded ops a.tmps) = true) (t : TypeId) (parts : Array (Nat × Operand)) (ho : op.op = .build t parts)
    (vs : List (Nat × Value)) (hv : parts.toList.map (fun p => (p.1, a.eval p.2)) = vs) (cells : Array Value) (hb : Tryz.prog.built t vs = some cells) : YieldsIf Tryz.prog ops S op (.agg cells) a :=
  .inl ⟨hw, fun w _ => by
    have hv2 : (parts.map fun (i, x) => (i, a.eval x)).toList = vs := by rw [Array.toList_map]; exact hv
    subst hv2
    unfold execOp
    simp only [ho, Sem.run_bind, run_build w t _ cells hb, Result.andThen_ok]
    rfl⟩
theorem four_zero : Tryz.prog.built 27 [] = some (arrV (List.replicate 4 0)) := by kernel_rfl
theorem zero4e : (#[.int .i64 0, .int .i64 0, .int .i64 0, .int .i64 0] : Array Value) = arrV (List.replicate 4 0) := by kernel_rfl
set_option maxRecDepth 100000 in
theorem state_built1 (ls : List Int) (h1 : ls.length = 4) : Tryz.prog.built 29 [(2, .agg (arrV ls))] = some (arrV (mkSt ls (List.replicate 16 0) 0)) := by
  obtain ⟨it, hi, z, hz, hzc, fs, hu, hp⟩ := state_places
  rw [built_struct hi hu hz hp, hzc, fill_ints (off := 17) (size := 4) rfl h1 (by simp)]
  simp only [Instr.fill]
  congr 2
  match ls, h1 with
  | [a, b, c, d], _ => rfl
/-- A band's waves, whatever pulses it has. -/
theorem band_all (g : Nat) {c : Int} {d : Sp.Dec} (hd : d.Ok c) (hc : c ≤ 1000000) (b lev k : Nat) (hb : b < 4) (hlev : lev ≤ 20) (hk : k ≤ 8) (hg0 : g ≠ 0) (w : World) (hW : BandsW w) (hB : Blk w g (decC d) 154) :
    Calls Tryz.prog 67 #[.func (.func 65) #[.pointer (some ⟨g, 0, none⟩)] #[], .int .i64 b, .int .i64 lev, .int .i64 k] w fun e w' => ∃ v, e = .returned v ∧ Row w' 3 v (intsV (bandV d b lev k)) ∧ Blk w' g (decC (bandD d b k)) 154 ∧ Kept (· = g) w w' ∧ Hid (∀ i, v.ownBlock = some i → w.heap.size ≤ i) := by
  by_cases h0 : k = 0
  · subst h0
    refine (band_zero g b lev hb w hW _).mono ?_
    rintro e w' ⟨v, rfl, hR, hbw, hF⟩
    refine ⟨v, rfl, ?_, ?_, Kept.of_below hbw, hF⟩
    · rw [show bandV d b lev 0 = List.replicate (bandN b) 0 by unfold bandV; rw [if_pos rfl]]; exact hR
    · rw [show bandD d b 0 = d by unfold bandD; rw [if_pos rfl]]; exact hB.newB hbw
  · exact band_any g hd hc b lev k hb hlev (by omega) hk w hW hg0 hB
def partsE (ls : List Int) (s : ByteArray) : Int := if 10 ≤ s.size ∧ s.size ≤ 32 then (if ls.all levP = true then 0 else 1) else 10
def partsL (ls : List Int) (s : ByteArray) : List Int := if partsE ls s = 0 then levsS s ls else List.replicate 4 0
def partsW (ls : List Int) (s : ByteArray) : List Int := if partsE ls s = 0 then wavS s ls else List.replicate 16 0
/-- Memory while a packet is taken apart. -/
structure PartsW (w wr : World) (B g : Nat) (ls : List Int) (d : Sp.Dec) (wv : List Int) : Prop where
  lev : Blk wr B (arrV ls) 27
  r1 : Blk wr (B + 1) (arrV (List.replicate 4 0)) 27
  r2 : Blk wr (B + 2) (arrV (List.replicate 16 0)) 26
  wav : Blk wr (B + 3) (arrV wv) 26
  dec : Blk wr g (decC d) 154
  bands : BandsW wr
  far : Below B w wr
namespace PartsW
variable {w wr w' : World} {B g : Nat} {ls : List Int} {d : Sp.Dec} {wv : List Int}
theorem drew (h : PartsW w wr B g ls d wv) : PartsW w wr.drew B g ls d wv := ⟨h.lev.drew, h.r1.drew, h.r2.drew, h.wav.drew, h.dec.drew, Blk.drew h.bands, h.far.drew⟩
theorem below (h : PartsW w wr B g ls d wv) (hb : Below wr.heap.size wr w') : PartsW w w' B g ls d wv :=
  ⟨h.lev.newB hb, h.r1.newB hb, h.r2.newB hb, h.wav.newB hb, h.dec.newB hb, Blk.newB h.bands hb, h.far.trans (hb.mono (by have := h.lev.lt; omega))⟩
theorem alloc (h : PartsW w wr B g ls d wv) (o : Obj) : PartsW w (wr.alloc o) B g ls d wv := h.below ((Below.refl _ _).alloc (Nat.le_refl _) _)
theorem glt (h : PartsW w wr B g ls d wv) : g < wr.heap.size := h.dec.lt
theorem keepG (h : PartsW w wr B g ls d wv) (hg : 0 < B ∧ B + 4 ≤ g) {d' : Sp.Dec} (hd : Blk w' g (decC d') 154) (hk : Kept (· = g) wr w') : PartsW w w' B g ls d' wv :=
  ⟨h.lev.keep hk (by omega), h.r1.keep hk (by omega), h.r2.keep hk (by omega), h.wav.keep hk (by omega), hd, Blk.keep h.bands hk (by omega), h.far.trans (hk.below (fun k e => by have e2 : k = g := e; omega) (by have := h.lev.lt; omega))⟩
theorem setRow (h : PartsW w wr B g ls d wv) {g2 : Nat} (hg : 0 < B ∧ B + 4 ≤ g) (h2 : g < g2) (new : Array Value) : PartsW w (wr.setRow g2 new) B g ls d wv :=
  ⟨h.lev.setRowOther (by omega), h.r1.setRowOther (by omega), h.r2.setRowOther (by omega), h.wav.setRowOther (by omega), h.dec.setRowOther (by omega), Blk.setRowOther h.bands (by omega), Below.setRow h.far (by omega) _⟩
theorem setWav (h : PartsW w wr B g ls d wv) (hg : 0 < B ∧ B + 4 ≤ g) (h2 : True) (new : List Int) : PartsW w (wr.setRow (B + 3) (arrV new)) B g ls d new :=
  ⟨h.lev.setRowOther (by omega), h.r1.setRowOther (by omega), h.r2.setRowOther (by omega), h.wav.setRow, h.dec.setRowOther (by omega), Blk.setRowOther h.bands (by omega), Below.setRow h.far (by omega) _⟩
theorem setLev (h : PartsW w wr B g ls d wv) (hg : 0 < B ∧ B + 4 ≤ g) (k : Nat) (x : Int) : PartsW w (wr.setCell ⟨B, k, none⟩ (.int .i64 x)) B g (ls.set k x) d wv :=
  ⟨by rw [← arr_set]; exact h.lev.set k _, h.r1.other (by simp only []; omega) _, h.r2.other (by simp only []; omega) _, h.wav.other (by simp only []; omega) _, h.dec.other (by simp only []; omega) _, Blk.other h.bands (by simp only []; omega) _, h.far.setCell (by show B ≤ B; omega) _⟩
end PartsW
set_option maxRecDepth 100000 in
set_option maxHeartbeats 4000000 in
theorem Parts_any (ls : List Int) (h1 : ls.length = 4) (s : ByteArray) (w : World) (hW : BandsW w) :
    Calls Tryz.prog 34 #[.agg (arrV ls), .string s] w fun e w' => e = .returned (.tuple #[.agg (arrV (partsL ls s)), .agg (arrV (partsW ls s)), .int .i64 (partsE ls s)]) ∧ Below w.heap.size w w' := by
  obtain ⟨hA, hR1, hR2, hWv, hb0, hs0⟩ := four_new w (arrV ls) #[.int .i64 0, .int .i64 0, .int .i64 0, .int .i64 0] #[.int .i64 0, .int .i64 0, .int .i64 0, .int .i64 0, .int .i64 0, .int .i64 0, .int .i64 0, .int .i64 0, .int .i64 0, .int .i64 0, .int .i64 0, .int .i64 0, .int .i64 0, .int .i64 0, .int .i64 0, .int .i64 0] #[.int .i64 0, .int .i64 0, .int .i64 0, .int .i64 0, .int .i64 0, .int .i64 0, .int .i64 0, .int .i64 0, .int .i64 0, .int .i64 0, .int .i64 0, .int .i64 0, .int .i64 0, .int .i64 0, .int .i64 0, .int .i64 0] 27 27 26 26
  have hW0 : BandsW ((((w.alloc (.cells (arrV ls) 27)).alloc (.cells #[.int .i64 0, .int .i64 0, .int .i64 0, .int .i64 0] 27)).alloc (.cells #[.int .i64 0, .int .i64 0, .int .i64 0, .int .i64 0, .int .i64 0, .int .i64 0, .int .i64 0, .int .i64 0, .int .i64 0, .int .i64 0, .int .i64 0, .int .i64 0, .int .i64 0, .int .i64 0, .int .i64 0, .int .i64 0] 26)).alloc (.cells #[.int .i64 0, .int .i64 0, .int .i64 0, .int .i64 0, .int .i64 0, .int .i64 0, .int .i64 0, .int .i64 0, .int .i64 0, .int .i64 0, .int .i64 0, .int .i64 0, .int .i64 0, .int .i64 0, .int .i64 0, .int .i64 0] 26)) := Blk.alloc (Blk.alloc (Blk.alloc (Blk.alloc hW _) _) _) _
  have hW1 := hW.lt
  obtain ⟨B, hB⟩ : ∃ B, w.heap.size = B := ⟨_, rfl⟩
  rw [hB] at hW1
  have z4i : (Tryz.prog.info? 27).map (·.size) = some (arrV (List.replicate 4 0)).size := by rw [arr_size]; exact fourInfo
  have z16i : (Tryz.prog.info? 26).map (·.size) = some (arrV (List.replicate 16 0)).size := by rw [arr_size]; exact blockInfo
  have z16s : (Tryz.prog.info? 26).map (·.size) = some (intsV (List.replicate 16 0)).length := by rw [List.length_map]; exact blockInfo
  have i4 : (Tryz.prog.info? 27).map (·.size) = some (arrV ls).size := by rw [arr_size, h1]; exact fourInfo
  have hmay := fun w => dmay_any s w
  have hRt := fun w => Right_any _ (mkSt_len h1 (show (List.replicate 16 (0 : Int)).length = 16 by simp) 0) w
  rw [right_levels ls h1] at hRt
  have hbu := state_built1 ls h1
  obtain ⟨st, hst⟩ : ∃ st, mkSt ls (List.replicate 16 0) 0 = st := ⟨_, rfl⟩
  simp only [hst] at hbu hRt
  obtain ⟨O1, hO1⟩ : ∃ O, partsL ls s = O := ⟨_, rfl⟩
  obtain ⟨O2, hO2⟩ : ∃ O, partsW ls s = O := ⟨_, rfl⟩
  obtain ⟨E, hE⟩ : ∃ E, partsE ls s = E := ⟨_, rfl⟩
  rw [hO1, hO2, hE]
  have HO1' := Lib.hid hO1
  have HO2' := Lib.hid hO2
  have HE' := Lib.hid hE
  have HMAY := Lib.hid hmay
  have HRT := Lib.hid hRt
  have HBU := Lib.hid hbu
  clear hO1 hO2 hE hmay hRt hbu hst
  go_enter Tryz.func34, Tryz.ntmps34
  go_upto_region 2 with (fail)
  simp only [hB] at hA hR1 hR2 hWv hb0 hs0 ⊢
  revert hA hR1 hR2 hWv hb0 hs0 hW0
  generalize ((((w.alloc (.cells (arrV ls) 27)).alloc (.cells #[.int .i64 0, .int .i64 0, .int .i64 0, .int .i64 0] 27)).alloc (.cells #[.int .i64 0, .int .i64 0, .int .i64 0, .int .i64 0, .int .i64 0, .int .i64 0, .int .i64 0, .int .i64 0, .int .i64 0, .int .i64 0, .int .i64 0, .int .i64 0, .int .i64 0, .int .i64 0, .int .i64 0, .int .i64 0] 26)).alloc (.cells #[.int .i64 0, .int .i64 0, .int .i64 0, .int .i64 0, .int .i64 0, .int .i64 0, .int .i64 0, .int .i64 0, .int .i64 0, .int .i64 0, .int .i64 0, .int .i64 0, .int .i64 0, .int .i64 0, .int .i64 0, .int .i64 0] 26)) = w0
  intro hW0 hA hR1 hR2 hWv hfar hs0
  rw [zero4e] at hR1
  rw [zero16] at hR2 hWv
  go_wp2_with fail
  refine (HMAY.out _).mono ?_
  rintro e w1 ⟨rfl, rfl⟩
  by_cases hsz : 10 ≤ s.size ∧ s.size ≤ 32
  case neg =>
    have HE := Lib.hid (show E = 10 by rw [← HE'.out]; unfold partsE; rw [if_neg hsz])
    have HO1 := Lib.hid (show O1 = List.replicate 4 0 by rw [← HO1'.out]; unfold partsL; rw [HE'.out, HE.out]; rfl)
    have HO2 := Lib.hid (show O2 = List.replicate 16 0 by rw [← HO2'.out]; unfold partsW; rw [HE'.out, HE.out]; rfl)
    rw [decide_eq_false hsz]
    clear hsz
    go_upto_region 3 with (fail)
    refine wp_region_held_drew (S := (fun W => Blk W (B + 3) (arrV (List.replicate 16 0)) 26)) (by kernel_rfl) hWv.drew (fun hH => ?_)
    refine tk 0 hH (v := .agg (arrV (List.replicate 4 0))) (y := (yieldsIf_build_l (by rfl) 27 #[] rfl [] rfl _ four_zero)) (k := ?_)
    refine tk 1 hH (v := .agg (arrV (List.replicate 16 0))) (y := (yieldsIf_load_mid (by rfl) 26 (.tmp 7) rfl (B + 3) 0 rfl (intsV (List.replicate 16 0)) (.array 16 3) (fun _ h => h.rangeAll) Tryz.underlying26 rfl z16s)) (k := ?_)
    refine wpAnyH_ready (rs := [2]) (by kernel_rfl) (by simp) ?_
    refine rc (h := fun K hK => ?_) (r := AllReadyH.nil)
    refine wp_store_blk 27 (.tmp 4) (.tmp 20) rfl (B + 1) _ (arrV (List.replicate 4 0)) rfl rfl 27 hR1.drew z4i rfl (arr_one _) ?_
    refine hK.out _ _ (hH.setRowOther (by omega)) (fun hH => ?_)
    clear hK K
    try simp only [Act.put, sa, List.set_cons_zero, List.set_cons_succ]
    refine wpAnyH_ready (rs := [3]) (by kernel_rfl) (by simp) ?_
    refine rc (h := fun K hK => ?_) (r := AllReadyH.nil)
    refine wp_store_blk 26 (.tmp 5) (.tmp 21) rfl (B + 2) _ (arrV (List.replicate 16 0)) rfl rfl 26 (hR2.drew.setRowOther (by omega)) z16i rfl (arr_one _) ?_
    refine hK.out _ _ (hH.setRowOther (by omega)) (fun hH => ?_)
    clear hK K
    try simp only [Act.put, sa, List.set_cons_zero, List.set_cons_succ]
    refine tk 4 hH (v := .int .i64 10) (y := .inl ⟨by rfl, fun w hS => by go_simp⟩) (k := ?_)
    refine wpAnyH_done (by kernel_rfl) ?_ _
    go_wp2_with fail
    have hfin := Below.setRow (Below.setRow hfar.drew (g := B + 1) (by omega) (arrV (List.replicate 4 0))) (g := B + 2) (by omega) (arrV (List.replicate 16 0))
    exact bodyPost_ret (v := .tuple #[.agg (arrV (List.replicate 4 0)), .agg (arrV (List.replicate 16 0)), .int .i64 10]) (results_cct Tryz.results34 _ _ (B + 1) (B + 2) 27 26 _ _ (.array 4 3) (.array 16 3) _ rfl ((hR1.drew.setRow (new := arrV (List.replicate 4 0))).setRowOther (by omega)) Tryz.underlying27 rfl z4i rfl (hR2.drew.setRowOther (by omega)).setRow Tryz.underlying26 rfl z16i rfl) rfl ⟨by rw [HO1.out, HO2.out, HE.out], by first | exact hfin | (rw [hB]; exact hfin)⟩
  case pos =>
    rw [decide_eq_true hsz]
    cases hlv : ls.all levP with
    | false =>
      have HE := Lib.hid (show E = 1 by rw [← HE'.out]; unfold partsE; rw [if_pos hsz, hlv]; rfl)
      have HO1 := Lib.hid (show O1 = List.replicate 4 0 by rw [← HO1'.out]; unfold partsL; rw [HE'.out, HE.out]; rfl)
      have HO2 := Lib.hid (show O2 = List.replicate 16 0 by rw [← HO2'.out]; unfold partsW; rw [HE'.out, HE.out]; rfl)
      rw [hlv] at HRT
      go_wp2_with (first | (refine wpList_load_blk rfl 27 (.tmp 2) rfl B rfl (arrV ls) 27 hA Tryz.underlying27 i4 ?_) | (refine wpList_build_l rfl 29 #[(2, .tmp 23)] rfl [(2, .agg (arrV ls))] rfl (arrV st) HBU.out ?_))
      refine (HRT.out _).mono ?_
      rintro e w2 ⟨rfl, hb2⟩
      replace hR1 := hR1.newB hb2
      replace hR2 := hR2.newB hb2
      replace hWv := hWv.newB hb2
      replace hfar := hfar.trans (hb2.mono (by omega))
      go_upto_region 5 with (fail)
      refine wp_region_held_drew (S := (fun W => Blk W (B + 3) (arrV (List.replicate 16 0)) 26)) (by kernel_rfl) hWv.drew (fun hH => ?_)
      refine tk 0 hH (v := .agg (arrV (List.replicate 4 0))) (y := (yieldsIf_build_l (by rfl) 27 #[] rfl [] rfl _ four_zero)) (k := ?_)
      refine tk 1 hH (v := .agg (arrV (List.replicate 16 0))) (y := (yieldsIf_load_mid (by rfl) 26 (.tmp 7) rfl (B + 3) 0 rfl (intsV (List.replicate 16 0)) (.array 16 3) (fun _ h => h.rangeAll) Tryz.underlying26 rfl z16s)) (k := ?_)
      refine wpAnyH_ready (rs := [2]) (by kernel_rfl) (by simp) ?_
      refine rc (h := fun K hK => ?_) (r := AllReadyH.nil)
      refine wp_store_blk 27 (.tmp 4) (.tmp 27) rfl (B + 1) _ (arrV (List.replicate 4 0)) rfl rfl 27 hR1.drew z4i rfl (arr_one _) ?_
      refine hK.out _ _ (hH.setRowOther (by omega)) (fun hH => ?_)
      clear hK K
      try simp only [Act.put, sa, List.set_cons_zero, List.set_cons_succ]
      refine wpAnyH_ready (rs := [3]) (by kernel_rfl) (by simp) ?_
      refine rc (h := fun K hK => ?_) (r := AllReadyH.nil)
      refine wp_store_blk 26 (.tmp 5) (.tmp 28) rfl (B + 2) _ (arrV (List.replicate 16 0)) rfl rfl 26 (hR2.drew.setRowOther (by omega)) z16i rfl (arr_one _) ?_
      refine hK.out _ _ (hH.setRowOther (by omega)) (fun hH => ?_)
      clear hK K
      try simp only [Act.put, sa, List.set_cons_zero, List.set_cons_succ]
      refine tk 4 hH (v := .int .i64 1) (y := .inl ⟨by rfl, fun w hS => by go_simp⟩) (k := ?_)
      refine wpAnyH_done (by kernel_rfl) ?_ _
      go_wp2_with fail
      have hfin := Below.setRow (Below.setRow hfar.drew (g := B + 1) (by omega) (arrV (List.replicate 4 0))) (g := B + 2) (by omega) (arrV (List.replicate 16 0))
      exact bodyPost_ret (v := .tuple #[.agg (arrV (List.replicate 4 0)), .agg (arrV (List.replicate 16 0)), .int .i64 1]) (results_cct Tryz.results34 _ _ (B + 1) (B + 2) 27 26 _ _ (.array 4 3) (.array 16 3) _ rfl ((hR1.drew.setRow (new := arrV (List.replicate 4 0))).setRowOther (by omega)) Tryz.underlying27 rfl z4i rfl (hR2.drew.setRowOther (by omega)).setRow Tryz.underlying26 rfl z16i rfl) rfl ⟨by rw [HO1.out, HO2.out, HE.out], by first | exact hfin | (rw [hB]; exact hfin)⟩
    | true =>
      have HE := Lib.hid (show E = 0 by rw [← HE'.out]; unfold partsE; rw [if_pos hsz, hlv]; rfl)
      have HP1 := Lib.hid (show O1 = levsS s ls by rw [← HO1'.out]; unfold partsL; rw [HE'.out, HE.out]; rfl)
      have HP2 := Lib.hid (show O2 = wavS s ls by rw [← HO2'.out]; unfold partsW; rw [HE'.out, HE.out]; rfl)
      rw [hlv] at HRT
      obtain ⟨hsz1, hsz2⟩ := hsz
      go_wp2_with (first | (refine wpList_load_blk rfl 27 (.tmp 2) rfl B rfl (arrV ls) 27 hA Tryz.underlying27 i4 ?_) | (refine wpList_build_l rfl 29 #[(2, .tmp 23)] rfl [(2, .agg (arrV ls))] rfl (arrV st) HBU.out ?_))
      refine (HRT.out _).mono ?_
      rintro e w2 ⟨rfl, hb2⟩
      have hs2 := hb2.size
      go_wp2_with fail
      refine (NewDec_any s _).mono ?_
      rintro e w3 ⟨g, hg, rfl, hD3, hb3⟩
      have hb23 := hb2.trans (hb3.mono hb2.size)
      have hgB : 0 < B ∧ B + 4 ≤ g := by omega
      have hY0 : PartsW w w3 B g ls (decN s 0) (List.replicate 16 0) := ⟨hA.newB hb23, hR1.newB hb23, hR2.newB hb23, hWv.newB hb23, hD3, Blk.newB hW0 hb23, hfar.trans (hb23.mono (by omega))⟩
      clear hA hR1 hR2 hWv hD3 hW0 hfar
      go_wp2_with fail
      go_loopw [31] (fun i wr => ∃ b : Nat, b ≤ 4 ∧ i = .int .i64 b ∧ PartsW w wr B g ((levsS s ls).take b ++ ls.drop b) (decN s b) (List.replicate 16 0)) (fun i _ => 4 - (intOf i).toNat)
      case atStart => exact ⟨0, by omega, rfl, by simpa using hY0⟩
      case round =>
        obtain ⟨b, hb, rfl, hY⟩ := hrel
        have hll := (levsS_ok s ls).1
        by_cases hlt : b < 4
        · have hok := decN_ok s b
          have hbd := (ltakeD_ok hok).2
          have hcall := fun w hB => LTake_any g hok (by omega) w hB
          have hps := part_step (levsS s ls) ls b (by omega) (by omega)
          have hgt : (levsS s ls).getD b 0 = levAt s ls b := by simp [levsS, List.getD_eq_getElem?_getD, hlt]
          have hlen : ((levsS s ls).take b ++ ls.drop b).length = 4 := by rw [List.length_append, List.length_take, List.length_drop, hll, h1]; omega
          have hcur : ((levsS s ls).take b ++ ls.drop b).getD b 0 = ls.getD b 0 := by
            rw [List.getD_eq_getElem?_getD, List.getElem?_append_right (by rw [List.length_take]; omega), List.getElem?_drop, List.length_take, List.getD_eq_getElem?_getD]
            congr 2
            omega
          have hlx : 0 ≤ ls.getD b 0 ∧ ls.getD b 0 ≤ 20 := by
            rw [List.getD_eq_getElem?_getD, List.getElem?_eq_getElem (by omega), Option.getD_some]
            have h := List.all_eq_true.1 hlv _ (List.getElem_mem (show b < ls.length by omega))
            simpa [levP] using h
          rw [hgt] at hps
          have hdn : ltakeD (decN s b) = decN s (b + 1) := rfl
          have hlev : levAt s ls b = max (min (ls.getD b 0 + ltakeV (decN s b)) 20) 0 := rfl
          rw [hdn] at hcall
          obtain ⟨x, hx⟩ : ∃ x, ls.getD b 0 = x := ⟨_, rfl⟩
          obtain ⟨v, hv⟩ : ∃ v, ltakeV (decN s b) = v := ⟨_, rfl⟩
          rw [hx] at hlx hlev hcur
          rw [hv] at hlev hbd
          simp only [hv] at hcall
          obtain ⟨y, hy⟩ : ∃ y, levAt s ls b = y := ⟨_, rfl⟩
          rw [hy] at hps hlev
          obtain ⟨pk, hpk⟩ : ∃ l, (levsS s ls).take b ++ ls.drop b = l := ⟨_, rfl⟩
          rw [hpk] at hY hps hlen hcur
          have hcc := arr_get (l := pk) (n := b) (by omega)
          rw [hcur] at hcc
          have HCALL := Lib.hid hcall
          have HPS := Lib.hid hps
          have HCC := Lib.hid hcc
          have HLEV := Lib.hid hlev.symm
          clear hcall hps hgt hlen hcur hdn hlev hx hv hy hpk hcc hok
          go_wp2_with fail
          refine (HCALL.out _ hY.dec).mono ?_
          rintro e w4 ⟨rfl, hD4, hK4⟩
          have hY4 := hY.keepG hgB hD4 hK4
          have c1 := (hY4.lev.cell b).trans HCC.out
          have f1 := hY4.lev.frozen b
          have hY5 := hY4.setLev hgB b y
          have hlv2 := HLEV.out
          go_wp2_with fail
          go_roundw
          case rel => exact ⟨b + 1, hlt, by go_num, by rw [← HPS.out]; exact hY5⟩
          case measure => simp [intOf]; omega
        · obtain rfl : b = 4 := by omega
          have hll4 : (levsS s ls).take 4 ++ ls.drop 4 = levsS s ls := by rw [List.take_of_length_le (by omega), List.drop_of_length_le (by omega), List.append_nil]
          rw [hll4] at hY
          have hLO := levsS_ok s ls
          have hKO := pulS_ok s ls
          have hDO := decN_ok s 4
          have hub := used_bd hDO
          have hBO := fun b hb => bandsS_ok hDO hLO hKO b hb
          have hus := fun w hB => DecUsed_any g hDO (by omega) w hB
          have hro := fun w => Room_any s.size hsz1 hsz2 _ hub.1 (by omega) w
          have hbits : max (8 * (s.size : Int) - 40 - (decN s 4).used) 0 = bitsS s := rfl
          rw [hbits] at hro
          have hb0 : 0 ≤ bitsS s := by unfold bitsS; omega
          have hb1 : bitsS s ≤ 1000000 := by unfold bitsS; omega
          have hpu := fun w hW => Pulses_any (levsS s ls) hLO (bitsS s) hb0 hb1 w hW
          have hpe : pulses (levsS s ls) 33 [0, 0, 0, 0] (bitsS s) = pulS s ls := rfl
          rw [hpe] at hpu
          have hwe : wavS s ls = (bandsS (decN s 4) (levsS s ls) (pulS s ls) 4).2 := rfl
          obtain ⟨ks, hks⟩ : ∃ k, pulS s ls = k := ⟨_, rfl⟩
          obtain ⟨ls', hls⟩ : ∃ l, levsS s ls = l := ⟨_, rfl⟩
          obtain ⟨d4, hd4⟩ : ∃ d, decN s 4 = d := ⟨_, rfl⟩
          obtain ⟨bt, hbt⟩ : ∃ b, bitsS s = b := ⟨_, rfl⟩
          obtain ⟨us, hue⟩ : ∃ u, (decN s 4).used = u := ⟨_, rfl⟩
          simp only [hue, hbt, hls, hks, hd4] at hus hro hpu hwe hLO hKO hDO hub hBO hY
          have hue2 : d4.used = us := by rw [← hd4]; exact hue
          rw [hue2] at hus hro
          have HUS := Lib.hid hus
          have HRO := Lib.hid hro
          have HPU := Lib.hid hpu
          have HWE := Lib.hid hwe
          have HBO := Lib.hid hBO
          have HLS := Lib.hid hls
          have il4 : (Tryz.prog.info? 27).map (·.size) = some (intsV ls').length := by rw [List.length_map, hLO.1]; exact fourInfo
          have jl4 : (Tryz.prog.info? 27).map (·.size) = some (arrV ls').size := by rw [arr_size, hLO.1]; exact fourInfo
          have kl4 : (arrV (List.replicate 4 0)).size = (arrV ls').size := by rw [arr_size, arr_size, hLO.1]; rfl
          have j4k : (Tryz.prog.info? 27).map (·.size) = some (arrV ks).size := by rw [arr_size, hKO.1]; exact fourInfo
          have k4k : (#[.int .i64 0, .int .i64 0, .int .i64 0, .int .i64 0] : Array Value).size = (arrV ks).size := by rw [arr_size, hKO.1]; rfl
          clear hus hro hpu hwe hBO hls hks hd4 hbt hue hue2 hbits hpe hll4 hub hb0 hb1 hY0
          go_upto_region 13 with (fail)
          go_cut [12] from 49 (fun s12 wx => ∃ h : Nat, s12 = .pointer (some ⟨h, 0, none⟩) ∧ PartsW w wx B g ls' d4 (List.replicate 16 0) ∧ Blk wx h (arrV ks) 27 ∧ g < h)
          case first =>
            refine wp_region_held_drew (S := (fun W => PartsW w W B g ls' d4 (List.replicate 16 0))) (by kernel_rfl) hY.drew (fun hH => ?_)
            refine tk 0 hH (v := .agg (arrV ls')) (y := (yieldsIf_load_mid (by rfl) 27 (.tmp 2) rfl B 0 rfl (intsV ls') (.array 4 3) (fun _ h => h.lev.rangeAll) Tryz.underlying27 rfl il4)) (k := ?_)
            refine tk 1 hH (v := .string s) (y := .inl ⟨by rfl, fun w hS => by go_simp⟩) (k := ?_)
            refine tk 2 hH (v := .int .i64 s.size) (y := .inl ⟨by rfl, fun w hS => by go_simp⟩) (k := ?_)
            refine tk 3 hH (v := .pointer (some ⟨g, 0, none⟩)) (y := .inl ⟨by rfl, fun w hS => by go_simp⟩) (k := ?_)
            refine wpAnyH_ready (rs := [4, 7]) (by kernel_rfl) (by simp) ?_
            refine rc (h := fun K hK => ?_) (r := ?_)
            · go_simp
              refine (HUS.out _ hH.dec).mono ?_
              rintro e wq1 ⟨rfl, hbwq1⟩
              go_wp2_with fail
              refine hK.out _ _ (hH.below (hbwq1.below (fun _ h => h.elim) (Nat.le_refl _))) (fun hH => ?_)
              clear hK K
              try simp only [Act.put, sa, List.set_cons_zero, List.set_cons_succ]
              refine wpAnyH_ready (rs := [5, 7]) (by kernel_rfl) (by simp) ?_
              refine rc (h := fun K hK => ?_) (r := ?_)
              · go_simp
                refine (HRO.out _).mono ?_
                rintro e wq2 ⟨rfl, rfl⟩
                go_wp2_with fail
                refine hK.out _ _ hH (fun hH => ?_)
                clear hK K
                try simp only [Act.put, sa, List.set_cons_zero, List.set_cons_succ]
                refine wpAnyH_ready (rs := [6, 7]) (by kernel_rfl) (by simp) ?_
                refine rc (h := fun K hK => ?_) (r := ?_)
                · go_simp
                  refine (HPU.out _ hH.bands).mono ?_
                  rintro e wq3 ⟨rfl, hbwq3⟩
                  go_wp2_with fail
                  refine hK.out _ _ (hH.below hbwq3) (fun hH => ?_)
                  clear hK K
                  try simp only [Act.put, sa, List.set_cons_zero, List.set_cons_succ]
                  refine wpAnyH_ready (rs := [7]) (by kernel_rfl) (by simp) ?_
                  refine rc (h := fun K hK => ?_) (r := AllReadyH.nil)
                  go_simp
                  have hNwq4 := Blk.new wq3 #[.int .i64 0, .int .i64 0, .int .i64 0, .int .i64 0] 27
                  have hswq4 := hH.glt
                  refine hK.out _ _ (hH.alloc _) (fun hH => ?_)
                  clear hK K
                  try simp only [Act.put, sa, List.set_cons_zero, List.set_cons_succ]
                  refine wpAnyH_ready (rs := [8]) (by kernel_rfl) (by simp) ?_
                  refine rc (h := fun K hK => ?_) (r := AllReadyH.nil)
                  have hglt : g < wq3.heap.size := by first | assumption | (simpa using hH.glt)
                  refine wp_store_blk 27 (.tmp 12) (.tmp 55) rfl wq3.heap.size _ (arrV ks) rfl rfl 27 hNwq4 j4k k4k (arr_one _) ?_
                  refine hK.out _ _ (hH.setRow (g2 := wq3.heap.size) hgB hglt _) (fun hH => ?_)
                  clear hK K
                  try simp only [Act.put, sa, List.set_cons_zero, List.set_cons_succ]
                  refine wpAnyH_done (by kernel_rfl) ?_ _
                  go_wp2_with fail
                  go_meet
                  case rel => exact ⟨wq3.heap.size, rfl, hH, hNwq4.setRow, hglt⟩
                refine rc (h := fun K hK => ?_) (r := AllReadyH.nil)
                go_simp
                have hNwq5 := Blk.new wq1 #[.int .i64 0, .int .i64 0, .int .i64 0, .int .i64 0] 27
                have hswq5 := hH.glt
                refine hK.out _ _ (hH.alloc _) (fun hH => ?_)
                clear hK K
                try simp only [Act.put, sa, List.set_cons_zero, List.set_cons_succ]
                refine wpAnyH_ready (rs := [6]) (by kernel_rfl) (by simp) ?_
                refine rc (h := fun K hK => ?_) (r := AllReadyH.nil)
                go_simp
                refine (HPU.out _ hH.bands).mono ?_
                rintro e wq6 ⟨rfl, hbwq6⟩
                go_wp2_with fail
                refine hK.out _ _ (hH.below hbwq6) (fun hH => ?_)
                clear hK K
                try simp only [Act.put, sa, List.set_cons_zero, List.set_cons_succ]
                refine wpAnyH_ready (rs := [8]) (by kernel_rfl) (by simp) ?_
                refine rc (h := fun K hK => ?_) (r := AllReadyH.nil)
                have hglt : g < wq1.heap.size := by first | assumption | (simpa using hH.glt)
                refine wp_store_blk 27 (.tmp 12) (.tmp 55) rfl wq1.heap.size _ (arrV ks) rfl rfl 27 ((hNwq5).newB hbwq6) j4k k4k (arr_one _) ?_
                refine hK.out _ _ (hH.setRow (g2 := wq1.heap.size) hgB hglt _) (fun hH => ?_)
                clear hK K
                try simp only [Act.put, sa, List.set_cons_zero, List.set_cons_succ]
                refine wpAnyH_done (by kernel_rfl) ?_ _
                go_wp2_with fail
                go_meet
                case rel => exact ⟨wq1.heap.size, rfl, hH, ((hNwq5).newB hbwq6).setRow, hglt⟩
              refine rc (h := fun K hK => ?_) (r := AllReadyH.nil)
              go_simp
              have hNwq7 := Blk.new wq1 #[.int .i64 0, .int .i64 0, .int .i64 0, .int .i64 0] 27
              have hswq7 := hH.glt
              refine hK.out _ _ (hH.alloc _) (fun hH => ?_)
              clear hK K
              try simp only [Act.put, sa, List.set_cons_zero, List.set_cons_succ]
              refine wpAnyH_ready (rs := [5]) (by kernel_rfl) (by simp) ?_
              refine rc (h := fun K hK => ?_) (r := AllReadyH.nil)
              go_simp
              refine (HRO.out _).mono ?_
              rintro e wq8 ⟨rfl, rfl⟩
              go_wp2_with fail
              refine hK.out _ _ hH (fun hH => ?_)
              clear hK K
              try simp only [Act.put, sa, List.set_cons_zero, List.set_cons_succ]
              refine wpAnyH_ready (rs := [6]) (by kernel_rfl) (by simp) ?_
              refine rc (h := fun K hK => ?_) (r := AllReadyH.nil)
              go_simp
              refine (HPU.out _ hH.bands).mono ?_
              rintro e wq9 ⟨rfl, hbwq9⟩
              go_wp2_with fail
              refine hK.out _ _ (hH.below hbwq9) (fun hH => ?_)
              clear hK K
              try simp only [Act.put, sa, List.set_cons_zero, List.set_cons_succ]
              refine wpAnyH_ready (rs := [8]) (by kernel_rfl) (by simp) ?_
              refine rc (h := fun K hK => ?_) (r := AllReadyH.nil)
              have hglt : g < wq1.heap.size := by first | assumption | (simpa using hH.glt)
              refine wp_store_blk 27 (.tmp 12) (.tmp 55) rfl wq1.heap.size _ (arrV ks) rfl rfl 27 ((hNwq7).newB hbwq9) j4k k4k (arr_one _) ?_
              refine hK.out _ _ (hH.setRow (g2 := wq1.heap.size) hgB hglt _) (fun hH => ?_)
              clear hK K
              try simp only [Act.put, sa, List.set_cons_zero, List.set_cons_succ]
              refine wpAnyH_done (by kernel_rfl) ?_ _
              go_wp2_with fail
              go_meet
              case rel => exact ⟨wq1.heap.size, rfl, hH, ((hNwq7).newB hbwq9).setRow, hglt⟩
            refine rc (h := fun K hK => ?_) (r := AllReadyH.nil)
            go_simp
            have hNwq10 := Blk.new wr.drew #[.int .i64 0, .int .i64 0, .int .i64 0, .int .i64 0] 27
            have hswq10 := hH.glt
            refine hK.out _ _ (hH.alloc _) (fun hH => ?_)
            clear hK K
            try simp only [Act.put, sa, List.set_cons_zero, List.set_cons_succ]
            refine wpAnyH_ready (rs := [4]) (by kernel_rfl) (by simp) ?_
            refine rc (h := fun K hK => ?_) (r := AllReadyH.nil)
            go_simp
            refine (HUS.out _ hH.dec).mono ?_
            rintro e wq11 ⟨rfl, hbwq11⟩
            go_wp2_with fail
            refine hK.out _ _ (hH.below (hbwq11.below (fun _ h => h.elim) (Nat.le_refl _))) (fun hH => ?_)
            clear hK K
            try simp only [Act.put, sa, List.set_cons_zero, List.set_cons_succ]
            refine wpAnyH_ready (rs := [5]) (by kernel_rfl) (by simp) ?_
            refine rc (h := fun K hK => ?_) (r := AllReadyH.nil)
            go_simp
            refine (HRO.out _).mono ?_
            rintro e wq12 ⟨rfl, rfl⟩
            go_wp2_with fail
            refine hK.out _ _ hH (fun hH => ?_)
            clear hK K
            try simp only [Act.put, sa, List.set_cons_zero, List.set_cons_succ]
            refine wpAnyH_ready (rs := [6]) (by kernel_rfl) (by simp) ?_
            refine rc (h := fun K hK => ?_) (r := AllReadyH.nil)
            go_simp
            refine (HPU.out _ hH.bands).mono ?_
            rintro e wq13 ⟨rfl, hbwq13⟩
            go_wp2_with fail
            refine hK.out _ _ (hH.below hbwq13) (fun hH => ?_)
            clear hK K
            try simp only [Act.put, sa, List.set_cons_zero, List.set_cons_succ]
            refine wpAnyH_ready (rs := [8]) (by kernel_rfl) (by simp) ?_
            refine rc (h := fun K hK => ?_) (r := AllReadyH.nil)
            have hglt : g < wr.heap.size := by first | assumption | (simpa using hH.glt)
            refine wp_store_blk 27 (.tmp 12) (.tmp 55) rfl wr.heap.size _ (arrV ks) rfl rfl 27 ((((hNwq10).newB (hbwq11.below (fun _ h => h.elim) (Nat.le_refl _)))).newB hbwq13) j4k k4k (arr_one _) ?_
            refine hK.out _ _ (hH.setRow (g2 := wr.heap.size) hgB hglt _) (fun hH => ?_)
            clear hK K
            try simp only [Act.put, sa, List.set_cons_zero, List.set_cons_succ]
            refine wpAnyH_done (by kernel_rfl) ?_ _
            go_wp2_with fail
            go_meet
            case rel => exact ⟨wr.heap.size, rfl, hH, ((((hNwq10).newB (hbwq11.below (fun _ h => h.elim) (Nat.le_refl _)))).newB hbwq13).setRow, hglt⟩
          case rest =>
            obtain ⟨h, rfl, hY, hPul, hgh⟩ := hcut
            have hlr := hY.lev.rangeAll
            have hidx := fun k (hk : k < 4) (w : World) => run_index_arr 27 4 ls' hLO.1 Tryz.underlying27 k hk w
            have HI := Lib.hid hidx
            clear hidx
            go_wp2_with (first | (refine wpList_load_mid rfl 27 (.tmp 2) rfl B 0 rfl (intsV ls') (.array 4 3) hlr Tryz.underlying27 rfl il4 ?_))
            go_loopw [59] (fun i wr => ∃ b : Nat, b ≤ 4 ∧ i = .int .i64 b ∧ PartsW w wr B g ls' (bandsS d4 ls' ks b).1 (bandsS d4 ls' ks b).2 ∧ Blk wr h (arrV ks) 27) (fun i _ => 4 - (intOf i).toNat)
            case atStart => exact ⟨0, by omega, rfl, hY, hPul⟩
            case round =>
              obtain ⟨b, hb, rfl, hY, hPul⟩ := hrel
              have hbo := HBO.out b hb
              by_cases hlt : b < 4
              · have hi := HI.out b hlt
                obtain ⟨l0, l1⟩ := hLO.get hlt
                have hk8 := hKO.2 b hlt
                have hkc := arr_get (l := ks) (n := b) (by rw [hKO.1]; exact hlt)
                have hnx : bandsS d4 ls' ks (b + 1) = (bandD (bandsS d4 ls' ks b).1 b (ks.getD b 0).toNat, putL (bandsS d4 ls' ks b).2 (offN b) (bandV (bandsS d4 ls' ks b).1 b (ls'.getD b 0).toNat (ks.getD b 0).toNat)) := rfl
                obtain ⟨lev, hlev⟩ : ∃ n : Nat, ls'.getD b 0 = n := ⟨(ls'.getD b 0).toNat, by omega⟩
                obtain ⟨k, hk⟩ : ∃ n : Nat, ks.getD b 0 = n := ⟨(ks.getD b 0).toNat, by omega⟩
                rw [hlev] at hi l0 l1 hnx
                rw [hk] at hk8 hkc hnx
                simp only [Int.toNat_natCast] at hnx
                have hband := fun w hW hB => band_all g hbo.dec (by omega) b lev k hlt (by omega) (by omega) (by omega) w hW hB
                have hput := fun v w hR hW => LPut_any _ hbo.len b hlt (bandV (bandsS d4 ls' ks b).1 b lev k) (bandV_len _ _ _ _) v w hR hW
                have hpl : (putL (bandsS d4 ls' ks b).2 (offN b) (bandV (bandsS d4 ls' ks b).1 b lev k)).length = 16 := by
                  rw [putL_len (by rw [bandV_len, hbo.len]; exact off_fits b hlt), hbo.len]
                have hwl := hbo.len
                obtain ⟨wv2, hwv2⟩ : ∃ l, putL (bandsS d4 ls' ks b).2 (offN b) (bandV (bandsS d4 ls' ks b).1 b lev k) = l := ⟨_, rfl⟩
                rw [hwv2] at hnx hpl
                simp only [hwv2] at hput
                obtain ⟨bv, hbv⟩ : ∃ l, bandV (bandsS d4 ls' ks b).1 b lev k = l := ⟨_, rfl⟩
                simp only [hbv] at hput hband
                obtain ⟨dd2, hdd2⟩ : ∃ d, bandD (bandsS d4 ls' ks b).1 b k = d := ⟨_, rfl⟩
                rw [hdd2] at hnx
                simp only [hdd2] at hband
                obtain ⟨wv, hwv⟩ : ∃ l, (bandsS d4 ls' ks b).2 = l := ⟨_, rfl⟩
                obtain ⟨dd, hdd⟩ : ∃ d, (bandsS d4 ls' ks b).1 = d := ⟨_, rfl⟩
                rw [hwv] at hY hwl
                rw [hdd] at hY
                simp only [hwv] at hput
                simp only [hdd] at hband
                have iwv : (Tryz.prog.info? 26).map (·.size) = some (intsV wv).length := by rw [List.length_map, hwl]; exact blockInfo
                have j16w : (Tryz.prog.info? 26).map (·.size) = some (arrV wv2).size := by rw [arr_size, hpl]; exact blockInfo
                have k16w : (arrV wv).size = (arrV wv2).size := by rw [arr_size, arr_size, hwl, hpl]
                have HBAND := Lib.hid hband
                have HPUT := Lib.hid hput
                have HNX := Lib.hid hnx
                have HKC := Lib.hid hkc
                clear hband hput hnx hkc hwv2 hbv hdd2 hwv hdd hlev hk hbo
                go_upto_region 18 with (fail)
                refine wp_region_any (by kernel_rfl) ?_
                show wpAny _ _ _ _ _ _ _ wr.drew
                refine wpAny_take (i := 1) (oi := { dst := some 64, op := Op.move (Operand.tmp 14), type := 3, pos := "dec.go:47", after := _, guard := none }) (v := .int .i64 b) rfl (by kernel_rfl) (by kernel_rfl) (by kernel_rfl) (fun _ _ _ h => h) (Or.inl ⟨by rfl, fun w => by go_simp⟩) ?_
                try simp only [Act.put, sa, List.set_cons_zero, List.set_cons_succ]
                refine wpAny_take (i := 2) (oi := { dst := some 65, op := Op.move (Operand.tmp 13), type := 111, pos := "dec.go:47", after := _, guard := none }) (v := .func (.func 65) #[.pointer (some ⟨g, 0, none⟩)] #[]) rfl (by kernel_rfl) (by kernel_rfl) (by kernel_rfl) (fun _ _ _ h => h) (Or.inl ⟨by rfl, fun w => by go_simp⟩) ?_
                try simp only [Act.put, sa, List.set_cons_zero, List.set_cons_succ]
                refine wpAny_take (i := 3) (oi := { dst := some 66, op := Op.move (Operand.tmp 14), type := 3, pos := "dec.go:47", after := _, guard := none }) (v := .int .i64 b) rfl (by kernel_rfl) (by kernel_rfl) (by kernel_rfl) (fun _ _ _ h => h) (Or.inl ⟨by rfl, fun w => by go_simp⟩) ?_
                try simp only [Act.put, sa, List.set_cons_zero, List.set_cons_succ]
                refine wpAny_take (i := 4) (oi := { dst := some 67, op := Op.move (Operand.tmp 15), type := 3, pos := "dec.go:47", after := _, guard := none }) (v := .int .i64 lev) rfl (by kernel_rfl) (by kernel_rfl) (by kernel_rfl) (fun _ _ _ h => h) (Or.inl ⟨by rfl, fun w => by go_simp⟩) ?_
                try simp only [Act.put, sa, List.set_cons_zero, List.set_cons_succ]
                refine wpAny_take (i := 5) (oi := { dst := some 68, op := Op.move (Operand.tmp 14), type := 3, pos := "dec.go:47", after := _, guard := none }) (v := .int .i64 b) rfl (by kernel_rfl) (by kernel_rfl) (by kernel_rfl) (fun _ _ _ h => h) (Or.inl ⟨by rfl, fun w => by go_simp⟩) ?_
                try simp only [Act.put, sa, List.set_cons_zero, List.set_cons_succ]
                refine wpAny_take (i := 6) (oi := { dst := some 69, op := Op.indexAddr 27 (Operand.tmp 12) (Operand.tmp 68), type := 0, pos := "dec.go:47", after := _, guard := none }) (v := .pointer (some ⟨h, b, none⟩)) rfl (by kernel_rfl) (by kernel_rfl) (by kernel_rfl) (fun _ _ _ h => h) (Or.inl ⟨by rfl, fun w => by go_simp⟩) ?_
                try simp only [Act.put, sa, List.set_cons_zero, List.set_cons_succ]
                refine wpAny_ready (rs := [0, 7]) (by kernel_rfl) (by simp) ?_
                refine AllReady.cons (o := { dst := some 63, op := Op.load 26 (Operand.tmp 7), type := 26, pos := "dec.go:47", after := _, guard := none }) rfl (fun K hK => ?_) ?_
                · rw [if_pos (by rfl)]
                  refine wp_load_mid 26 (.tmp 7) rfl (B + 3) 0 rfl (intsV wv) (.array 16 3) hY.drew.wav.rangeAll Tryz.underlying26 rfl iwv ?_
                  first | (refine hK _ _ ?_) | skip
                  try clear hK K
                  try simp only [Act.put, sa, List.set_cons_zero, List.set_cons_succ]
                  refine wpAny_ready (rs := [7]) (by kernel_rfl) (by simp) ?_
                  refine AllReady.cons (o := { dst := some 70, op := Op.load 3 (Operand.tmp 69), type := 3, pos := "dec.go:47", after := _, guard := none }) rfl (fun K hK => ?_) AllReady.nil
                  rw [if_pos (by rfl)]
                  have cH := (hPul.drew.cell b).trans HKC.out
                  go_simp
                  first | (refine hK _ _ ?_) | skip
                  try clear hK K
                  try simp only [Act.put, sa, List.set_cons_zero, List.set_cons_succ]
                  refine wpAny_ready (rs := [8]) (by kernel_rfl) (by simp) ?_
                  refine AllReady.cons (o := { dst := some 71, op := Op.call { callee := Callee.value (Operand.func 67), args := #[Operand.tmp 65, Operand.tmp 66, Operand.tmp 67, Operand.tmp 70], argTypes := #[111, 3, 3, 3] }, type := 48, pos := "dec.go:47", after := _, guard := none }) rfl (fun K hK => ?_) AllReady.nil
                  rw [if_pos (by rfl)]
                  go_simp
                  refine (HBAND.out _ hY.drew.bands hY.drew.dec).mono ?_
                  rintro e wb1 ⟨v1, rfl, hR1, hB1, hK1, hF1⟩
                  have hY1 := hY.drew.keepG hgB hB1 hK1
                  have hP1 := hPul.drew.keep hK1 (by omega)
                  go_wp2_with fail
                  first | (refine hK _ _ ?_) | skip
                  try clear hK K
                  try simp only [Act.put, sa, List.set_cons_zero, List.set_cons_succ]
                  refine wpAny_ready (rs := [9]) (by kernel_rfl) (by simp) ?_
                  refine AllReady.cons (o := { dst := some 72, op := Op.call { callee := Callee.value (Operand.func 66), args := #[Operand.tmp 63, Operand.tmp 64, Operand.tmp 71], argTypes := #[26, 3, 48] }, type := 26, pos := "dec.go:47", after := _, guard := none }) rfl (fun K hK => ?_) AllReady.nil
                  rw [if_pos (by rfl)]
                  go_simp
                  refine (HPUT.out v1 _ hR1 hY1.bands).mono ?_
                  rintro e wp2 ⟨rfl, hbp2⟩
                  have hY2 := hY1.below hbp2
                  have hP2 := hP1.newB hbp2
                  go_wp2_with fail
                  first | (refine hK _ _ ?_) | skip
                  try clear hK K
                  try simp only [Act.put, sa, List.set_cons_zero, List.set_cons_succ]
                  refine wpAny_ready (rs := [10]) (by kernel_rfl) (by simp) ?_
                  refine AllReady.cons (o := { dst := none, op := Op.store 26 (Operand.tmp 7) (Operand.tmp 72), type := 0, pos := "dec.go:47", after := _, guard := none }) rfl (fun K hK => ?_) AllReady.nil
                  rw [if_pos (by rfl)]
                  refine wp_store_blk 26 (.tmp 7) (.tmp 72) rfl (B + 3) _ (arrV wv2) rfl rfl 26 hY2.wav j16w k16w (arr_one _) ?_
                  first | (refine hK _ _ ?_) | skip
                  try clear hK K
                  try simp only [Act.put, sa, List.set_cons_zero, List.set_cons_succ]
                  refine wpAny_done (by kernel_rfl) ?_ _
                  go_wp2_with fail
                  go_roundw
                  case rel => exact ⟨b + 1, hlt, by go_num, by rw [HNX.out]; exact hY2.setWav hgB trivial _, hP2.setRowOther (by omega)⟩
                  case measure => simp [intOf]; omega
                refine AllReady.cons (o := { dst := some 70, op := Op.load 3 (Operand.tmp 69), type := 3, pos := "dec.go:47", after := _, guard := none }) rfl (fun K hK => ?_) AllReady.nil
                rw [if_pos (by rfl)]
                have cH := (hPul.drew.cell b).trans HKC.out
                go_simp
                first | (refine hK _ _ ?_) | skip
                try clear hK K
                try simp only [Act.put, sa, List.set_cons_zero, List.set_cons_succ]
                refine wpAny_ready (rs := [0, 8]) (by kernel_rfl) (by simp) ?_
                refine AllReady.cons (o := { dst := some 63, op := Op.load 26 (Operand.tmp 7), type := 26, pos := "dec.go:47", after := _, guard := none }) rfl (fun K hK => ?_) ?_
                · rw [if_pos (by rfl)]
                  refine wp_load_mid 26 (.tmp 7) rfl (B + 3) 0 rfl (intsV wv) (.array 16 3) hY.drew.wav.rangeAll Tryz.underlying26 rfl iwv ?_
                  first | (refine hK _ _ ?_) | skip
                  try clear hK K
                  try simp only [Act.put, sa, List.set_cons_zero, List.set_cons_succ]
                  refine wpAny_ready (rs := [8]) (by kernel_rfl) (by simp) ?_
                  refine AllReady.cons (o := { dst := some 71, op := Op.call { callee := Callee.value (Operand.func 67), args := #[Operand.tmp 65, Operand.tmp 66, Operand.tmp 67, Operand.tmp 70], argTypes := #[111, 3, 3, 3] }, type := 48, pos := "dec.go:47", after := _, guard := none }) rfl (fun K hK => ?_) AllReady.nil
                  rw [if_pos (by rfl)]
                  go_simp
                  refine (HBAND.out _ hY.drew.bands hY.drew.dec).mono ?_
                  rintro e wb3 ⟨v3, rfl, hR3, hB3, hK3, hF3⟩
                  have hY3 := hY.drew.keepG hgB hB3 hK3
                  have hP3 := hPul.drew.keep hK3 (by omega)
                  go_wp2_with fail
                  first | (refine hK _ _ ?_) | skip
                  try clear hK K
                  try simp only [Act.put, sa, List.set_cons_zero, List.set_cons_succ]
                  refine wpAny_ready (rs := [9]) (by kernel_rfl) (by simp) ?_
                  refine AllReady.cons (o := { dst := some 72, op := Op.call { callee := Callee.value (Operand.func 66), args := #[Operand.tmp 63, Operand.tmp 64, Operand.tmp 71], argTypes := #[26, 3, 48] }, type := 26, pos := "dec.go:47", after := _, guard := none }) rfl (fun K hK => ?_) AllReady.nil
                  rw [if_pos (by rfl)]
                  go_simp
                  refine (HPUT.out v3 _ hR3 hY3.bands).mono ?_
                  rintro e wp4 ⟨rfl, hbp4⟩
                  have hY4 := hY3.below hbp4
                  have hP4 := hP3.newB hbp4
                  go_wp2_with fail
                  first | (refine hK _ _ ?_) | skip
                  try clear hK K
                  try simp only [Act.put, sa, List.set_cons_zero, List.set_cons_succ]
                  refine wpAny_ready (rs := [10]) (by kernel_rfl) (by simp) ?_
                  refine AllReady.cons (o := { dst := none, op := Op.store 26 (Operand.tmp 7) (Operand.tmp 72), type := 0, pos := "dec.go:47", after := _, guard := none }) rfl (fun K hK => ?_) AllReady.nil
                  rw [if_pos (by rfl)]
                  refine wp_store_blk 26 (.tmp 7) (.tmp 72) rfl (B + 3) _ (arrV wv2) rfl rfl 26 hY4.wav j16w k16w (arr_one _) ?_
                  first | (refine hK _ _ ?_) | skip
                  try clear hK K
                  try simp only [Act.put, sa, List.set_cons_zero, List.set_cons_succ]
                  refine wpAny_done (by kernel_rfl) ?_ _
                  go_wp2_with fail
                  go_roundw
                  case rel => exact ⟨b + 1, hlt, by go_num, by rw [HNX.out]; exact hY4.setWav hgB trivial _, hP4.setRowOther (by omega)⟩
                  case measure => simp [intOf]; omega
                refine AllReady.cons (o := { dst := some 71, op := Op.call { callee := Callee.value (Operand.func 67), args := #[Operand.tmp 65, Operand.tmp 66, Operand.tmp 67, Operand.tmp 70], argTypes := #[111, 3, 3, 3] }, type := 48, pos := "dec.go:47", after := _, guard := none }) rfl (fun K hK => ?_) AllReady.nil
                rw [if_pos (by rfl)]
                go_simp
                refine (HBAND.out _ hY.drew.bands hY.drew.dec).mono ?_
                rintro e wb5 ⟨v5, rfl, hR5, hB5, hK5, hF5⟩
                have hY5 := hY.drew.keepG hgB hB5 hK5
                have hP5 := hPul.drew.keep hK5 (by omega)
                go_wp2_with fail
                first | (refine hK _ _ ?_) | skip
                try clear hK K
                try simp only [Act.put, sa, List.set_cons_zero, List.set_cons_succ]
                refine wpAny_ready (rs := [0]) (by kernel_rfl) (by simp) ?_
                refine AllReady.cons (o := { dst := some 63, op := Op.load 26 (Operand.tmp 7), type := 26, pos := "dec.go:47", after := _, guard := none }) rfl (fun K hK => ?_) AllReady.nil
                rw [if_pos (by rfl)]
                refine wp_load_mid 26 (.tmp 7) rfl (B + 3) 0 rfl (intsV wv) (.array 16 3) hY5.wav.rangeAll Tryz.underlying26 rfl iwv ?_
                first | (refine hK _ _ ?_) | skip
                try clear hK K
                try simp only [Act.put, sa, List.set_cons_zero, List.set_cons_succ]
                refine wpAny_ready (rs := [9]) (by kernel_rfl) (by simp) ?_
                refine AllReady.cons (o := { dst := some 72, op := Op.call { callee := Callee.value (Operand.func 66), args := #[Operand.tmp 63, Operand.tmp 64, Operand.tmp 71], argTypes := #[26, 3, 48] }, type := 26, pos := "dec.go:47", after := _, guard := none }) rfl (fun K hK => ?_) AllReady.nil
                rw [if_pos (by rfl)]
                go_simp
                refine (HPUT.out v5 _ hR5 hY5.bands).mono ?_
                rintro e wp6 ⟨rfl, hbp6⟩
                have hY6 := hY5.below hbp6
                have hP6 := hP5.newB hbp6
                go_wp2_with fail
                first | (refine hK _ _ ?_) | skip
                try clear hK K
                try simp only [Act.put, sa, List.set_cons_zero, List.set_cons_succ]
                refine wpAny_ready (rs := [10]) (by kernel_rfl) (by simp) ?_
                refine AllReady.cons (o := { dst := none, op := Op.store 26 (Operand.tmp 7) (Operand.tmp 72), type := 0, pos := "dec.go:47", after := _, guard := none }) rfl (fun K hK => ?_) AllReady.nil
                rw [if_pos (by rfl)]
                refine wp_store_blk 26 (.tmp 7) (.tmp 72) rfl (B + 3) _ (arrV wv2) rfl rfl 26 hY6.wav j16w k16w (arr_one _) ?_
                first | (refine hK _ _ ?_) | skip
                try clear hK K
                try simp only [Act.put, sa, List.set_cons_zero, List.set_cons_succ]
                refine wpAny_done (by kernel_rfl) ?_ _
                go_wp2_with fail
                go_roundw
                case rel => exact ⟨b + 1, hlt, by go_num, by rw [HNX.out]; exact hY6.setWav hgB trivial _, hP6.setRowOther (by omega)⟩
                case measure => simp [intOf]; omega
              · obtain rfl : b = 4 := by omega
                have hwl := hbo.len
                obtain ⟨wv, hwv⟩ : ∃ l, (bandsS d4 ls' ks 4).2 = l := ⟨_, rfl⟩
                obtain ⟨dd, hdd⟩ : ∃ d, (bandsS d4 ls' ks 4).1 = d := ⟨_, rfl⟩
                rw [hwv] at hY hwl
                rw [hdd] at hY
                have HO1 := Lib.hid (show O1 = ls' by rw [HP1.out, HLS.out])
                have HO2 := Lib.hid (show O2 = wv by rw [HP2.out, HWE.out, hwv])
                have iwv : (Tryz.prog.info? 26).map (·.size) = some (intsV wv).length := by rw [List.length_map, hwl]; exact blockInfo
                have jwv : (Tryz.prog.info? 26).map (·.size) = some (arrV wv).size := by rw [arr_size, hwl]; exact blockInfo
                have kwv : (arrV (List.replicate 16 0)).size = (arrV wv).size := by rw [arr_size, arr_size, hwl]; rfl
                clear hwv hdd hbo
                go_upto_region 20 with (fail)
                refine wp_region_held_drew (S := (fun W => Blk W B (arrV ls') 27 ∧ Blk W (B + 3) (arrV wv) 26)) (by kernel_rfl) ⟨hY.lev.drew, hY.wav.drew⟩ (fun hH => ?_)
                refine tk 0 hH (v := .agg (arrV ls')) (y := (yieldsIf_load_mid (by rfl) 27 (.tmp 2) rfl B 0 rfl (intsV ls') (.array 4 3) (fun _ h => h.1.rangeAll) Tryz.underlying27 rfl il4)) (k := ?_)
                refine tk 1 hH (v := .agg (arrV wv)) (y := (yieldsIf_load_mid (by rfl) 26 (.tmp 7) rfl (B + 3) 0 rfl (intsV wv) (.array 16 3) (fun _ h => h.2.rangeAll) Tryz.underlying26 rfl iwv)) (k := ?_)
                refine wpAnyH_ready (rs := [2]) (by kernel_rfl) (by simp) ?_
                refine rc (h := fun K hK => ?_) (r := AllReadyH.nil)
                refine wp_store_blk 27 (.tmp 4) (.tmp 74) rfl (B + 1) _ (arrV ls') rfl rfl 27 hY.r1.drew jl4 kl4 (arr_one _) ?_
                refine hK.out _ _ ⟨hH.1.setRowOther (by omega), hH.2.setRowOther (by omega)⟩ (fun hH => ?_)
                clear hK K
                try simp only [Act.put, sa, List.set_cons_zero, List.set_cons_succ]
                refine wpAnyH_ready (rs := [3]) (by kernel_rfl) (by simp) ?_
                refine rc (h := fun K hK => ?_) (r := AllReadyH.nil)
                refine wp_store_blk 26 (.tmp 5) (.tmp 75) rfl (B + 2) _ (arrV wv) rfl rfl 26 (hY.r2.drew.setRowOther (by omega)) jwv kwv (arr_one _) ?_
                refine hK.out _ _ ⟨hH.1.setRowOther (by omega), hH.2.setRowOther (by omega)⟩ (fun hH => ?_)
                clear hK K
                try simp only [Act.put, sa, List.set_cons_zero, List.set_cons_succ]
                refine tk 4 hH (v := .int .i64 0) (y := .inl ⟨by rfl, fun w hS => by go_simp⟩) (k := ?_)
                refine wpAnyH_done (by kernel_rfl) ?_ _
                go_wp2_with fail
                have hfin := Below.setRow (Below.setRow hY.far.drew (g := B + 1) (by omega) (arrV ls')) (g := B + 2) (by omega) (arrV wv)
                exact bodyPost_ret (v := .tuple #[.agg (arrV ls'), .agg (arrV wv), .int .i64 0]) (results_cct Tryz.results34 _ _ (B + 1) (B + 2) 27 26 _ _ (.array 4 3) (.array 16 3) _ rfl ((hY.r1.drew.setRow (new := arrV ls')).setRowOther (by omega)) Tryz.underlying27 rfl jl4 rfl (hY.r2.drew.setRowOther (by omega)).setRow Tryz.underlying26 rfl jwv rfl) rfl ⟨by rw [HO1.out, HO2.out, HE.out], by first | exact hfin | (rw [hB]; exact hfin)⟩
end Go.Proofs.YtkoljgmapclhkaaGreatDoor

namespace Go.Proofs.YtkoljgmapclhkaaGreatDoor
open Go.RowKit

/-- What makes a state right. -/
theorem right_mk {ls wv : List Int} (h1 : LevelsOk ls) (h2 : wv.length = 16) (h3 : wv.any wideP = false) {lost : Int} (h4 : 0 ≤ lost) (h5 : lost ≤ 255) : rightS (mkSt ls wv lost) = true := by
  have hall : ls.all levP = true := List.all_eq_true.2 (fun x hx => by have := h1.2 x hx; simp [levP]; omega)
  obtain ⟨hlen, _⟩ := h1
  match ls, hlen with
  | [a, b, c, d], _ =>
    match wv, h2 with
    | [x0, x1, x2, x3, x4, x5, x6, x7, x8, x9, x10, x11, x12, x13, x14, x15], _ =>
      have e1 : memL (mkSt [a, b, c, d] [x0, x1, x2, x3, x4, x5, x6, x7, x8, x9, x10, x11, x12, x13, x14, x15] lost) = List.replicate 16 0 := rfl
      have e2 : levL (mkSt [a, b, c, d] [x0, x1, x2, x3, x4, x5, x6, x7, x8, x9, x10, x11, x12, x13, x14, x15] lost) = [a, b, c, d] := rfl
      have e3 : lastL (mkSt [a, b, c, d] [x0, x1, x2, x3, x4, x5, x6, x7, x8, x9, x10, x11, x12, x13, x14, x15] lost) = 0 := rfl
      have e4 : wavL (mkSt [a, b, c, d] [x0, x1, x2, x3, x4, x5, x6, x7, x8, x9, x10, x11, x12, x13, x14, x15] lost) = [x0, x1, x2, x3, x4, x5, x6, x7, x8, x9, x10, x11, x12, x13, x14, x15] := rfl
      have e5 : lostL (mkSt [a, b, c, d] [x0, x1, x2, x3, x4, x5, x6, x7, x8, x9, x10, x11, x12, x13, x14, x15] lost) = lost := rfl
      unfold rightS
      rw [e1, e2, e3, e4, e5, h3, hall]
      have f1 : (List.replicate 16 (0 : Int)).all fitP = true := by decide
      have f3 : (Sp.cut 22 0 == 0) = true := by decide
      rw [f1, f3]
      simp [h4, h5]
theorem right_levs {L : List Int} (h : rightS L = true) : (levL L).all levP = true := by
  unfold rightS at h
  simp only [Bool.and_eq_true] at h
  exact h.1.1.1.1.2
def decE (L : List Int) (s : ByteArray) : Int := if 10 ≤ s.size ∧ s.size ≤ 32 then (if rightS L = true then 0 else 1) else 10
def decO (L : List Int) (s : ByteArray) : List Int := if decE L s = 0 then soundL (nextO L (wavS s (levL L))) else List.replicate 16 0
def decSt (L : List Int) (s : ByteArray) : List Int := if decE L s = 0 then nextSt L (levsS s (levL L)) (wavS s (levL L)) 0 else List.replicate 38 0
set_option maxRecDepth 100000 in
set_option maxHeartbeats 4000000 in
theorem Decode_any (L : List Int) (hL : L.length = 38) (s : ByteArray) (w : World) (hW : BandsW w) :
    Calls Tryz.prog 11 #[.agg (arrV L), .string s] w fun e w' => e = .returned (.tuple #[.agg (arrV (decO L s)), .agg (arrV (decSt L s)), .int .i64 (decE L s)]) ∧ Below w.heap.size w w' := by
  obtain ⟨hA, hR1, hR2, hfar, hs0⟩ := three_new w (arrV L) #[.int .i64 0, .int .i64 0, .int .i64 0, .int .i64 0, .int .i64 0, .int .i64 0, .int .i64 0, .int .i64 0, .int .i64 0, .int .i64 0, .int .i64 0, .int .i64 0, .int .i64 0, .int .i64 0, .int .i64 0, .int .i64 0] (List.toArray (Value.int .i64 0 :: Value.int .i64 0 :: Value.int .i64 0 :: Value.int .i64 0 :: Value.int .i64 0 :: Value.int .i64 0 :: Value.int .i64 0 :: Value.int .i64 0 :: Value.int .i64 0 :: Value.int .i64 0 :: Value.int .i64 0 :: Value.int .i64 0 :: Value.int .i64 0 :: Value.int .i64 0 :: Value.int .i64 0 :: Value.int .i64 0 :: Value.int .i64 0 :: Value.int .i64 0 :: Value.int .i64 0 :: Value.int .i64 0 :: Value.int .i64 0 :: Value.int .i64 0 :: Value.int .i64 0 :: Value.int .i64 0 :: Value.int .i64 0 :: Value.int .i64 0 :: Value.int .i64 0 :: Value.int .i64 0 :: Value.int .i64 0 :: Value.int .i64 0 :: Value.int .i64 0 :: Value.int .i64 0 :: Value.int .i64 0 :: Value.int .i64 0 :: Value.int .i64 0 :: Value.int .i64 0 :: Value.int .i64 0 :: Value.int .i64 0 :: [])) 29 26 29
  have hW0 : BandsW (((w.alloc (.cells (arrV L) 29)).alloc (.cells #[.int .i64 0, .int .i64 0, .int .i64 0, .int .i64 0, .int .i64 0, .int .i64 0, .int .i64 0, .int .i64 0, .int .i64 0, .int .i64 0, .int .i64 0, .int .i64 0, .int .i64 0, .int .i64 0, .int .i64 0, .int .i64 0] 26)).alloc (.cells (List.toArray (Value.int .i64 0 :: Value.int .i64 0 :: Value.int .i64 0 :: Value.int .i64 0 :: Value.int .i64 0 :: Value.int .i64 0 :: Value.int .i64 0 :: Value.int .i64 0 :: Value.int .i64 0 :: Value.int .i64 0 :: Value.int .i64 0 :: Value.int .i64 0 :: Value.int .i64 0 :: Value.int .i64 0 :: Value.int .i64 0 :: Value.int .i64 0 :: Value.int .i64 0 :: Value.int .i64 0 :: Value.int .i64 0 :: Value.int .i64 0 :: Value.int .i64 0 :: Value.int .i64 0 :: Value.int .i64 0 :: Value.int .i64 0 :: Value.int .i64 0 :: Value.int .i64 0 :: Value.int .i64 0 :: Value.int .i64 0 :: Value.int .i64 0 :: Value.int .i64 0 :: Value.int .i64 0 :: Value.int .i64 0 :: Value.int .i64 0 :: Value.int .i64 0 :: Value.int .i64 0 :: Value.int .i64 0 :: Value.int .i64 0 :: Value.int .i64 0 :: [])) 29)) := Blk.alloc (Blk.alloc (Blk.alloc hW _) _) _
  have hW1 := hW.lt
  obtain ⟨B, hB⟩ : ∃ B, w.heap.size = B := ⟨_, rfl⟩
  rw [hB] at hW1
  have z16i : (Tryz.prog.info? 26).map (·.size) = some (arrV (List.replicate 16 0)).size := by rw [arr_size]; exact blockInfo
  have z38i : (Tryz.prog.info? 29).map (·.size) = some (arrV (List.replicate 38 0)).size := by rw [arr_size]; exact stateInfo
  have iL : (Tryz.prog.info? 29).map (·.size) = some (intsV L).length := by rw [List.length_map, hL]; exact stateInfo
  have hmay := fun w => dmay_any s w
  have hRt := fun w => Right_any L hL w
  obtain ⟨O1, hO1⟩ : ∃ O, decO L s = O := ⟨_, rfl⟩
  obtain ⟨O2, hO2⟩ : ∃ O, decSt L s = O := ⟨_, rfl⟩
  obtain ⟨E, hE⟩ : ∃ E, decE L s = E := ⟨_, rfl⟩
  rw [hO1, hO2, hE]
  have HO1' := Lib.hid hO1
  have HO2' := Lib.hid hO2
  have HE' := Lib.hid hE
  have HMAY := Lib.hid hmay
  have HRT := Lib.hid hRt
  clear hO1 hO2 hE hmay hRt
  go_enter Tryz.func11, Tryz.ntmps11
  go_upto_region 1 with (fail)
  simp only [hB] at hA hR1 hR2 hfar hs0 ⊢
  revert hA hR1 hR2 hfar hs0 hW0
  generalize (((w.alloc (.cells (arrV L) 29)).alloc (.cells #[.int .i64 0, .int .i64 0, .int .i64 0, .int .i64 0, .int .i64 0, .int .i64 0, .int .i64 0, .int .i64 0, .int .i64 0, .int .i64 0, .int .i64 0, .int .i64 0, .int .i64 0, .int .i64 0, .int .i64 0, .int .i64 0] 26)).alloc (.cells (List.toArray (Value.int .i64 0 :: Value.int .i64 0 :: Value.int .i64 0 :: Value.int .i64 0 :: Value.int .i64 0 :: Value.int .i64 0 :: Value.int .i64 0 :: Value.int .i64 0 :: Value.int .i64 0 :: Value.int .i64 0 :: Value.int .i64 0 :: Value.int .i64 0 :: Value.int .i64 0 :: Value.int .i64 0 :: Value.int .i64 0 :: Value.int .i64 0 :: Value.int .i64 0 :: Value.int .i64 0 :: Value.int .i64 0 :: Value.int .i64 0 :: Value.int .i64 0 :: Value.int .i64 0 :: Value.int .i64 0 :: Value.int .i64 0 :: Value.int .i64 0 :: Value.int .i64 0 :: Value.int .i64 0 :: Value.int .i64 0 :: Value.int .i64 0 :: Value.int .i64 0 :: Value.int .i64 0 :: Value.int .i64 0 :: Value.int .i64 0 :: Value.int .i64 0 :: Value.int .i64 0 :: Value.int .i64 0 :: Value.int .i64 0 :: Value.int .i64 0 :: [])) 29)) = w0
  intro hW0 hA hR1 hR2 hfar hs0
  rw [zero16] at hR1
  rw [zero38] at hR2
  go_wp2_with fail
  refine (HMAY.out _).mono ?_
  rintro e w1 ⟨rfl, rfl⟩
  by_cases hsz : 10 ≤ s.size ∧ s.size ≤ 32
  case neg =>
    have HE := Lib.hid (show E = 10 by rw [← HE'.out]; unfold decE; rw [if_neg hsz])
    have HO1 := Lib.hid (show O1 = List.replicate 16 0 by rw [← HO1'.out]; unfold decO; rw [HE'.out, HE.out]; rfl)
    have HO2 := Lib.hid (show O2 = List.replicate 38 0 by rw [← HO2'.out]; unfold decSt; rw [HE'.out, HE.out]; rfl)
    rw [decide_eq_false hsz]
    clear hsz
    go_wp2_with (first | (refine wpList_build_l rfl 26 #[] rfl [] rfl (arrV (List.replicate 16 0)) block_zero ?_) | (refine wpList_build_l rfl 29 #[] rfl [] rfl (arrV (List.replicate 38 0)) state_zero ?_) | (refine wpList_store_blk rfl 26 (.tmp 4) (.tmp 16) rfl (B + 1) _ (arrV (List.replicate 16 0)) rfl rfl 26 hR1 z16i rfl (arr_one _) ?_) | (refine wpList_store_blk rfl 29 (.tmp 5) (.tmp 17) rfl (B + 2) _ (arrV (List.replicate 38 0)) rfl rfl 29 (hR2.setRowOther (by omega)) z38i rfl (arr_one _) ?_))
    have hfin := Below.setRow (Below.setRow hfar (g := B + 1) (by omega) (arrV (List.replicate 16 0))) (g := B + 2) (by omega) (arrV (List.replicate 38 0))
    exact bodyPost_ret (v := .tuple #[.agg (arrV (List.replicate 16 0)), .agg (arrV (List.replicate 38 0)), .int .i64 10]) (results_cct Tryz.results11 _ _ (B + 1) (B + 2) 26 29 _ _ (.array 16 3) _ _ rfl ((hR1.setRow (new := arrV (List.replicate 16 0))).setRowOther (by omega)) Tryz.underlying26 rfl z16i rfl (hR2.setRowOther (by omega)).setRow Tryz.underlying29 rfl z38i rfl) rfl ⟨by rw [HO1.out, HO2.out, HE.out], by first | exact hfin | (rw [hB]; exact hfin)⟩
  case pos =>
    rw [decide_eq_true hsz]
    have hrg := hA.rangeAll
    cases hlv : rightS L with
    | false =>
      have HE := Lib.hid (show E = 1 by rw [← HE'.out]; unfold decE; rw [if_pos hsz, hlv]; rfl)
      have HO1 := Lib.hid (show O1 = List.replicate 16 0 by rw [← HO1'.out]; unfold decO; rw [HE'.out, HE.out]; rfl)
      have HO2 := Lib.hid (show O2 = List.replicate 38 0 by rw [← HO2'.out]; unfold decSt; rw [HE'.out, HE.out]; rfl)
      rw [hlv] at HRT
      go_wp2_with (first | (refine wpList_load_mid rfl 29 (.tmp 2) rfl B 0 rfl (intsV L) _ hrg Tryz.underlying29 rfl iL ?_))
      refine (HRT.out _).mono ?_
      rintro e w2 ⟨rfl, hb2⟩
      replace hR1 := hR1.newB hb2
      replace hR2 := hR2.newB hb2
      replace hfar := hfar.trans (hb2.mono (by omega))
      go_wp2_with (first | (refine wpList_build_l rfl 26 #[] rfl [] rfl (arrV (List.replicate 16 0)) block_zero ?_) | (refine wpList_build_l rfl 29 #[] rfl [] rfl (arrV (List.replicate 38 0)) state_zero ?_) | (refine wpList_store_blk rfl 26 (.tmp 4) (.tmp 22) rfl (B + 1) _ (arrV (List.replicate 16 0)) rfl rfl 26 hR1 z16i rfl (arr_one _) ?_) | (refine wpList_store_blk rfl 29 (.tmp 5) (.tmp 23) rfl (B + 2) _ (arrV (List.replicate 38 0)) rfl rfl 29 (hR2.setRowOther (by omega)) z38i rfl (arr_one _) ?_))
      have hfin := Below.setRow (Below.setRow hfar (g := B + 1) (by omega) (arrV (List.replicate 16 0))) (g := B + 2) (by omega) (arrV (List.replicate 38 0))
      exact bodyPost_ret (v := .tuple #[.agg (arrV (List.replicate 16 0)), .agg (arrV (List.replicate 38 0)), .int .i64 1]) (results_cct Tryz.results11 _ _ (B + 1) (B + 2) 26 29 _ _ (.array 16 3) _ _ rfl ((hR1.setRow (new := arrV (List.replicate 16 0))).setRowOther (by omega)) Tryz.underlying26 rfl z16i rfl (hR2.setRowOther (by omega)).setRow Tryz.underlying29 rfl z38i rfl) rfl ⟨by rw [HO1.out, HO2.out, HE.out], by first | exact hfin | (rw [hB]; exact hfin)⟩
    | true =>
      have HE := Lib.hid (show E = 0 by rw [← HE'.out]; unfold decE; rw [if_pos hsz, hlv]; rfl)
      have HP1 := Lib.hid (show O1 = soundL (nextO L (wavS s (levL L))) by rw [← HO1'.out]; unfold decO; rw [HE'.out, HE.out]; rfl)
      have HP2 := Lib.hid (show O2 = nextSt L (levsS s (levL L)) (wavS s (levL L)) 0 by rw [← HO2'.out]; unfold decSt; rw [HE'.out, HE.out]; rfl)
      rw [hlv] at HRT
      have hpe : partsE (levL L) s = 0 := by unfold partsE; rw [if_pos hsz, right_levs hlv]; rfl
      have hll : (levL L).length = 4 := by simp [levL, hL]
      have hparts := fun w hW => Parts_any (levL L) hll s w hW
      have hp1 : partsL (levL L) s = levsS s (levL L) := by unfold partsL; rw [hpe]; rfl
      have hp2 : partsW (levL L) s = wavS s (levL L) := by unfold partsW; rw [hpe]; rfl
      simp only [hpe, hp1, hp2] at hparts
      have hLO := levsS_ok s (levL L)
      have hWO := wavS_ok s (levL L)
      have hok : nextOk L (levsS s (levL L)) (wavS s (levL L)) 0 = true := by unfold nextOk; rw [hlv, right_mk hLO hWO.1 hWO.2 (by omega) (by omega)]; rfl
      have hnext := fun w => Next_any L _ _ 0 hL hLO.1 hWO.1 w
      simp only [hok, if_true] at hnext
      have hsol : (soundL (nextO L (wavS s (levL L)))).length = 16 := by unfold soundL nextO layL; rw [List.length_map, layG_len, overL_len]
      have hstl : (nextSt L (levsS s (levL L)) (wavS s (levL L)) 0).length = 38 := by
        unfold nextSt; simp only [List.length_append, List.length_map, List.length_drop, backL_len, List.length_cons, List.length_nil, hLO.1, hWO.1]
      obtain ⟨so, hso⟩ : ∃ l, soundL (nextO L (wavS s (levL L))) = l := ⟨_, rfl⟩
      obtain ⟨sf, hsf⟩ : ∃ l, nextSt L (levsS s (levL L)) (wavS s (levL L)) 0 = l := ⟨_, rfl⟩
      have HO1 := Lib.hid (HP1.out.trans hso)
      have HO2 := Lib.hid (HP2.out.trans hsf)
      simp only [hso, hsf] at hnext
      rw [hso] at hsol
      rw [hsf] at hstl
      obtain ⟨ls', hls'⟩ : ∃ l, levsS s (levL L) = l := ⟨_, rfl⟩
      obtain ⟨wv, hwv⟩ : ∃ l, wavS s (levL L) = l := ⟨_, rfl⟩
      simp only [hls', hwv] at hnext hparts hLO hWO
      have HPA := Lib.hid hparts
      have HNE := Lib.hid hnext
      have ilv : (Tryz.prog.info? 27).map (·.size) = some (intsV (levL L)).length := by rw [List.length_map, hll]; exact fourInfo
      have i4 : (Tryz.prog.info? 27).map (·.size) = some (arrV ls').size := by rw [arr_size, hLO.1]; exact fourInfo
      have k4 : (#[.int .i64 0, .int .i64 0, .int .i64 0, .int .i64 0] : Array Value).size = (arrV ls').size := by rw [arr_size, hLO.1]; rfl
      have i16 : (Tryz.prog.info? 26).map (·.size) = some (arrV wv).size := by rw [arr_size, hWO.1]; exact blockInfo
      have k16 : (#[.int .i64 0, .int .i64 0, .int .i64 0, .int .i64 0, .int .i64 0, .int .i64 0, .int .i64 0, .int .i64 0, .int .i64 0, .int .i64 0, .int .i64 0, .int .i64 0, .int .i64 0, .int .i64 0, .int .i64 0, .int .i64 0] : Array Value).size = (arrV wv).size := by rw [arr_size, hWO.1]; rfl
      have jso : (Tryz.prog.info? 26).map (·.size) = some (arrV so).size := by rw [arr_size, hsol]; exact blockInfo
      have iso : (Tryz.prog.info? 26).map (·.size) = some (intsV so).length := by rw [List.length_map, hsol]; exact blockInfo
      have kso : (arrV (List.replicate 16 0)).size = (arrV so).size := by rw [arr_size, arr_size, hsol]; rfl
      have k2so : (#[.int .i64 0, .int .i64 0, .int .i64 0, .int .i64 0, .int .i64 0, .int .i64 0, .int .i64 0, .int .i64 0, .int .i64 0, .int .i64 0, .int .i64 0, .int .i64 0, .int .i64 0, .int .i64 0, .int .i64 0, .int .i64 0] : Array Value).size = (arrV so).size := by rw [arr_size, hsol]; rfl
      have jsf : (Tryz.prog.info? 29).map (·.size) = some (arrV sf).size := by rw [arr_size, hstl]; exact stateInfo
      have isf : (Tryz.prog.info? 29).map (·.size) = some (intsV sf).length := by rw [List.length_map, hstl]; exact stateInfo
      have ksf : (arrV (List.replicate 38 0)).size = (arrV sf).size := by rw [arr_size, arr_size, hstl]; rfl
      have k2sf : ((List.toArray (Value.int .i64 0 :: Value.int .i64 0 :: Value.int .i64 0 :: Value.int .i64 0 :: Value.int .i64 0 :: Value.int .i64 0 :: Value.int .i64 0 :: Value.int .i64 0 :: Value.int .i64 0 :: Value.int .i64 0 :: Value.int .i64 0 :: Value.int .i64 0 :: Value.int .i64 0 :: Value.int .i64 0 :: Value.int .i64 0 :: Value.int .i64 0 :: Value.int .i64 0 :: Value.int .i64 0 :: Value.int .i64 0 :: Value.int .i64 0 :: Value.int .i64 0 :: Value.int .i64 0 :: Value.int .i64 0 :: Value.int .i64 0 :: Value.int .i64 0 :: Value.int .i64 0 :: Value.int .i64 0 :: Value.int .i64 0 :: Value.int .i64 0 :: Value.int .i64 0 :: Value.int .i64 0 :: Value.int .i64 0 :: Value.int .i64 0 :: Value.int .i64 0 :: Value.int .i64 0 :: Value.int .i64 0 :: Value.int .i64 0 :: Value.int .i64 0 :: [])) : Array Value).size = (arrV sf).size := by rw [arr_size, hstl]; rfl
      clear hpe hparts hp1 hp2 hok hnext hso hsf hls' hwv
      go_wp2_with (first | (refine wpList_load_mid rfl 29 (.tmp 2) rfl B 0 rfl (intsV L) _ hrg Tryz.underlying29 rfl iL ?_))
      refine (HRT.out _).mono ?_
      rintro e w2 ⟨rfl, hb2⟩
      replace hA := hA.newB hb2
      replace hR1 := hR1.newB hb2
      replace hR2 := hR2.newB hb2
      replace hW0 : BandsW w2 := Blk.newB hW0 hb2
      replace hfar := hfar.trans (hb2.mono (by omega))
      have hs2 := hb2.size
      have hlr : w2.rangeAt B 17 (intsV (levL L)) := by have h2 := hA.range 17 4 (by omega); exact h2
      clear hrg
      go_wp2_with (first | (refine wpList_load_mid rfl 27 (.tmp 25) rfl B 17 rfl (intsV (levL L)) (.array 4 3) hlr Tryz.underlying27 rfl ilv ?_))
      refine (HPA.out _ hW0).mono ?_
      rintro e w3 ⟨rfl, hb3⟩
      replace hA := hA.newB hb3
      replace hR1 := hR1.newB hb3
      replace hR2 := hR2.newB hb3
      replace hfar := hfar.trans (hb3.mono (by omega))
      have hs3 := hb3.size
      obtain ⟨g, hg⟩ : ∃ g, w3.heap.size = g := ⟨_, rfl⟩
      obtain ⟨hN1, hN2, hk6, hs6⟩ := two_new (fun _ => False) w3 #[.int .i64 0, .int .i64 0, .int .i64 0, .int .i64 0] #[.int .i64 0, .int .i64 0, .int .i64 0, .int .i64 0, .int .i64 0, .int .i64 0, .int .i64 0, .int .i64 0, .int .i64 0, .int .i64 0, .int .i64 0, .int .i64 0, .int .i64 0, .int .i64 0, .int .i64 0, .int .i64 0] 27 26
      rw [hg] at hN1 hN2 hs6
      have hM1 := (hN1.setRow (new := arrV ls')).setRowOther (g := g + 1) (new := arrV wv) (by omega)
      have hM2 := (hN2.setRowOther (g := g) (new := arrV ls') (by omega)).setRow (new := arrV wv)
      have hA4 : Blk ((((w3.alloc (.cells #[.int .i64 0, .int .i64 0, .int .i64 0, .int .i64 0] 27)).alloc (.cells #[.int .i64 0, .int .i64 0, .int .i64 0, .int .i64 0, .int .i64 0, .int .i64 0, .int .i64 0, .int .i64 0, .int .i64 0, .int .i64 0, .int .i64 0, .int .i64 0, .int .i64 0, .int .i64 0, .int .i64 0, .int .i64 0] 26)).setRow g (arrV ls')).setRow (g + 1) (arrV wv)) B (arrV L) 29 := (((hA.alloc _).alloc _).setRowOther (by omega)).setRowOther (by omega)
      have hR14 : Blk ((((w3.alloc (.cells #[.int .i64 0, .int .i64 0, .int .i64 0, .int .i64 0] 27)).alloc (.cells #[.int .i64 0, .int .i64 0, .int .i64 0, .int .i64 0, .int .i64 0, .int .i64 0, .int .i64 0, .int .i64 0, .int .i64 0, .int .i64 0, .int .i64 0, .int .i64 0, .int .i64 0, .int .i64 0, .int .i64 0, .int .i64 0] 26)).setRow g (arrV ls')).setRow (g + 1) (arrV wv)) (B + 1) _ 26 := (((hR1.alloc _).alloc _).setRowOther (by omega)).setRowOther (by omega)
      have hR24 : Blk ((((w3.alloc (.cells #[.int .i64 0, .int .i64 0, .int .i64 0, .int .i64 0] 27)).alloc (.cells #[.int .i64 0, .int .i64 0, .int .i64 0, .int .i64 0, .int .i64 0, .int .i64 0, .int .i64 0, .int .i64 0, .int .i64 0, .int .i64 0, .int .i64 0, .int .i64 0, .int .i64 0, .int .i64 0, .int .i64 0, .int .i64 0] 26)).setRow g (arrV ls')).setRow (g + 1) (arrV wv)) (B + 2) _ 29 := (((hR2.alloc _).alloc _).setRowOther (by omega)).setRowOther (by omega)
      have hf4 : Below B w ((((w3.alloc (.cells #[.int .i64 0, .int .i64 0, .int .i64 0, .int .i64 0] 27)).alloc (.cells #[.int .i64 0, .int .i64 0, .int .i64 0, .int .i64 0, .int .i64 0, .int .i64 0, .int .i64 0, .int .i64 0, .int .i64 0, .int .i64 0, .int .i64 0, .int .i64 0, .int .i64 0, .int .i64 0, .int .i64 0, .int .i64 0] 26)).setRow g (arrV ls')).setRow (g + 1) (arrV wv)) := Below.setRow (Below.setRow ((hfar.alloc (by omega) _).alloc (by simp; omega) _) (by omega) _) (by omega) _
      have hs4 : ((((w3.alloc (.cells #[.int .i64 0, .int .i64 0, .int .i64 0, .int .i64 0] 27)).alloc (.cells #[.int .i64 0, .int .i64 0, .int .i64 0, .int .i64 0, .int .i64 0, .int .i64 0, .int .i64 0, .int .i64 0, .int .i64 0, .int .i64 0, .int .i64 0, .int .i64 0, .int .i64 0, .int .i64 0, .int .i64 0, .int .i64 0] 26)).setRow g (arrV ls')).setRow (g + 1) (arrV wv)).heap.size = g + 2 := by simp; omega
      go_upto_region 6 with (first | (refine wpList_store_blk rfl 27 (.tmp 7) (.tmp 29) rfl g _ (arrV ls') rfl rfl 27 hN1 i4 k4 (arr_one _) ?_) | (refine wpList_store_blk rfl 26 (.tmp 8) (.tmp 30) rfl (g + 1) _ (arrV wv) rfl rfl 26 (hN2.setRowOther (by omega)) i16 k16 (arr_one _) ?_))
      revert hM1 hM2 hA4 hR14 hR24 hf4 hs4
      clear hA hR1 hR2 hW0 hfar hN1 hN2 hk6 hs6 hlr
      generalize ((((w3.alloc (.cells #[.int .i64 0, .int .i64 0, .int .i64 0, .int .i64 0] 27)).alloc (.cells #[.int .i64 0, .int .i64 0, .int .i64 0, .int .i64 0, .int .i64 0, .int .i64 0, .int .i64 0, .int .i64 0, .int .i64 0, .int .i64 0, .int .i64 0, .int .i64 0, .int .i64 0, .int .i64 0, .int .i64 0, .int .i64 0] 26)).setRow g (arrV ls')).setRow (g + 1) (arrV wv)) = w4
      intro hM1 hM2 hA hR1 hR2 hfar hs4
      have hrg := hA.rangeAll
      go_wp2_with (first | (refine wpList_load_mid rfl 29 (.tmp 2) rfl B 0 rfl (intsV L) _ hrg Tryz.underlying29 rfl iL ?_) | (refine wpList_load_blk rfl 27 (.tmp 7) rfl g rfl (arrV ls') 27 hM1 Tryz.underlying27 i4 ?_) | (refine wpList_load_blk rfl 26 (.tmp 8) rfl (g + 1) rfl (arrV wv) 26 hM2 Tryz.underlying26 i16 ?_))
      refine (HNE.out _).mono ?_
      rintro e w5 ⟨rfl, hb5⟩
      replace hR1 := hR1.newB hb5
      replace hR2 := hR2.newB hb5
      replace hfar := hfar.trans (hb5.mono (by omega))
      have hs5 := hb5.size
      obtain ⟨g2, hg2⟩ : ∃ g, w5.heap.size = g := ⟨_, rfl⟩
      obtain ⟨hN1, hN2, hk6, hs6⟩ := two_new (fun _ => False) w5 #[.int .i64 0, .int .i64 0, .int .i64 0, .int .i64 0, .int .i64 0, .int .i64 0, .int .i64 0, .int .i64 0, .int .i64 0, .int .i64 0, .int .i64 0, .int .i64 0, .int .i64 0, .int .i64 0, .int .i64 0, .int .i64 0] (List.toArray (Value.int .i64 0 :: Value.int .i64 0 :: Value.int .i64 0 :: Value.int .i64 0 :: Value.int .i64 0 :: Value.int .i64 0 :: Value.int .i64 0 :: Value.int .i64 0 :: Value.int .i64 0 :: Value.int .i64 0 :: Value.int .i64 0 :: Value.int .i64 0 :: Value.int .i64 0 :: Value.int .i64 0 :: Value.int .i64 0 :: Value.int .i64 0 :: Value.int .i64 0 :: Value.int .i64 0 :: Value.int .i64 0 :: Value.int .i64 0 :: Value.int .i64 0 :: Value.int .i64 0 :: Value.int .i64 0 :: Value.int .i64 0 :: Value.int .i64 0 :: Value.int .i64 0 :: Value.int .i64 0 :: Value.int .i64 0 :: Value.int .i64 0 :: Value.int .i64 0 :: Value.int .i64 0 :: Value.int .i64 0 :: Value.int .i64 0 :: Value.int .i64 0 :: Value.int .i64 0 :: Value.int .i64 0 :: Value.int .i64 0 :: Value.int .i64 0 :: [])) 26 29
      rw [hg2] at hN1 hN2 hs6
      have hSo := (hN1.setRow (new := arrV so)).setRowOther (g := g2 + 1) (new := arrV sf) (by omega)
      have hSf := (hN2.setRowOther (g := g2) (new := arrV so) (by omega)).setRow (new := arrV sf)
      have hR15 : Blk ((((w5.alloc (.cells #[.int .i64 0, .int .i64 0, .int .i64 0, .int .i64 0, .int .i64 0, .int .i64 0, .int .i64 0, .int .i64 0, .int .i64 0, .int .i64 0, .int .i64 0, .int .i64 0, .int .i64 0, .int .i64 0, .int .i64 0, .int .i64 0] 26)).alloc (.cells (List.toArray (Value.int .i64 0 :: Value.int .i64 0 :: Value.int .i64 0 :: Value.int .i64 0 :: Value.int .i64 0 :: Value.int .i64 0 :: Value.int .i64 0 :: Value.int .i64 0 :: Value.int .i64 0 :: Value.int .i64 0 :: Value.int .i64 0 :: Value.int .i64 0 :: Value.int .i64 0 :: Value.int .i64 0 :: Value.int .i64 0 :: Value.int .i64 0 :: Value.int .i64 0 :: Value.int .i64 0 :: Value.int .i64 0 :: Value.int .i64 0 :: Value.int .i64 0 :: Value.int .i64 0 :: Value.int .i64 0 :: Value.int .i64 0 :: Value.int .i64 0 :: Value.int .i64 0 :: Value.int .i64 0 :: Value.int .i64 0 :: Value.int .i64 0 :: Value.int .i64 0 :: Value.int .i64 0 :: Value.int .i64 0 :: Value.int .i64 0 :: Value.int .i64 0 :: Value.int .i64 0 :: Value.int .i64 0 :: Value.int .i64 0 :: Value.int .i64 0 :: [])) 29)).setRow g2 (arrV so)).setRow (g2 + 1) (arrV sf)) (B + 1) _ 26 := (((hR1.alloc _).alloc _).setRowOther (by omega)).setRowOther (by omega)
      have hR25 : Blk ((((w5.alloc (.cells #[.int .i64 0, .int .i64 0, .int .i64 0, .int .i64 0, .int .i64 0, .int .i64 0, .int .i64 0, .int .i64 0, .int .i64 0, .int .i64 0, .int .i64 0, .int .i64 0, .int .i64 0, .int .i64 0, .int .i64 0, .int .i64 0] 26)).alloc (.cells (List.toArray (Value.int .i64 0 :: Value.int .i64 0 :: Value.int .i64 0 :: Value.int .i64 0 :: Value.int .i64 0 :: Value.int .i64 0 :: Value.int .i64 0 :: Value.int .i64 0 :: Value.int .i64 0 :: Value.int .i64 0 :: Value.int .i64 0 :: Value.int .i64 0 :: Value.int .i64 0 :: Value.int .i64 0 :: Value.int .i64 0 :: Value.int .i64 0 :: Value.int .i64 0 :: Value.int .i64 0 :: Value.int .i64 0 :: Value.int .i64 0 :: Value.int .i64 0 :: Value.int .i64 0 :: Value.int .i64 0 :: Value.int .i64 0 :: Value.int .i64 0 :: Value.int .i64 0 :: Value.int .i64 0 :: Value.int .i64 0 :: Value.int .i64 0 :: Value.int .i64 0 :: Value.int .i64 0 :: Value.int .i64 0 :: Value.int .i64 0 :: Value.int .i64 0 :: Value.int .i64 0 :: Value.int .i64 0 :: Value.int .i64 0 :: Value.int .i64 0 :: [])) 29)).setRow g2 (arrV so)).setRow (g2 + 1) (arrV sf)) (B + 2) _ 29 := (((hR2.alloc _).alloc _).setRowOther (by omega)).setRowOther (by omega)
      have hf5 : Below B w ((((w5.alloc (.cells #[.int .i64 0, .int .i64 0, .int .i64 0, .int .i64 0, .int .i64 0, .int .i64 0, .int .i64 0, .int .i64 0, .int .i64 0, .int .i64 0, .int .i64 0, .int .i64 0, .int .i64 0, .int .i64 0, .int .i64 0, .int .i64 0] 26)).alloc (.cells (List.toArray (Value.int .i64 0 :: Value.int .i64 0 :: Value.int .i64 0 :: Value.int .i64 0 :: Value.int .i64 0 :: Value.int .i64 0 :: Value.int .i64 0 :: Value.int .i64 0 :: Value.int .i64 0 :: Value.int .i64 0 :: Value.int .i64 0 :: Value.int .i64 0 :: Value.int .i64 0 :: Value.int .i64 0 :: Value.int .i64 0 :: Value.int .i64 0 :: Value.int .i64 0 :: Value.int .i64 0 :: Value.int .i64 0 :: Value.int .i64 0 :: Value.int .i64 0 :: Value.int .i64 0 :: Value.int .i64 0 :: Value.int .i64 0 :: Value.int .i64 0 :: Value.int .i64 0 :: Value.int .i64 0 :: Value.int .i64 0 :: Value.int .i64 0 :: Value.int .i64 0 :: Value.int .i64 0 :: Value.int .i64 0 :: Value.int .i64 0 :: Value.int .i64 0 :: Value.int .i64 0 :: Value.int .i64 0 :: Value.int .i64 0 :: Value.int .i64 0 :: [])) 29)).setRow g2 (arrV so)).setRow (g2 + 1) (arrV sf)) := Below.setRow (Below.setRow ((hfar.alloc (by omega) _).alloc (by simp; omega) _) (by omega) _) (by omega) _
      go_upto_region 9 with (first | (refine wpList_store_blk rfl 26 (.tmp 10) (.tmp 42) rfl g2 _ (arrV so) rfl rfl 26 hN1 jso k2so (arr_one _) ?_) | (refine wpList_store_blk rfl 29 (.tmp 11) (.tmp 43) rfl (g2 + 1) _ (arrV sf) rfl rfl 29 (hN2.setRowOther (by omega)) jsf k2sf (arr_one _) ?_))
      revert hSo hSf hR15 hR25 hf5
      clear hA hR1 hR2 hfar hN1 hN2 hk6 hs6 hM1 hM2 hrg
      generalize ((((w5.alloc (.cells #[.int .i64 0, .int .i64 0, .int .i64 0, .int .i64 0, .int .i64 0, .int .i64 0, .int .i64 0, .int .i64 0, .int .i64 0, .int .i64 0, .int .i64 0, .int .i64 0, .int .i64 0, .int .i64 0, .int .i64 0, .int .i64 0] 26)).alloc (.cells (List.toArray (Value.int .i64 0 :: Value.int .i64 0 :: Value.int .i64 0 :: Value.int .i64 0 :: Value.int .i64 0 :: Value.int .i64 0 :: Value.int .i64 0 :: Value.int .i64 0 :: Value.int .i64 0 :: Value.int .i64 0 :: Value.int .i64 0 :: Value.int .i64 0 :: Value.int .i64 0 :: Value.int .i64 0 :: Value.int .i64 0 :: Value.int .i64 0 :: Value.int .i64 0 :: Value.int .i64 0 :: Value.int .i64 0 :: Value.int .i64 0 :: Value.int .i64 0 :: Value.int .i64 0 :: Value.int .i64 0 :: Value.int .i64 0 :: Value.int .i64 0 :: Value.int .i64 0 :: Value.int .i64 0 :: Value.int .i64 0 :: Value.int .i64 0 :: Value.int .i64 0 :: Value.int .i64 0 :: Value.int .i64 0 :: Value.int .i64 0 :: Value.int .i64 0 :: Value.int .i64 0 :: Value.int .i64 0 :: Value.int .i64 0 :: Value.int .i64 0 :: [])) 29)).setRow g2 (arrV so)).setRow (g2 + 1) (arrV sf)) = w6
      intro hSo hSf hR1 hR2 hfar
      try dsimp only [Act.put]
      refine wp_region_held_drew (S := (fun W => Blk W g2 (arrV so) 26 ∧ Blk W (g2 + 1) (arrV sf) 29)) (by kernel_rfl) ⟨hSo.drew, hSf.drew⟩ (fun hH => ?_)
      refine tk 0 hH (v := .agg (arrV so)) (y := (yieldsIf_load_mid (by rfl) 26 (.tmp 10) rfl g2 0 rfl (intsV so) (.array 16 3) (fun _ h => h.1.rangeAll) Tryz.underlying26 rfl iso)) (k := ?_)
      refine tk 1 hH (v := .agg (arrV sf)) (y := (yieldsIf_load_mid (by rfl) 29 (.tmp 11) rfl (g2 + 1) 0 rfl (intsV sf) _ (fun _ h => h.2.rangeAll) Tryz.underlying29 rfl isf)) (k := ?_)
      refine wpAnyH_ready (rs := [2]) (by kernel_rfl) (by simp) ?_
      refine rc (h := fun K hK => ?_) (r := AllReadyH.nil)
      refine wp_store_blk 26 (.tmp 4) (.tmp 44) rfl (B + 1) _ (arrV so) rfl rfl 26 hR1.drew jso kso (arr_one _) ?_
      refine hK.out _ _ ⟨hH.1.setRowOther (by omega), hH.2.setRowOther (by omega)⟩ (fun hH => ?_)
      clear hK K
      try simp only [Act.put, sa, List.set_cons_zero, List.set_cons_succ]
      refine wpAnyH_ready (rs := [3]) (by kernel_rfl) (by simp) ?_
      refine rc (h := fun K hK => ?_) (r := AllReadyH.nil)
      refine wp_store_blk 29 (.tmp 5) (.tmp 45) rfl (B + 2) _ (arrV sf) rfl rfl 29 (hR2.drew.setRowOther (by omega)) jsf ksf (arr_one _) ?_
      refine hK.out _ _ ⟨hH.1.setRowOther (by omega), hH.2.setRowOther (by omega)⟩ (fun hH => ?_)
      clear hK K
      try simp only [Act.put, sa, List.set_cons_zero, List.set_cons_succ]
      refine tk 4 hH (v := .int .i64 0) (y := .inl ⟨by rfl, fun w hS => by go_simp⟩) (k := ?_)
      refine wpAnyH_done (by kernel_rfl) ?_ _
      go_wp2_with fail
      have hfin := Below.setRow (Below.setRow hfar.drew (g := B + 1) (by omega) (arrV so)) (g := B + 2) (by omega) (arrV sf)
      exact bodyPost_ret (v := .tuple #[.agg (arrV so), .agg (arrV sf), .int .i64 0]) (results_cct Tryz.results11 _ _ (B + 1) (B + 2) 26 29 _ _ (.array 16 3) _ _ rfl ((hR1.drew.setRow (new := arrV so)).setRowOther (by omega)) Tryz.underlying26 rfl jso rfl (hR2.drew.setRowOther (by omega)).setRow Tryz.underlying29 rfl jsf rfl) rfl ⟨by rw [HO1.out, HO2.out, HE.out], by first | exact hfin | (rw [hB]; exact hfin)⟩
end Go.Proofs.YtkoljgmapclhkaaGreatDoor
