/- The walk of dec.Decode. (Its drawn region was printed by wip/mkDecode.py.) -/
import Derived.Test.YtnohjidoelohkaaDoorDecY
namespace Go.Proofs.YtnohjidoelohkaaDoor
open Go.RowKit

/-- What makes a state right. -/
theorem right_mk {ls wv : List Int} (h1 : LevelsOk ls) (h2 : wv.length = 16) (h3 : wv.any wideP = false) {lost : Int} (h4 : 0 ≤ lost) (h5 : lost ≤ 255) : rightS (mkSt ls wv lost) = true := by
  have hall : ls.all levP = true := List.all_eq_true.2 (fun x hx => by have := h1.2 x hx; simp [levP]; omega)
  obtain ⟨hlen, _⟩ := h1
  match ls, hlen with
  | [a, b, c, d], _ =>
    match wv, h2 with
    | [x0, x1, x2, x3, x4, x5, x6, x7, x8, x9, x10, x11, x12, x13, x14, x15], _ =>
      have e1 : memL (mkSt [a, b, c, d] [x0, x1, x2, x3, x4, x5, x6, x7, x8, x9, x10, x11, x12, x13, x14, x15] lost) = List.replicate 16 0 := rfl
      have e2 : levL (mkSt [a, b, c, d] [x0, x1, x2, x3, x4, x5, x6, x7, x8, x9, x10, x11, x12, x13, x14, x15] lost) = [a, b, c, d] := rfl
      have e3 : lastL (mkSt [a, b, c, d] [x0, x1, x2, x3, x4, x5, x6, x7, x8, x9, x10, x11, x12, x13, x14, x15] lost) = 0 := rfl
      have e4 : wavL (mkSt [a, b, c, d] [x0, x1, x2, x3, x4, x5, x6, x7, x8, x9, x10, x11, x12, x13, x14, x15] lost) = [x0, x1, x2, x3, x4, x5, x6, x7, x8, x9, x10, x11, x12, x13, x14, x15] := rfl
      have e5 : lostL (mkSt [a, b, c, d] [x0, x1, x2, x3, x4, x5, x6, x7, x8, x9, x10, x11, x12, x13, x14, x15] lost) = lost := rfl
      unfold rightS
      rw [e1, e2, e3, e4, e5, h3, hall]
      have f1 : (List.replicate 16 (0 : Int)).all fitP = true := by decide
      have f3 : (Sp.cut 22 0 == 0) = true := by decide
      rw [f1, f3]
      simp [h4, h5]
theorem right_levs {L : List Int} (h : rightS L = true) : (levL L).all levP = true := by
  unfold rightS at h
  simp only [Bool.and_eq_true] at h
  exact h.1.1.1.1.2
def decE (L : List Int) (s : ByteArray) : Int := if 10 ≤ s.size ∧ s.size ≤ 32 then (if rightS L = true then 0 else 1) else 10
def decO (L : List Int) (s : ByteArray) : List Int := if decE L s = 0 then soundL (nextO L (wavS s (levL L))) else List.replicate 16 0
def decSt (L : List Int) (s : ByteArray) : List Int := if decE L s = 0 then nextSt L (levsS s (levL L)) (wavS s (levL L)) 0 else List.replicate 38 0
set_option maxRecDepth 100000 in
set_option maxHeartbeats 4000000 in
theorem Decode_any (L : List Int) (hL : L.length = 38) (s : ByteArray) (w : World) (hW : BandsW w) :
    Calls Tryd.prog 6 #[.agg (arrV L), .string s] w fun e w' => e = .returned (.tuple #[.agg (arrV (decO L s)), .agg (arrV (decSt L s)), .int .i64 (decE L s)]) ∧ Below w.heap.size w w' := by
  obtain ⟨hA, hR1, hR2, hfar, hs0⟩ := three_new w (arrV L) #[.int .i64 0, .int .i64 0, .int .i64 0, .int .i64 0, .int .i64 0, .int .i64 0, .int .i64 0, .int .i64 0, .int .i64 0, .int .i64 0, .int .i64 0, .int .i64 0, .int .i64 0, .int .i64 0, .int .i64 0, .int .i64 0] (List.toArray (Value.int .i64 0 :: Value.int .i64 0 :: Value.int .i64 0 :: Value.int .i64 0 :: Value.int .i64 0 :: Value.int .i64 0 :: Value.int .i64 0 :: Value.int .i64 0 :: Value.int .i64 0 :: Value.int .i64 0 :: Value.int .i64 0 :: Value.int .i64 0 :: Value.int .i64 0 :: Value.int .i64 0 :: Value.int .i64 0 :: Value.int .i64 0 :: Value.int .i64 0 :: Value.int .i64 0 :: Value.int .i64 0 :: Value.int .i64 0 :: Value.int .i64 0 :: Value.int .i64 0 :: Value.int .i64 0 :: Value.int .i64 0 :: Value.int .i64 0 :: Value.int .i64 0 :: Value.int .i64 0 :: Value.int .i64 0 :: Value.int .i64 0 :: Value.int .i64 0 :: Value.int .i64 0 :: Value.int .i64 0 :: Value.int .i64 0 :: Value.int .i64 0 :: Value.int .i64 0 :: Value.int .i64 0 :: Value.int .i64 0 :: Value.int .i64 0 :: [])) 29 27 29
  have hW0 : BandsW (((w.alloc (.cells (arrV L) 29)).alloc (.cells #[.int .i64 0, .int .i64 0, .int .i64 0, .int .i64 0, .int .i64 0, .int .i64 0, .int .i64 0, .int .i64 0, .int .i64 0, .int .i64 0, .int .i64 0, .int .i64 0, .int .i64 0, .int .i64 0, .int .i64 0, .int .i64 0] 27)).alloc (.cells (List.toArray (Value.int .i64 0 :: Value.int .i64 0 :: Value.int .i64 0 :: Value.int .i64 0 :: Value.int .i64 0 :: Value.int .i64 0 :: Value.int .i64 0 :: Value.int .i64 0 :: Value.int .i64 0 :: Value.int .i64 0 :: Value.int .i64 0 :: Value.int .i64 0 :: Value.int .i64 0 :: Value.int .i64 0 :: Value.int .i64 0 :: Value.int .i64 0 :: Value.int .i64 0 :: Value.int .i64 0 :: Value.int .i64 0 :: Value.int .i64 0 :: Value.int .i64 0 :: Value.int .i64 0 :: Value.int .i64 0 :: Value.int .i64 0 :: Value.int .i64 0 :: Value.int .i64 0 :: Value.int .i64 0 :: Value.int .i64 0 :: Value.int .i64 0 :: Value.int .i64 0 :: Value.int .i64 0 :: Value.int .i64 0 :: Value.int .i64 0 :: Value.int .i64 0 :: Value.int .i64 0 :: Value.int .i64 0 :: Value.int .i64 0 :: Value.int .i64 0 :: [])) 29)) := Blk.alloc (Blk.alloc (Blk.alloc hW _) _) _
  have hW1 := hW.lt
  obtain ⟨B, hB⟩ : ∃ B, w.heap.size = B := ⟨_, rfl⟩
  rw [hB] at hW1
  have z16i : (Tryd.prog.info? 27).map (·.size) = some (arrV (List.replicate 16 0)).size := by rw [arr_size]; exact blockInfo
  have z38i : (Tryd.prog.info? 29).map (·.size) = some (arrV (List.replicate 38 0)).size := by rw [arr_size]; exact stateInfo
  have iL : (Tryd.prog.info? 29).map (·.size) = some (intsV L).length := by rw [List.length_map, hL]; exact stateInfo
  have hmay := fun w => dmay_any s w
  have hRt := fun w => Right_any L hL w
  obtain ⟨O1, hO1⟩ : ∃ O, decO L s = O := ⟨_, rfl⟩
  obtain ⟨O2, hO2⟩ : ∃ O, decSt L s = O := ⟨_, rfl⟩
  obtain ⟨E, hE⟩ : ∃ E, decE L s = E := ⟨_, rfl⟩
  rw [hO1, hO2, hE]
  have HO1' := Lib.hid hO1
  have HO2' := Lib.hid hO2
  have HE' := Lib.hid hE
  have HMAY := Lib.hid hmay
  have HRT := Lib.hid hRt
  clear hO1 hO2 hE hmay hRt
  go_enter Tryd.func6, Tryd.ntmps6
  go_upto_region 1 with (fail)
  simp only [hB] at hA hR1 hR2 hfar hs0 ⊢
  revert hA hR1 hR2 hfar hs0 hW0
  generalize (((w.alloc (.cells (arrV L) 29)).alloc (.cells #[.int .i64 0, .int .i64 0, .int .i64 0, .int .i64 0, .int .i64 0, .int .i64 0, .int .i64 0, .int .i64 0, .int .i64 0, .int .i64 0, .int .i64 0, .int .i64 0, .int .i64 0, .int .i64 0, .int .i64 0, .int .i64 0] 27)).alloc (.cells (List.toArray (Value.int .i64 0 :: Value.int .i64 0 :: Value.int .i64 0 :: Value.int .i64 0 :: Value.int .i64 0 :: Value.int .i64 0 :: Value.int .i64 0 :: Value.int .i64 0 :: Value.int .i64 0 :: Value.int .i64 0 :: Value.int .i64 0 :: Value.int .i64 0 :: Value.int .i64 0 :: Value.int .i64 0 :: Value.int .i64 0 :: Value.int .i64 0 :: Value.int .i64 0 :: Value.int .i64 0 :: Value.int .i64 0 :: Value.int .i64 0 :: Value.int .i64 0 :: Value.int .i64 0 :: Value.int .i64 0 :: Value.int .i64 0 :: Value.int .i64 0 :: Value.int .i64 0 :: Value.int .i64 0 :: Value.int .i64 0 :: Value.int .i64 0 :: Value.int .i64 0 :: Value.int .i64 0 :: Value.int .i64 0 :: Value.int .i64 0 :: Value.int .i64 0 :: Value.int .i64 0 :: Value.int .i64 0 :: Value.int .i64 0 :: Value.int .i64 0 :: [])) 29)) = w0
  intro hW0 hA hR1 hR2 hfar hs0
  rw [zero16] at hR1
  rw [zero38] at hR2
  go_wp2_with fail
  refine (HMAY.out _).mono ?_
  rintro e w1 ⟨rfl, rfl⟩
  by_cases hsz : 10 ≤ s.size ∧ s.size ≤ 32
  case neg =>
    have HE := Lib.hid (show E = 10 by rw [← HE'.out]; unfold decE; rw [if_neg hsz])
    have HO1 := Lib.hid (show O1 = List.replicate 16 0 by rw [← HO1'.out]; unfold decO; rw [HE'.out, HE.out]; rfl)
    have HO2 := Lib.hid (show O2 = List.replicate 38 0 by rw [← HO2'.out]; unfold decSt; rw [HE'.out, HE.out]; rfl)
    rw [decide_eq_false hsz]
    clear hsz
    go_wp2_with (first | (refine wpList_build_l rfl 27 #[] rfl [] rfl (arrV (List.replicate 16 0)) block_zero ?_) | (refine wpList_build_l rfl 29 #[] rfl [] rfl (arrV (List.replicate 38 0)) state_zero ?_) | (refine wpList_store_blk rfl 27 (.tmp 4) (.tmp 16) rfl (B + 1) _ (arrV (List.replicate 16 0)) rfl rfl 27 hR1 z16i rfl (arr_one _) ?_) | (refine wpList_store_blk rfl 29 (.tmp 5) (.tmp 17) rfl (B + 2) _ (arrV (List.replicate 38 0)) rfl rfl 29 (hR2.setRowOther (by omega)) z38i rfl (arr_one _) ?_))
    have hfin := Below.setRow (Below.setRow hfar (g := B + 1) (by omega) (arrV (List.replicate 16 0))) (g := B + 2) (by omega) (arrV (List.replicate 38 0))
    exact bodyPost_ret (v := .tuple #[.agg (arrV (List.replicate 16 0)), .agg (arrV (List.replicate 38 0)), .int .i64 10]) (results_cct Tryd.results6 _ _ (B + 1) (B + 2) 27 29 _ _ (.array 16 3) _ _ rfl ((hR1.setRow (new := arrV (List.replicate 16 0))).setRowOther (by omega)) Tryd.underlying27 rfl z16i rfl (hR2.setRowOther (by omega)).setRow Tryd.underlying29 rfl z38i rfl) rfl ⟨by rw [HO1.out, HO2.out, HE.out], by first | exact hfin | (rw [hB]; exact hfin)⟩
  case pos =>
    rw [decide_eq_true hsz]
    have hrg := hA.rangeAll
    cases hlv : rightS L with
    | false =>
      have HE := Lib.hid (show E = 1 by rw [← HE'.out]; unfold decE; rw [if_pos hsz, hlv]; rfl)
      have HO1 := Lib.hid (show O1 = List.replicate 16 0 by rw [← HO1'.out]; unfold decO; rw [HE'.out, HE.out]; rfl)
      have HO2 := Lib.hid (show O2 = List.replicate 38 0 by rw [← HO2'.out]; unfold decSt; rw [HE'.out, HE.out]; rfl)
      rw [hlv] at HRT
      go_wp2_with (first | (refine wpList_load_mid rfl 29 (.tmp 2) rfl B 0 rfl (intsV L) _ hrg Tryd.underlying29 rfl iL ?_))
      refine (HRT.out _).mono ?_
      rintro e w2 ⟨rfl, hb2⟩
      replace hR1 := hR1.newB hb2
      replace hR2 := hR2.newB hb2
      replace hfar := hfar.trans (hb2.mono (by omega))
      go_wp2_with (first | (refine wpList_build_l rfl 27 #[] rfl [] rfl (arrV (List.replicate 16 0)) block_zero ?_) | (refine wpList_build_l rfl 29 #[] rfl [] rfl (arrV (List.replicate 38 0)) state_zero ?_) | (refine wpList_store_blk rfl 27 (.tmp 4) (.tmp 22) rfl (B + 1) _ (arrV (List.replicate 16 0)) rfl rfl 27 hR1 z16i rfl (arr_one _) ?_) | (refine wpList_store_blk rfl 29 (.tmp 5) (.tmp 23) rfl (B + 2) _ (arrV (List.replicate 38 0)) rfl rfl 29 (hR2.setRowOther (by omega)) z38i rfl (arr_one _) ?_))
      have hfin := Below.setRow (Below.setRow hfar (g := B + 1) (by omega) (arrV (List.replicate 16 0))) (g := B + 2) (by omega) (arrV (List.replicate 38 0))
      exact bodyPost_ret (v := .tuple #[.agg (arrV (List.replicate 16 0)), .agg (arrV (List.replicate 38 0)), .int .i64 1]) (results_cct Tryd.results6 _ _ (B + 1) (B + 2) 27 29 _ _ (.array 16 3) _ _ rfl ((hR1.setRow (new := arrV (List.replicate 16 0))).setRowOther (by omega)) Tryd.underlying27 rfl z16i rfl (hR2.setRowOther (by omega)).setRow Tryd.underlying29 rfl z38i rfl) rfl ⟨by rw [HO1.out, HO2.out, HE.out], by first | exact hfin | (rw [hB]; exact hfin)⟩
    | true =>
      have HE := Lib.hid (show E = 0 by rw [← HE'.out]; unfold decE; rw [if_pos hsz, hlv]; rfl)
      have HP1 := Lib.hid (show O1 = soundL (nextO L (wavS s (levL L))) by rw [← HO1'.out]; unfold decO; rw [HE'.out, HE.out]; rfl)
      have HP2 := Lib.hid (show O2 = nextSt L (levsS s (levL L)) (wavS s (levL L)) 0 by rw [← HO2'.out]; unfold decSt; rw [HE'.out, HE.out]; rfl)
      rw [hlv] at HRT
      have hpe : partsE (levL L) s = 0 := by unfold partsE; rw [if_pos hsz, right_levs hlv]; rfl
      have hll : (levL L).length = 4 := by simp [levL, hL]
      have hparts := fun w hW => Parts_any (levL L) hll s w hW
      have hp1 : partsL (levL L) s = levsS s (levL L) := by unfold partsL; rw [hpe]; rfl
      have hp2 : partsW (levL L) s = wavS s (levL L) := by unfold partsW; rw [hpe]; rfl
      simp only [hpe, hp1, hp2] at hparts
      have hLO := levsS_ok s (levL L)
      have hWO := wavS_ok s (levL L)
      have hok : nextOk L (levsS s (levL L)) (wavS s (levL L)) 0 = true := by unfold nextOk; rw [hlv, right_mk hLO hWO.1 hWO.2 (by omega) (by omega)]; rfl
      have hnext := fun w => Next_any L _ _ 0 hL hLO.1 hWO.1 w
      simp only [hok, if_true] at hnext
      have hsol : (soundL (nextO L (wavS s (levL L)))).length = 16 := by unfold soundL nextO layL; rw [List.length_map, layG_len, overL_len]
      have hstl : (nextSt L (levsS s (levL L)) (wavS s (levL L)) 0).length = 38 := by
        unfold nextSt; simp only [List.length_append, List.length_map, List.length_drop, backL_len, List.length_cons, List.length_nil, hLO.1, hWO.1]
      obtain ⟨so, hso⟩ : ∃ l, soundL (nextO L (wavS s (levL L))) = l := ⟨_, rfl⟩
      obtain ⟨sf, hsf⟩ : ∃ l, nextSt L (levsS s (levL L)) (wavS s (levL L)) 0 = l := ⟨_, rfl⟩
      have HO1 := Lib.hid (HP1.out.trans hso)
      have HO2 := Lib.hid (HP2.out.trans hsf)
      simp only [hso, hsf] at hnext
      rw [hso] at hsol
      rw [hsf] at hstl
      obtain ⟨ls', hls'⟩ : ∃ l, levsS s (levL L) = l := ⟨_, rfl⟩
      obtain ⟨wv, hwv⟩ : ∃ l, wavS s (levL L) = l := ⟨_, rfl⟩
      simp only [hls', hwv] at hnext hparts hLO hWO
      have HPA := Lib.hid hparts
      have HNE := Lib.hid hnext
      have ilv : (Tryd.prog.info? 23).map (·.size) = some (intsV (levL L)).length := by rw [List.length_map, hll]; exact fourInfo
      have i4 : (Tryd.prog.info? 23).map (·.size) = some (arrV ls').size := by rw [arr_size, hLO.1]; exact fourInfo
      have k4 : (#[.int .i64 0, .int .i64 0, .int .i64 0, .int .i64 0] : Array Value).size = (arrV ls').size := by rw [arr_size, hLO.1]; rfl
      have i16 : (Tryd.prog.info? 27).map (·.size) = some (arrV wv).size := by rw [arr_size, hWO.1]; exact blockInfo
      have k16 : (#[.int .i64 0, .int .i64 0, .int .i64 0, .int .i64 0, .int .i64 0, .int .i64 0, .int .i64 0, .int .i64 0, .int .i64 0, .int .i64 0, .int .i64 0, .int .i64 0, .int .i64 0, .int .i64 0, .int .i64 0, .int .i64 0] : Array Value).size = (arrV wv).size := by rw [arr_size, hWO.1]; rfl
      have jso : (Tryd.prog.info? 27).map (·.size) = some (arrV so).size := by rw [arr_size, hsol]; exact blockInfo
      have iso : (Tryd.prog.info? 27).map (·.size) = some (intsV so).length := by rw [List.length_map, hsol]; exact blockInfo
      have kso : (arrV (List.replicate 16 0)).size = (arrV so).size := by rw [arr_size, arr_size, hsol]; rfl
      have k2so : (#[.int .i64 0, .int .i64 0, .int .i64 0, .int .i64 0, .int .i64 0, .int .i64 0, .int .i64 0, .int .i64 0, .int .i64 0, .int .i64 0, .int .i64 0, .int .i64 0, .int .i64 0, .int .i64 0, .int .i64 0, .int .i64 0] : Array Value).size = (arrV so).size := by rw [arr_size, hsol]; rfl
      have jsf : (Tryd.prog.info? 29).map (·.size) = some (arrV sf).size := by rw [arr_size, hstl]; exact stateInfo
      have isf : (Tryd.prog.info? 29).map (·.size) = some (intsV sf).length := by rw [List.length_map, hstl]; exact stateInfo
      have ksf : (arrV (List.replicate 38 0)).size = (arrV sf).size := by rw [arr_size, arr_size, hstl]; rfl
      have k2sf : ((List.toArray (Value.int .i64 0 :: Value.int .i64 0 :: Value.int .i64 0 :: Value.int .i64 0 :: Value.int .i64 0 :: Value.int .i64 0 :: Value.int .i64 0 :: Value.int .i64 0 :: Value.int .i64 0 :: Value.int .i64 0 :: Value.int .i64 0 :: Value.int .i64 0 :: Value.int .i64 0 :: Value.int .i64 0 :: Value.int .i64 0 :: Value.int .i64 0 :: Value.int .i64 0 :: Value.int .i64 0 :: Value.int .i64 0 :: Value.int .i64 0 :: Value.int .i64 0 :: Value.int .i64 0 :: Value.int .i64 0 :: Value.int .i64 0 :: Value.int .i64 0 :: Value.int .i64 0 :: Value.int .i64 0 :: Value.int .i64 0 :: Value.int .i64 0 :: Value.int .i64 0 :: Value.int .i64 0 :: Value.int .i64 0 :: Value.int .i64 0 :: Value.int .i64 0 :: Value.int .i64 0 :: Value.int .i64 0 :: Value.int .i64 0 :: Value.int .i64 0 :: [])) : Array Value).size = (arrV sf).size := by rw [arr_size, hstl]; rfl
      clear hpe hparts hp1 hp2 hok hnext hso hsf hls' hwv
      go_wp2_with (first | (refine wpList_load_mid rfl 29 (.tmp 2) rfl B 0 rfl (intsV L) _ hrg Tryd.underlying29 rfl iL ?_))
      refine (HRT.out _).mono ?_
      rintro e w2 ⟨rfl, hb2⟩
      replace hA := hA.newB hb2
      replace hR1 := hR1.newB hb2
      replace hR2 := hR2.newB hb2
      replace hW0 : BandsW w2 := Blk.newB hW0 hb2
      replace hfar := hfar.trans (hb2.mono (by omega))
      have hs2 := hb2.size
      have hlr : w2.rangeAt B 17 (intsV (levL L)) := by have h2 := hA.range 17 4 (by omega); exact h2
      clear hrg
      go_wp2_with (first | (refine wpList_load_mid rfl 23 (.tmp 25) rfl B 17 rfl (intsV (levL L)) (.array 4 3) hlr Tryd.underlying23 rfl ilv ?_))
      refine (HPA.out _ hW0).mono ?_
      rintro e w3 ⟨rfl, hb3⟩
      replace hA := hA.newB hb3
      replace hR1 := hR1.newB hb3
      replace hR2 := hR2.newB hb3
      replace hfar := hfar.trans (hb3.mono (by omega))
      have hs3 := hb3.size
      obtain ⟨g, hg⟩ : ∃ g, w3.heap.size = g := ⟨_, rfl⟩
      obtain ⟨hN1, hN2, hk6, hs6⟩ := two_new (fun _ => False) w3 #[.int .i64 0, .int .i64 0, .int .i64 0, .int .i64 0] #[.int .i64 0, .int .i64 0, .int .i64 0, .int .i64 0, .int .i64 0, .int .i64 0, .int .i64 0, .int .i64 0, .int .i64 0, .int .i64 0, .int .i64 0, .int .i64 0, .int .i64 0, .int .i64 0, .int .i64 0, .int .i64 0] 23 27
      rw [hg] at hN1 hN2 hs6
      have hM1 := (hN1.setRow (new := arrV ls')).setRowOther (g := g + 1) (new := arrV wv) (by omega)
      have hM2 := (hN2.setRowOther (g := g) (new := arrV ls') (by omega)).setRow (new := arrV wv)
      have hA4 : Blk ((((w3.alloc (.cells #[.int .i64 0, .int .i64 0, .int .i64 0, .int .i64 0] 23)).alloc (.cells #[.int .i64 0, .int .i64 0, .int .i64 0, .int .i64 0, .int .i64 0, .int .i64 0, .int .i64 0, .int .i64 0, .int .i64 0, .int .i64 0, .int .i64 0, .int .i64 0, .int .i64 0, .int .i64 0, .int .i64 0, .int .i64 0] 27)).setRow g (arrV ls')).setRow (g + 1) (arrV wv)) B (arrV L) 29 := (((hA.alloc _).alloc _).setRowOther (by omega)).setRowOther (by omega)
      have hR14 : Blk ((((w3.alloc (.cells #[.int .i64 0, .int .i64 0, .int .i64 0, .int .i64 0] 23)).alloc (.cells #[.int .i64 0, .int .i64 0, .int .i64 0, .int .i64 0, .int .i64 0, .int .i64 0, .int .i64 0, .int .i64 0, .int .i64 0, .int .i64 0, .int .i64 0, .int .i64 0, .int .i64 0, .int .i64 0, .int .i64 0, .int .i64 0] 27)).setRow g (arrV ls')).setRow (g + 1) (arrV wv)) (B + 1) _ 27 := (((hR1.alloc _).alloc _).setRowOther (by omega)).setRowOther (by omega)
      have hR24 : Blk ((((w3.alloc (.cells #[.int .i64 0, .int .i64 0, .int .i64 0, .int .i64 0] 23)).alloc (.cells #[.int .i64 0, .int .i64 0, .int .i64 0, .int .i64 0, .int .i64 0, .int .i64 0, .int .i64 0, .int .i64 0, .int .i64 0, .int .i64 0, .int .i64 0, .int .i64 0, .int .i64 0, .int .i64 0, .int .i64 0, .int .i64 0] 27)).setRow g (arrV ls')).setRow (g + 1) (arrV wv)) (B + 2) _ 29 := (((hR2.alloc _).alloc _).setRowOther (by omega)).setRowOther (by omega)
      have hf4 : Below B w ((((w3.alloc (.cells #[.int .i64 0, .int .i64 0, .int .i64 0, .int .i64 0] 23)).alloc (.cells #[.int .i64 0, .int .i64 0, .int .i64 0, .int .i64 0, .int .i64 0, .int .i64 0, .int .i64 0, .int .i64 0, .int .i64 0, .int .i64 0, .int .i64 0, .int .i64 0, .int .i64 0, .int .i64 0, .int .i64 0, .int .i64 0] 27)).setRow g (arrV ls')).setRow (g + 1) (arrV wv)) := Below.setRow (Below.setRow ((hfar.alloc (by omega) _).alloc (by simp; omega) _) (by omega) _) (by omega) _
      have hs4 : ((((w3.alloc (.cells #[.int .i64 0, .int .i64 0, .int .i64 0, .int .i64 0] 23)).alloc (.cells #[.int .i64 0, .int .i64 0, .int .i64 0, .int .i64 0, .int .i64 0, .int .i64 0, .int .i64 0, .int .i64 0, .int .i64 0, .int .i64 0, .int .i64 0, .int .i64 0, .int .i64 0, .int .i64 0, .int .i64 0, .int .i64 0] 27)).setRow g (arrV ls')).setRow (g + 1) (arrV wv)).heap.size = g + 2 := by simp; omega
      go_upto_region 6 with (first | (refine wpList_store_blk rfl 23 (.tmp 7) (.tmp 29) rfl g _ (arrV ls') rfl rfl 23 hN1 i4 k4 (arr_one _) ?_) | (refine wpList_store_blk rfl 27 (.tmp 8) (.tmp 30) rfl (g + 1) _ (arrV wv) rfl rfl 27 (hN2.setRowOther (by omega)) i16 k16 (arr_one _) ?_))
      revert hM1 hM2 hA4 hR14 hR24 hf4 hs4
      clear hA hR1 hR2 hW0 hfar hN1 hN2 hk6 hs6 hlr
      generalize ((((w3.alloc (.cells #[.int .i64 0, .int .i64 0, .int .i64 0, .int .i64 0] 23)).alloc (.cells #[.int .i64 0, .int .i64 0, .int .i64 0, .int .i64 0, .int .i64 0, .int .i64 0, .int .i64 0, .int .i64 0, .int .i64 0, .int .i64 0, .int .i64 0, .int .i64 0, .int .i64 0, .int .i64 0, .int .i64 0, .int .i64 0] 27)).setRow g (arrV ls')).setRow (g + 1) (arrV wv)) = w4
      intro hM1 hM2 hA hR1 hR2 hfar hs4
      have hrg := hA.rangeAll
      go_wp2_with (first | (refine wpList_load_mid rfl 29 (.tmp 2) rfl B 0 rfl (intsV L) _ hrg Tryd.underlying29 rfl iL ?_) | (refine wpList_load_blk rfl 23 (.tmp 7) rfl g rfl (arrV ls') 23 hM1 Tryd.underlying23 i4 ?_) | (refine wpList_load_blk rfl 27 (.tmp 8) rfl (g + 1) rfl (arrV wv) 27 hM2 Tryd.underlying27 i16 ?_))
      refine (HNE.out _).mono ?_
      rintro e w5 ⟨rfl, hb5⟩
      replace hR1 := hR1.newB hb5
      replace hR2 := hR2.newB hb5
      replace hfar := hfar.trans (hb5.mono (by omega))
      have hs5 := hb5.size
      obtain ⟨g2, hg2⟩ : ∃ g, w5.heap.size = g := ⟨_, rfl⟩
      obtain ⟨hN1, hN2, hk6, hs6⟩ := two_new (fun _ => False) w5 #[.int .i64 0, .int .i64 0, .int .i64 0, .int .i64 0, .int .i64 0, .int .i64 0, .int .i64 0, .int .i64 0, .int .i64 0, .int .i64 0, .int .i64 0, .int .i64 0, .int .i64 0, .int .i64 0, .int .i64 0, .int .i64 0] (List.toArray (Value.int .i64 0 :: Value.int .i64 0 :: Value.int .i64 0 :: Value.int .i64 0 :: Value.int .i64 0 :: Value.int .i64 0 :: Value.int .i64 0 :: Value.int .i64 0 :: Value.int .i64 0 :: Value.int .i64 0 :: Value.int .i64 0 :: Value.int .i64 0 :: Value.int .i64 0 :: Value.int .i64 0 :: Value.int .i64 0 :: Value.int .i64 0 :: Value.int .i64 0 :: Value.int .i64 0 :: Value.int .i64 0 :: Value.int .i64 0 :: Value.int .i64 0 :: Value.int .i64 0 :: Value.int .i64 0 :: Value.int .i64 0 :: Value.int .i64 0 :: Value.int .i64 0 :: Value.int .i64 0 :: Value.int .i64 0 :: Value.int .i64 0 :: Value.int .i64 0 :: Value.int .i64 0 :: Value.int .i64 0 :: Value.int .i64 0 :: Value.int .i64 0 :: Value.int .i64 0 :: Value.int .i64 0 :: Value.int .i64 0 :: Value.int .i64 0 :: [])) 27 29
      rw [hg2] at hN1 hN2 hs6
      have hSo := (hN1.setRow (new := arrV so)).setRowOther (g := g2 + 1) (new := arrV sf) (by omega)
      have hSf := (hN2.setRowOther (g := g2) (new := arrV so) (by omega)).setRow (new := arrV sf)
      have hR15 : Blk ((((w5.alloc (.cells #[.int .i64 0, .int .i64 0, .int .i64 0, .int .i64 0, .int .i64 0, .int .i64 0, .int .i64 0, .int .i64 0, .int .i64 0, .int .i64 0, .int .i64 0, .int .i64 0, .int .i64 0, .int .i64 0, .int .i64 0, .int .i64 0] 27)).alloc (.cells (List.toArray (Value.int .i64 0 :: Value.int .i64 0 :: Value.int .i64 0 :: Value.int .i64 0 :: Value.int .i64 0 :: Value.int .i64 0 :: Value.int .i64 0 :: Value.int .i64 0 :: Value.int .i64 0 :: Value.int .i64 0 :: Value.int .i64 0 :: Value.int .i64 0 :: Value.int .i64 0 :: Value.int .i64 0 :: Value.int .i64 0 :: Value.int .i64 0 :: Value.int .i64 0 :: Value.int .i64 0 :: Value.int .i64 0 :: Value.int .i64 0 :: Value.int .i64 0 :: Value.int .i64 0 :: Value.int .i64 0 :: Value.int .i64 0 :: Value.int .i64 0 :: Value.int .i64 0 :: Value.int .i64 0 :: Value.int .i64 0 :: Value.int .i64 0 :: Value.int .i64 0 :: Value.int .i64 0 :: Value.int .i64 0 :: Value.int .i64 0 :: Value.int .i64 0 :: Value.int .i64 0 :: Value.int .i64 0 :: Value.int .i64 0 :: Value.int .i64 0 :: [])) 29)).setRow g2 (arrV so)).setRow (g2 + 1) (arrV sf)) (B + 1) _ 27 := (((hR1.alloc _).alloc _).setRowOther (by omega)).setRowOther (by omega)
      have hR25 : Blk ((((w5.alloc (.cells #[.int .i64 0, .int .i64 0, .int .i64 0, .int .i64 0, .int .i64 0, .int .i64 0, .int .i64 0, .int .i64 0, .int .i64 0, .int .i64 0, .int .i64 0, .int .i64 0, .int .i64 0, .int .i64 0, .int .i64 0, .int .i64 0] 27)).alloc (.cells (List.toArray (Value.int .i64 0 :: Value.int .i64 0 :: Value.int .i64 0 :: Value.int .i64 0 :: Value.int .i64 0 :: Value.int .i64 0 :: Value.int .i64 0 :: Value.int .i64 0 :: Value.int .i64 0 :: Value.int .i64 0 :: Value.int .i64 0 :: Value.int .i64 0 :: Value.int .i64 0 :: Value.int .i64 0 :: Value.int .i64 0 :: Value.int .i64 0 :: Value.int .i64 0 :: Value.int .i64 0 :: Value.int .i64 0 :: Value.int .i64 0 :: Value.int .i64 0 :: Value.int .i64 0 :: Value.int .i64 0 :: Value.int .i64 0 :: Value.int .i64 0 :: Value.int .i64 0 :: Value.int .i64 0 :: Value.int .i64 0 :: Value.int .i64 0 :: Value.int .i64 0 :: Value.int .i64 0 :: Value.int .i64 0 :: Value.int .i64 0 :: Value.int .i64 0 :: Value.int .i64 0 :: Value.int .i64 0 :: Value.int .i64 0 :: Value.int .i64 0 :: [])) 29)).setRow g2 (arrV so)).setRow (g2 + 1) (arrV sf)) (B + 2) _ 29 := (((hR2.alloc _).alloc _).setRowOther (by omega)).setRowOther (by omega)
      have hf5 : Below B w ((((w5.alloc (.cells #[.int .i64 0, .int .i64 0, .int .i64 0, .int .i64 0, .int .i64 0, .int .i64 0, .int .i64 0, .int .i64 0, .int .i64 0, .int .i64 0, .int .i64 0, .int .i64 0, .int .i64 0, .int .i64 0, .int .i64 0, .int .i64 0] 27)).alloc (.cells (List.toArray (Value.int .i64 0 :: Value.int .i64 0 :: Value.int .i64 0 :: Value.int .i64 0 :: Value.int .i64 0 :: Value.int .i64 0 :: Value.int .i64 0 :: Value.int .i64 0 :: Value.int .i64 0 :: Value.int .i64 0 :: Value.int .i64 0 :: Value.int .i64 0 :: Value.int .i64 0 :: Value.int .i64 0 :: Value.int .i64 0 :: Value.int .i64 0 :: Value.int .i64 0 :: Value.int .i64 0 :: Value.int .i64 0 :: Value.int .i64 0 :: Value.int .i64 0 :: Value.int .i64 0 :: Value.int .i64 0 :: Value.int .i64 0 :: Value.int .i64 0 :: Value.int .i64 0 :: Value.int .i64 0 :: Value.int .i64 0 :: Value.int .i64 0 :: Value.int .i64 0 :: Value.int .i64 0 :: Value.int .i64 0 :: Value.int .i64 0 :: Value.int .i64 0 :: Value.int .i64 0 :: Value.int .i64 0 :: Value.int .i64 0 :: Value.int .i64 0 :: [])) 29)).setRow g2 (arrV so)).setRow (g2 + 1) (arrV sf)) := Below.setRow (Below.setRow ((hfar.alloc (by omega) _).alloc (by simp; omega) _) (by omega) _) (by omega) _
      go_upto_region 9 with (first | (refine wpList_store_blk rfl 27 (.tmp 10) (.tmp 42) rfl g2 _ (arrV so) rfl rfl 27 hN1 jso k2so (arr_one _) ?_) | (refine wpList_store_blk rfl 29 (.tmp 11) (.tmp 43) rfl (g2 + 1) _ (arrV sf) rfl rfl 29 (hN2.setRowOther (by omega)) jsf k2sf (arr_one _) ?_))
      revert hSo hSf hR15 hR25 hf5
      clear hA hR1 hR2 hfar hN1 hN2 hk6 hs6 hM1 hM2 hrg
      generalize ((((w5.alloc (.cells #[.int .i64 0, .int .i64 0, .int .i64 0, .int .i64 0, .int .i64 0, .int .i64 0, .int .i64 0, .int .i64 0, .int .i64 0, .int .i64 0, .int .i64 0, .int .i64 0, .int .i64 0, .int .i64 0, .int .i64 0, .int .i64 0] 27)).alloc (.cells (List.toArray (Value.int .i64 0 :: Value.int .i64 0 :: Value.int .i64 0 :: Value.int .i64 0 :: Value.int .i64 0 :: Value.int .i64 0 :: Value.int .i64 0 :: Value.int .i64 0 :: Value.int .i64 0 :: Value.int .i64 0 :: Value.int .i64 0 :: Value.int .i64 0 :: Value.int .i64 0 :: Value.int .i64 0 :: Value.int .i64 0 :: Value.int .i64 0 :: Value.int .i64 0 :: Value.int .i64 0 :: Value.int .i64 0 :: Value.int .i64 0 :: Value.int .i64 0 :: Value.int .i64 0 :: Value.int .i64 0 :: Value.int .i64 0 :: Value.int .i64 0 :: Value.int .i64 0 :: Value.int .i64 0 :: Value.int .i64 0 :: Value.int .i64 0 :: Value.int .i64 0 :: Value.int .i64 0 :: Value.int .i64 0 :: Value.int .i64 0 :: Value.int .i64 0 :: Value.int .i64 0 :: Value.int .i64 0 :: Value.int .i64 0 :: Value.int .i64 0 :: [])) 29)).setRow g2 (arrV so)).setRow (g2 + 1) (arrV sf)) = w6
      intro hSo hSf hR1 hR2 hfar
      try dsimp only [Act.put]
      refine wp_region_held_drew (S := (fun W => Blk W g2 (arrV so) 27 ∧ Blk W (g2 + 1) (arrV sf) 29)) (by kernel_rfl) ⟨hSo.drew, hSf.drew⟩ (fun hH => ?_)
      refine wpAnyH_take (i := 0) (oi := { dst := some 44, op := Op.load 27 (Operand.tmp 10), type := 27, pos := "dec.go:65", after := _, guard := none }) (v := .agg (arrV so)) rfl (by kernel_rfl) (by kernel_rfl) (by kernel_rfl) (fun _ _ _ h => h) (yieldsIf_load_mid (by rfl) 27 (.tmp 10) rfl g2 0 rfl (intsV so) (.array 16 3) (fun _ h => h.1.rangeAll) Tryd.underlying27 rfl iso) hH ?_
      try simp only [Act.put, List.setIfInBounds_toArray, List.set_cons_zero, List.set_cons_succ]
      refine wpAnyH_take (i := 1) (oi := { dst := some 45, op := Op.load 29 (Operand.tmp 11), type := 29, pos := "dec.go:65", after := _, guard := none }) (v := .agg (arrV sf)) rfl (by kernel_rfl) (by kernel_rfl) (by kernel_rfl) (fun _ _ _ h => h) (yieldsIf_load_mid (by rfl) 29 (.tmp 11) rfl (g2 + 1) 0 rfl (intsV sf) _ (fun _ h => h.2.rangeAll) Tryd.underlying29 rfl isf) hH ?_
      try simp only [Act.put, List.setIfInBounds_toArray, List.set_cons_zero, List.set_cons_succ]
      refine wpAnyH_ready (rs := [2]) (by kernel_rfl) (by simp) ?_
      refine AllReadyH.cons (o := { dst := none, op := Op.store 27 (Operand.tmp 4) (Operand.tmp 44), type := 0, pos := "dec.go:65", after := _, guard := none }) rfl (fun K hK => ?_) AllReadyH.nil
      rw [if_pos (by rfl)]
      refine wp_store_blk 27 (.tmp 4) (.tmp 44) rfl (B + 1) _ (arrV so) rfl rfl 27 hR1.drew jso kso (arr_one _) ?_
      refine hK.out _ _ ⟨hH.1.setRowOther (by omega), hH.2.setRowOther (by omega)⟩ (fun hH => ?_)
      clear hK K
      try simp only [Act.put, List.setIfInBounds_toArray, List.set_cons_zero, List.set_cons_succ]
      refine wpAnyH_ready (rs := [3]) (by kernel_rfl) (by simp) ?_
      refine AllReadyH.cons (o := { dst := none, op := Op.store 29 (Operand.tmp 5) (Operand.tmp 45), type := 0, pos := "dec.go:65", after := _, guard := none }) rfl (fun K hK => ?_) AllReadyH.nil
      rw [if_pos (by rfl)]
      refine wp_store_blk 29 (.tmp 5) (.tmp 45) rfl (B + 2) _ (arrV sf) rfl rfl 29 (hR2.drew.setRowOther (by omega)) jsf ksf (arr_one _) ?_
      refine hK.out _ _ ⟨hH.1.setRowOther (by omega), hH.2.setRowOther (by omega)⟩ (fun hH => ?_)
      clear hK K
      try simp only [Act.put, List.setIfInBounds_toArray, List.set_cons_zero, List.set_cons_succ]
      refine wpAnyH_take (i := 4) (oi := { dst := some 6, op := Op.assign (Operand.const (Value.int IntKind.i64 0)), type := 30, pos := "dec.go:65", after := _, guard := none }) (v := .int .i64 0) rfl (by kernel_rfl) (by kernel_rfl) (by kernel_rfl) (fun _ _ _ h => h) (.inl ⟨by rfl, fun w hS => by go_simp⟩) hH ?_
      try simp only [Act.put, List.setIfInBounds_toArray, List.set_cons_zero, List.set_cons_succ]
      refine wpAnyH_done (by kernel_rfl) ?_ _
      go_wp2_with fail
      have hfin := Below.setRow (Below.setRow hfar.drew (g := B + 1) (by omega) (arrV so)) (g := B + 2) (by omega) (arrV sf)
      exact bodyPost_ret (v := .tuple #[.agg (arrV so), .agg (arrV sf), .int .i64 0]) (results_cct Tryd.results6 _ _ (B + 1) (B + 2) 27 29 _ _ (.array 16 3) _ _ rfl ((hR1.drew.setRow (new := arrV so)).setRowOther (by omega)) Tryd.underlying27 rfl jso rfl (hR2.drew.setRowOther (by omega)).setRow Tryd.underlying29 rfl jsf rfl) rfl ⟨by rw [HO1.out, HO2.out, HE.out], by first | exact hfin | (rw [hB]; exact hfin)⟩
end Go.Proofs.YtnohjidoelohkaaDoor
