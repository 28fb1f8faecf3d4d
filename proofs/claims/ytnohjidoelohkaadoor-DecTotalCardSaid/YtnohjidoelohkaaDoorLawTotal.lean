/- The walk of spoollaw13.DecTotal: whatever the state and the packet, it returns true. -/
import Derived.Test.YtnohjidoelohkaaDoorLaw13b
import Derived.Test.YtnohjidoelohkaaDoorSpecDec4
namespace Go.Proofs.YtnohjidoelohkaaDoor
open Go.RowKit

theorem rstateInfo : (Tryd.prog.info? 25).map (·.size) = some 38 := by kernel_rfl
set_option maxRecDepth 100000 in
set_option maxHeartbeats 4000000 in
theorem DecTotal_any (L : List Int) (hL : L.length = 38) (s : ByteArray) (w : World) (hW : BandsW w) : Calls Tryd.prog 3 #[.agg (arrV L), .string s] w fun e w' => e = .returned (.bool true) ∧ Below w.heap.size w w' := by
  have z16i : (Tryd.prog.info? 27).map (·.size) = some (arrV (List.replicate 16 0)).size := by rw [arr_size]; exact blockInfo
  have z38i : (Tryd.prog.info? 29).map (·.size) = some (arrV (List.replicate 38 0)).size := by rw [arr_size]; exact stateInfo
  have z16s : (Tryd.prog.info? 27).map (·.size) = some (intsV (List.replicate 16 0)).length := by rw [List.length_map]; exact blockInfo
  have z38s : (Tryd.prog.info? 29).map (·.size) = some (intsV (List.replicate 38 0)).length := by rw [List.length_map]; exact stateInfo
  have g16 : Tryd.prog.eqGuardType Tryd.prog.depth 27 = false := by kernel_rfl
  have g38 : Tryd.prog.eqGuardType Tryd.prog.depth 29 = false := by kernel_rfl
  have q16 := fun w => eq_block (List.replicate 16 0) (List.replicate 16 0) (by simp) (by simp) w
  have q38 := fun w => eq_state (List.replicate 38 0) (by simp) w
  simp only [beq_self_eq_true] at q16
  have k16 : (#[.int .i64 0, .int .i64 0, .int .i64 0, .int .i64 0, .int .i64 0, .int .i64 0, .int .i64 0, .int .i64 0, .int .i64 0, .int .i64 0, .int .i64 0, .int .i64 0, .int .i64 0, .int .i64 0, .int .i64 0, .int .i64 0] : Array Value).size = (arrV (List.replicate 16 0)).size := by rw [arr_size]; rfl
  have k38 : ((List.toArray (Value.int .i64 0 :: Value.int .i64 0 :: Value.int .i64 0 :: Value.int .i64 0 :: Value.int .i64 0 :: Value.int .i64 0 :: Value.int .i64 0 :: Value.int .i64 0 :: Value.int .i64 0 :: Value.int .i64 0 :: Value.int .i64 0 :: Value.int .i64 0 :: Value.int .i64 0 :: Value.int .i64 0 :: Value.int .i64 0 :: Value.int .i64 0 :: Value.int .i64 0 :: Value.int .i64 0 :: Value.int .i64 0 :: Value.int .i64 0 :: Value.int .i64 0 :: Value.int .i64 0 :: Value.int .i64 0 :: Value.int .i64 0 :: Value.int .i64 0 :: Value.int .i64 0 :: Value.int .i64 0 :: Value.int .i64 0 :: Value.int .i64 0 :: Value.int .i64 0 :: Value.int .i64 0 :: Value.int .i64 0 :: Value.int .i64 0 :: Value.int .i64 0 :: Value.int .i64 0 :: Value.int .i64 0 :: Value.int .i64 0 :: Value.int .i64 0 :: [])) : Array Value).size = (arrV (List.replicate 38 0)).size := by rw [arr_size]; rfl
  have sz := state_zero
  have bz := block_zero
  have hbad := fun h => dec_bad L s h
  have hgood := fun h0 hr => dec_good L s h0 hr
  have hdec := fun w hW => Decode_any L hL s w hW
  have hE : decE L s = if 10 ≤ s.size ∧ s.size ≤ 32 then (if rightS L = true then 0 else 1) else 10 := rfl
  obtain ⟨Z16, hZ16⟩ : ∃ Z, List.replicate 16 (0 : Int) = Z := ⟨_, rfl⟩
  obtain ⟨Z38, hZ38⟩ : ∃ Z, List.replicate 38 (0 : Int) = Z := ⟨_, rfl⟩
  simp only [hZ16, hZ38] at z16i z38i z16s z38s q16 q38 k16 k38 sz bz hbad
  obtain ⟨E, hEE⟩ : ∃ E, decE L s = E := ⟨_, rfl⟩
  obtain ⟨so, hso⟩ : ∃ l, decO L s = l := ⟨_, rfl⟩
  obtain ⟨sf, hsf⟩ : ∃ l, decSt L s = l := ⟨_, rfl⟩
  have hlen : so.length = 16 ∧ sf.length = 38 := by
    by_cases h : decE L s = 0
    · have hsz : 10 ≤ s.size ∧ s.size ≤ 32 := by
        by_cases h2 : 10 ≤ s.size ∧ s.size ≤ 32
        · exact h2
        · rw [hE, if_neg h2] at h; exact absurd h (by decide)
      have hr : rightS L = true := by
        cases hr : rightS L with
        | true => rfl
        | false => rw [hE, if_pos hsz, hr] at h; exact absurd h (by decide)
      obtain ⟨_, a, _, _, _, b⟩ := dec_good L s hsz hr
      exact ⟨hso ▸ a, hsf ▸ b⟩
    · obtain ⟨a, b⟩ := dec_bad L s h
      rw [← hso, ← hsf, a, b]; simp
  obtain ⟨hsol, hsfl⟩ := hlen
  simp only [hEE, hso, hsf] at hdec hgood hbad hE
  have jso : (Tryd.prog.info? 27).map (·.size) = some (arrV so).size := by rw [arr_size, hsol]; exact blockInfo
  have jsf : (Tryd.prog.info? 29).map (·.size) = some (arrV sf).size := by rw [arr_size, hsfl]; exact stateInfo
  have kso : (#[.int .i64 0, .int .i64 0, .int .i64 0, .int .i64 0, .int .i64 0, .int .i64 0, .int .i64 0, .int .i64 0, .int .i64 0, .int .i64 0, .int .i64 0, .int .i64 0, .int .i64 0, .int .i64 0, .int .i64 0, .int .i64 0] : Array Value).size = (arrV so).size := by rw [arr_size, hsol]; rfl
  have ksf : ((List.toArray (Value.int .i64 0 :: Value.int .i64 0 :: Value.int .i64 0 :: Value.int .i64 0 :: Value.int .i64 0 :: Value.int .i64 0 :: Value.int .i64 0 :: Value.int .i64 0 :: Value.int .i64 0 :: Value.int .i64 0 :: Value.int .i64 0 :: Value.int .i64 0 :: Value.int .i64 0 :: Value.int .i64 0 :: Value.int .i64 0 :: Value.int .i64 0 :: Value.int .i64 0 :: Value.int .i64 0 :: Value.int .i64 0 :: Value.int .i64 0 :: Value.int .i64 0 :: Value.int .i64 0 :: Value.int .i64 0 :: Value.int .i64 0 :: Value.int .i64 0 :: Value.int .i64 0 :: Value.int .i64 0 :: Value.int .i64 0 :: Value.int .i64 0 :: Value.int .i64 0 :: Value.int .i64 0 :: Value.int .i64 0 :: Value.int .i64 0 :: Value.int .i64 0 :: Value.int .i64 0 :: Value.int .i64 0 :: Value.int .i64 0 :: Value.int .i64 0 :: [])) : Array Value).size = (arrV sf).size := by rw [arr_size, hsfl]; rfl
  have isf : (Tryd.prog.info? 29).map (·.size) = some (intsV sf).length := by rw [List.length_map, hsfl]; exact stateInfo
  have iL : (Tryd.prog.info? 25).map (·.size) = some (intsV L).length := by rw [List.length_map, hL]; exact rstateInfo
  have HD := Lib.hid hdec
  have HGOOD := Lib.hid hgood
  have HBAD := Lib.hid hbad
  have HE := Lib.hid hE
  have HQ16 := Lib.hid q16
  have HQ38 := Lib.hid q38
  have HSZ := Lib.hid sz
  have HBZ := Lib.hid bz
  have HG16 := Lib.hid g16
  have HG38 := Lib.hid g38
  clear hdec hgood hbad hE q16 q38 hZ16 hZ38 sz bz g16 g38 hEE hso hsf
  have hA0 := Blk.new w (arrV L) 25
  have hb0 : Below w.heap.size w (w.alloc (.cells (arrV L) 25)) := (Below.refl _ _).alloc (Nat.le_refl _) _
  have hW0 : BandsW (w.alloc (.cells (arrV L) 25)) := Blk.alloc hW _
  have hs0 : (w.alloc (.cells (arrV L) 25)).heap.size = w.heap.size + 1 := by simp
  obtain ⟨B, hB⟩ : ∃ B, w.heap.size = B := ⟨_, rfl⟩
  rw [hB] at hA0 hb0 hs0
  go_enter Tryd.func3, Tryd.ntmps3
  go_upto_region 1 with (fail)
  generalize (w.alloc (.cells (arrV L) 25)) = w0 at hA0 hb0 hW0 hs0 ⊢
  have hA := hA0
  clear hA0
  by_cases hlong : (200 : Int) < s.size
  · go_wp2_with fail
    refine (awake_any _ hW0).mono ?_
    rintro e w1 ⟨rfl, hb1⟩
    have hW1 : BandsW w1 := Blk.newB hW0 hb1
    have hb01 := hb0.trans (hb1.mono (by omega))
    go_wp2_with fail
    refine (awake_any _ hW1).mono ?_
    rintro e w2 ⟨rfl, hb2⟩
    have hf : Below B w w2 := hb01.trans (hb2.mono (by have := hb1.size; omega))
    go_wp2_with fail
    go_ret
    exact ⟨rfl, by first | exact hf | (rw [hB]; exact hf)⟩
  go_wp2_with fail
  refine (awake_any _ hW0).mono ?_
  rintro e w1 ⟨rfl, hb1⟩
  have hW1 : BandsW w1 := Blk.newB hW0 hb1
  have hA1 := hA.newB hb1
  have hb01 : Below B w w1 := hb0.trans (hb1.mono (by omega))
  have hs1 := hb1.size
  have rL1 := hA1.rangeAll
  clear hW0 hA hb0
  go_wp2_with (first | (refine wpList_load_mid rfl 25 (.tmp 2) rfl B 0 rfl (intsV L) _ rL1 Tryd.underlying25 rfl iL ?_))
  refine (Of_any L hL _).mono ?_
  rintro e w2 ⟨rfl, hb2⟩
  have hW2 : BandsW w2 := Blk.newB hW1 hb2
  have hA2 := hA1.newB hb2
  have hb02 : Below B w w2 := hb01.trans (hb2.mono (by omega))
  have hs2 := hb2.size
  clear hW1 hA1 hb01 rL1
  go_wp2_with fail
  refine (HD.out _ hW2).mono ?_
  rintro e w3 ⟨rfl, hb3⟩
  have hW3 : BandsW w3 := Blk.newB hW2 hb3
  have hA3 := hA2.newB hb3
  have hb03 : Below B w w3 := hb02.trans (hb3.mono (by omega))
  have hs3 := hb3.size
  clear hW2 hA2 hb02
  obtain ⟨g, hg⟩ : ∃ g, w3.heap.size = g := ⟨_, rfl⟩
  obtain ⟨hN1, hN2, hk6, hs6⟩ := two_new (fun _ => False) w3 #[.int .i64 0, .int .i64 0, .int .i64 0, .int .i64 0, .int .i64 0, .int .i64 0, .int .i64 0, .int .i64 0, .int .i64 0, .int .i64 0, .int .i64 0, .int .i64 0, .int .i64 0, .int .i64 0, .int .i64 0, .int .i64 0] (List.toArray (Value.int .i64 0 :: Value.int .i64 0 :: Value.int .i64 0 :: Value.int .i64 0 :: Value.int .i64 0 :: Value.int .i64 0 :: Value.int .i64 0 :: Value.int .i64 0 :: Value.int .i64 0 :: Value.int .i64 0 :: Value.int .i64 0 :: Value.int .i64 0 :: Value.int .i64 0 :: Value.int .i64 0 :: Value.int .i64 0 :: Value.int .i64 0 :: Value.int .i64 0 :: Value.int .i64 0 :: Value.int .i64 0 :: Value.int .i64 0 :: Value.int .i64 0 :: Value.int .i64 0 :: Value.int .i64 0 :: Value.int .i64 0 :: Value.int .i64 0 :: Value.int .i64 0 :: Value.int .i64 0 :: Value.int .i64 0 :: Value.int .i64 0 :: Value.int .i64 0 :: Value.int .i64 0 :: Value.int .i64 0 :: Value.int .i64 0 :: Value.int .i64 0 :: Value.int .i64 0 :: Value.int .i64 0 :: Value.int .i64 0 :: Value.int .i64 0 :: [])) 27 29
  rw [hg] at hN1 hN2 hs6
  have hM1 := (hN1.setRow (new := arrV so)).setRowOther (g := g + 1) (new := arrV sf) (by omega)
  have hM2 := (hN2.setRowOther (g := g) (new := arrV so) (by omega)).setRow (new := arrV sf)
  have hA4 : Blk ((((w3.alloc (.cells #[.int .i64 0, .int .i64 0, .int .i64 0, .int .i64 0, .int .i64 0, .int .i64 0, .int .i64 0, .int .i64 0, .int .i64 0, .int .i64 0, .int .i64 0, .int .i64 0, .int .i64 0, .int .i64 0, .int .i64 0, .int .i64 0] 27)).alloc (.cells (List.toArray (Value.int .i64 0 :: Value.int .i64 0 :: Value.int .i64 0 :: Value.int .i64 0 :: Value.int .i64 0 :: Value.int .i64 0 :: Value.int .i64 0 :: Value.int .i64 0 :: Value.int .i64 0 :: Value.int .i64 0 :: Value.int .i64 0 :: Value.int .i64 0 :: Value.int .i64 0 :: Value.int .i64 0 :: Value.int .i64 0 :: Value.int .i64 0 :: Value.int .i64 0 :: Value.int .i64 0 :: Value.int .i64 0 :: Value.int .i64 0 :: Value.int .i64 0 :: Value.int .i64 0 :: Value.int .i64 0 :: Value.int .i64 0 :: Value.int .i64 0 :: Value.int .i64 0 :: Value.int .i64 0 :: Value.int .i64 0 :: Value.int .i64 0 :: Value.int .i64 0 :: Value.int .i64 0 :: Value.int .i64 0 :: Value.int .i64 0 :: Value.int .i64 0 :: Value.int .i64 0 :: Value.int .i64 0 :: Value.int .i64 0 :: Value.int .i64 0 :: [])) 29)).setRow g (arrV so)).setRow (g + 1) (arrV sf)) B (arrV L) 25 := (((hA3.alloc _).alloc _).setRowOther (by omega)).setRowOther (by omega)
  have hW4 : BandsW ((((w3.alloc (.cells #[.int .i64 0, .int .i64 0, .int .i64 0, .int .i64 0, .int .i64 0, .int .i64 0, .int .i64 0, .int .i64 0, .int .i64 0, .int .i64 0, .int .i64 0, .int .i64 0, .int .i64 0, .int .i64 0, .int .i64 0, .int .i64 0] 27)).alloc (.cells (List.toArray (Value.int .i64 0 :: Value.int .i64 0 :: Value.int .i64 0 :: Value.int .i64 0 :: Value.int .i64 0 :: Value.int .i64 0 :: Value.int .i64 0 :: Value.int .i64 0 :: Value.int .i64 0 :: Value.int .i64 0 :: Value.int .i64 0 :: Value.int .i64 0 :: Value.int .i64 0 :: Value.int .i64 0 :: Value.int .i64 0 :: Value.int .i64 0 :: Value.int .i64 0 :: Value.int .i64 0 :: Value.int .i64 0 :: Value.int .i64 0 :: Value.int .i64 0 :: Value.int .i64 0 :: Value.int .i64 0 :: Value.int .i64 0 :: Value.int .i64 0 :: Value.int .i64 0 :: Value.int .i64 0 :: Value.int .i64 0 :: Value.int .i64 0 :: Value.int .i64 0 :: Value.int .i64 0 :: Value.int .i64 0 :: Value.int .i64 0 :: Value.int .i64 0 :: Value.int .i64 0 :: Value.int .i64 0 :: Value.int .i64 0 :: Value.int .i64 0 :: [])) 29)).setRow g (arrV so)).setRow (g + 1) (arrV sf)) := Blk.setRowOther (Blk.setRowOther (Blk.alloc (Blk.alloc hW3 _) _) (by have := hW3.lt; omega)) (by have := hW3.lt; omega)
  have hf4 : Below B w ((((w3.alloc (.cells #[.int .i64 0, .int .i64 0, .int .i64 0, .int .i64 0, .int .i64 0, .int .i64 0, .int .i64 0, .int .i64 0, .int .i64 0, .int .i64 0, .int .i64 0, .int .i64 0, .int .i64 0, .int .i64 0, .int .i64 0, .int .i64 0] 27)).alloc (.cells (List.toArray (Value.int .i64 0 :: Value.int .i64 0 :: Value.int .i64 0 :: Value.int .i64 0 :: Value.int .i64 0 :: Value.int .i64 0 :: Value.int .i64 0 :: Value.int .i64 0 :: Value.int .i64 0 :: Value.int .i64 0 :: Value.int .i64 0 :: Value.int .i64 0 :: Value.int .i64 0 :: Value.int .i64 0 :: Value.int .i64 0 :: Value.int .i64 0 :: Value.int .i64 0 :: Value.int .i64 0 :: Value.int .i64 0 :: Value.int .i64 0 :: Value.int .i64 0 :: Value.int .i64 0 :: Value.int .i64 0 :: Value.int .i64 0 :: Value.int .i64 0 :: Value.int .i64 0 :: Value.int .i64 0 :: Value.int .i64 0 :: Value.int .i64 0 :: Value.int .i64 0 :: Value.int .i64 0 :: Value.int .i64 0 :: Value.int .i64 0 :: Value.int .i64 0 :: Value.int .i64 0 :: Value.int .i64 0 :: Value.int .i64 0 :: Value.int .i64 0 :: [])) 29)).setRow g (arrV so)).setRow (g + 1) (arrV sf)) := Below.setRow (Below.setRow ((hb03.alloc (by omega) _).alloc (by simp; omega) _) (by omega) _) (by omega) _
  have hs4 : ((((w3.alloc (.cells #[.int .i64 0, .int .i64 0, .int .i64 0, .int .i64 0, .int .i64 0, .int .i64 0, .int .i64 0, .int .i64 0, .int .i64 0, .int .i64 0, .int .i64 0, .int .i64 0, .int .i64 0, .int .i64 0, .int .i64 0, .int .i64 0] 27)).alloc (.cells (List.toArray (Value.int .i64 0 :: Value.int .i64 0 :: Value.int .i64 0 :: Value.int .i64 0 :: Value.int .i64 0 :: Value.int .i64 0 :: Value.int .i64 0 :: Value.int .i64 0 :: Value.int .i64 0 :: Value.int .i64 0 :: Value.int .i64 0 :: Value.int .i64 0 :: Value.int .i64 0 :: Value.int .i64 0 :: Value.int .i64 0 :: Value.int .i64 0 :: Value.int .i64 0 :: Value.int .i64 0 :: Value.int .i64 0 :: Value.int .i64 0 :: Value.int .i64 0 :: Value.int .i64 0 :: Value.int .i64 0 :: Value.int .i64 0 :: Value.int .i64 0 :: Value.int .i64 0 :: Value.int .i64 0 :: Value.int .i64 0 :: Value.int .i64 0 :: Value.int .i64 0 :: Value.int .i64 0 :: Value.int .i64 0 :: Value.int .i64 0 :: Value.int .i64 0 :: Value.int .i64 0 :: Value.int .i64 0 :: Value.int .i64 0 :: Value.int .i64 0 :: [])) 29)).setRow g (arrV so)).setRow (g + 1) (arrV sf)).heap.size = g + 2 := by simp; omega
  go_upto_region 4 with (first | (refine wpList_store_blk rfl 27 (.tmp 5) (.tmp 22) rfl g _ (arrV so) rfl rfl 27 hN1 jso kso (arr_one _) ?_) | (refine wpList_store_blk rfl 29 (.tmp 6) (.tmp 23) rfl (g + 1) _ (arrV sf) rfl rfl 29 (hN2.setRowOther (by omega)) jsf ksf (arr_one _) ?_))
  revert hM1 hM2 hA4 hW4 hf4 hs4
  clear hW3 hA3 hb03 hN1 hN2 hk6 hs6
  generalize ((((w3.alloc (.cells #[.int .i64 0, .int .i64 0, .int .i64 0, .int .i64 0, .int .i64 0, .int .i64 0, .int .i64 0, .int .i64 0, .int .i64 0, .int .i64 0, .int .i64 0, .int .i64 0, .int .i64 0, .int .i64 0, .int .i64 0, .int .i64 0] 27)).alloc (.cells (List.toArray (Value.int .i64 0 :: Value.int .i64 0 :: Value.int .i64 0 :: Value.int .i64 0 :: Value.int .i64 0 :: Value.int .i64 0 :: Value.int .i64 0 :: Value.int .i64 0 :: Value.int .i64 0 :: Value.int .i64 0 :: Value.int .i64 0 :: Value.int .i64 0 :: Value.int .i64 0 :: Value.int .i64 0 :: Value.int .i64 0 :: Value.int .i64 0 :: Value.int .i64 0 :: Value.int .i64 0 :: Value.int .i64 0 :: Value.int .i64 0 :: Value.int .i64 0 :: Value.int .i64 0 :: Value.int .i64 0 :: Value.int .i64 0 :: Value.int .i64 0 :: Value.int .i64 0 :: Value.int .i64 0 :: Value.int .i64 0 :: Value.int .i64 0 :: Value.int .i64 0 :: Value.int .i64 0 :: Value.int .i64 0 :: Value.int .i64 0 :: Value.int .i64 0 :: Value.int .i64 0 :: Value.int .i64 0 :: Value.int .i64 0 :: Value.int .i64 0 :: [])) 29)).setRow g (arrV so)).setRow (g + 1) (arrV sf)) = w4
  intro hM1 hM2 hA hW4 hf hs4
  have hgB : B < g := by omega
  by_cases hsz : 10 ≤ s.size ∧ s.size ≤ 32
  case neg =>
    have hE10 : E = 10 := by rw [HE.out, if_neg hsz]
    subst hE10
    obtain ⟨e1, e2⟩ := HBAD.out (by decide)
    replace e1 := e1.symm
    replace e2 := e2.symm
    subst e1
    subst e2
    have r1 := hM1.rangeAll
    have r2 := hM2.rangeAll
    by_cases hl : (s.size : Int) < 10
    · clear hsz
      go_wp2_with (first | (refine wpList_load_g (by rfl) 27 (.tmp 5) rfl g 0 rfl (intsV Z16) (.array 16 3) r1 Tryd.underlying27 rfl z16s ?_) | (refine wpList_load_g (by rfl) 29 (.tmp 6) rfl (g + 1) 0 rfl (intsV Z38) _ r2 Tryd.underlying29 rfl z38s ?_) | (refine wpList_build_g (by rfl) 27 #[] rfl [] rfl (arrV Z16) HBZ.out ?_) | (refine wpList_build_g (by rfl) 29 #[] rfl [] rfl (arrV Z38) HSZ.out ?_) | (refine wpList_eql_g (by rfl) 27 27 (.tmp 36) (.tmp 37) rfl (arrV Z16) (arrV Z16) rfl rfl HG16.out true (HQ16.out _) ?_) | (refine wpList_eql_g (by rfl) 29 29 (.tmp 41) (.tmp 42) rfl (arrV Z38) (arrV Z38) rfl rfl HG38.out true (HQ38.out _) ?_))
      go_ret
      exact ⟨rfl, by first | exact hf | (rw [hB]; exact hf)⟩
    · have hl2 : (32 : Int) < s.size := by omega
      clear hsz
      go_wp2_with (first | (refine wpList_load_g (by rfl) 27 (.tmp 5) rfl g 0 rfl (intsV Z16) (.array 16 3) r1 Tryd.underlying27 rfl z16s ?_) | (refine wpList_load_g (by rfl) 29 (.tmp 6) rfl (g + 1) 0 rfl (intsV Z38) _ r2 Tryd.underlying29 rfl z38s ?_) | (refine wpList_build_g (by rfl) 27 #[] rfl [] rfl (arrV Z16) HBZ.out ?_) | (refine wpList_build_g (by rfl) 29 #[] rfl [] rfl (arrV Z38) HSZ.out ?_) | (refine wpList_eql_g (by rfl) 27 27 (.tmp 36) (.tmp 37) rfl (arrV Z16) (arrV Z16) rfl rfl HG16.out true (HQ16.out _) ?_) | (refine wpList_eql_g (by rfl) 29 29 (.tmp 41) (.tmp 42) rfl (arrV Z38) (arrV Z38) rfl rfl HG38.out true (HQ38.out _) ?_))
      go_ret
      exact ⟨rfl, by first | exact hf | (rw [hB]; exact hf)⟩
  case pos =>
    have h10 : ¬ (s.size : Int) < 10 := by omega
    have h32 : ¬ (32 : Int) < s.size := by omega
    have rL := hA.rangeAll
    go_wp2_with (first | (refine wpList_load_mid rfl 25 (.tmp 2) rfl B 0 rfl (intsV L) _ rL Tryd.underlying25 rfl iL ?_))
    refine (Of_any L hL _).mono ?_
    rintro e w5 ⟨rfl, hb5⟩
    replace hM1 := hM1.newB hb5
    replace hM2 := hM2.newB hb5
    replace hf : Below B w w5 := hf.trans (hb5.mono (by omega))
    have hs5 := hb5.size
    go_wp2_with fail
    refine (Right_any L hL _).mono ?_
    rintro e w6 ⟨rfl, hb6⟩
    replace hM1 := hM1.newB hb6
    replace hM2 := hM2.newB hb6
    replace hf : Below B w w6 := hf.trans (hb6.mono (by omega))
    have hs6 := hb6.size
    clear rL hA hW4
    cases hr : rightS L with
    | false =>
      have hE1 : E = 1 := by rw [HE.out, if_pos hsz, hr]; rfl
      subst hE1
      obtain ⟨e1, e2⟩ := HBAD.out (by decide)
      replace e1 := e1.symm
      replace e2 := e2.symm
      subst e1
      subst e2
      have r1 := hM1.rangeAll
      have r2 := hM2.rangeAll
      clear hsz
      go_wp2_with (first | (refine wpList_load_g (by rfl) 27 (.tmp 5) rfl g 0 rfl (intsV Z16) (.array 16 3) r1 Tryd.underlying27 rfl z16s ?_) | (refine wpList_load_g (by rfl) 29 (.tmp 6) rfl (g + 1) 0 rfl (intsV Z38) _ r2 Tryd.underlying29 rfl z38s ?_) | (refine wpList_build_g (by rfl) 27 #[] rfl [] rfl (arrV Z16) HBZ.out ?_) | (refine wpList_build_g (by rfl) 29 #[] rfl [] rfl (arrV Z38) HSZ.out ?_) | (refine wpList_eql_g (by rfl) 27 27 (.tmp 52) (.tmp 53) rfl (arrV Z16) (arrV Z16) rfl rfl HG16.out true (HQ16.out _) ?_) | (refine wpList_eql_g (by rfl) 29 29 (.tmp 57) (.tmp 58) rfl (arrV Z38) (arrV Z38) rfl rfl HG38.out true (HQ38.out _) ?_))
      go_ret
      exact ⟨rfl, by first | exact hf | (rw [hB]; exact hf)⟩
    | true =>
      obtain ⟨hE0, -, hso16, hrs, hlo, -⟩ := HGOOD.out hsz hr
      subst hE0
      have HSO := Lib.hid hso16
      have hRR := fun w => Right_any sf hsfl w
      rw [hrs] at hRR
      have HRR := Lib.hid hRR
      have HLO := Lib.hid hlo
      clear hso16 hrs hlo hsz hRR hr
      go_wp2_with fail
      go_loop [8] (fun i => ∃ k : Nat, k ≤ 16 ∧ i = .int .i64 k) (fun i => 16 - (intOf i).toNat)
      case atStart => exact ⟨0, by omega, rfl⟩
      case round =>
        obtain ⟨k, hk, rfl⟩ := hrel
        by_cases hlt : k < 16
        · have c1 := (hM1.cell k).trans (arr_get (by rw [hsol]; exact hlt))
          have hx := HSO.out (so.getD k 0) (by rw [List.getD_eq_getElem?_getD, List.getElem?_eq_getElem (by omega)]; exact List.getElem_mem _)
          obtain ⟨x, hxe⟩ : ∃ x, so.getD k 0 = x := ⟨_, rfl⟩
          rw [hxe] at c1 hx
          obtain ⟨hx0, hx1⟩ := hx
          clear hxe
          go_wp2_with fail
          go_round
          case rel => exact ⟨k + 1, hlt, by go_num⟩
          case measure => simp [intOf]; omega
        · obtain rfl : k = 16 := by omega
          have r2 := hM2.rangeAll
          go_wp2_with (first | (refine wpList_load_g (by rfl) 29 (.tmp 6) rfl (g + 1) 0 rfl (intsV sf) _ r2 Tryd.underlying29 rfl isf ?_))
          refine (HRR.out _).mono ?_
          rintro e w7 ⟨rfl, hb7⟩
          have hM27 := hM2.newB hb7
          have hf7 : Below B w w7 := hf.trans (hb7.mono (by omega))
          have c37 := (hM27.cell 37).trans (arr_get (l := sf) (by omega))
          rw [show sf.getD 37 0 = 0 from HLO.out] at c37
          go_wp2_with fail
          go_ret
          exact ⟨rfl, by first | exact hf7 | (rw [hB]; exact hf7)⟩
end Go.Proofs.YtnohjidoelohkaaDoor
