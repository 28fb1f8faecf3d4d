/- The walk of the document's Lose (spoolref14). -/
import Derived.Test.YtmfihaaiddolmaaGreatDoorRef13c
import Derived.Test.YtmfihaaiddolmaaGreatDoorLot7
import Derived.Deep.CutBlock
set_option linter.unusedSimpArgs false
set_option linter.unusedVariables false
namespace Go.Proofs.YtmfihaaiddolmaaGreatDoor
open Go.RowKit

set_option maxRecDepth 100000 in
set_option maxHeartbeats 4000000 in
theorem RLose_any (L : List Int) (hL : L.length = 38) (hr : rightS L = true) (w : World) : Calls Tryz.prog 64 #[.agg (arrV L)] w fun e w' => e = .returned (.tuple #[.agg (arrV (loseO L)), .agg (arrV (loseSt L))]) ∧ Below w.heap.size w w' := by
  have h1 : loseO L = soundL (nextO L (loseW L)) := by unfold loseO; rw [hr]; rfl
  have h2 : loseSt L = nextSt L (downL (levL L)) (loseW L) (loseN L) := by unfold loseSt; rw [hr]; rfl
  have hwl := loseW_ok hL hr
  have hdl := (downL_ok hL hr).1
  have hnx := fun w => RNext_any L (downL (levL L)) (loseW L) (loseN L) hL hr hdl hwl.1 hwl.2 w
  simp only [← h1, ← h2] at hnx
  have LO1 := Len.mk (loseO_len L)
  have LO2 := Len.mk (loseSt_len hL)
  obtain ⟨O1, hO1⟩ : ∃ O, loseO L = O := ⟨_, rfl⟩
  obtain ⟨O2, hO2⟩ : ∃ O, loseSt L = O := ⟨_, rfl⟩
  simp only [hO1, hO2] at hnx LO1 LO2 ⊢
  have LL := Len.mk hL
  have l16 := LL.wav.out
  have l4 := LL.lev.out
  have hn0 := (right_parts hr).2.2
  have hwb : ∀ k < 16, -1048576 ≤ (wavL L).getD k 0 ∧ (wavL L).getD k 0 ≤ 1048576 := by
    intro k hk
    have h1 := (right_parts hr).2.1
    rw [List.any_eq_false] at h1
    have hm : (wavL L).getD k 0 ∈ wavL L := by rw [List.getD_eq_getElem?_getD, List.getElem?_eq_getElem (by omega)]; exact List.getElem_mem _
    have h2 := h1 _ hm
    unfold wideP at h2
    simp only [Bool.or_eq_true, decide_eq_true_eq, not_or] at h2
    omega
  have hvb : ∀ k < 4, 0 ≤ (levL L).getD k 0 ∧ (levL L).getD k 0 ≤ 20 := by
    intro k hk
    have h1 := (right_parts hr).1
    have hm : (levL L).getD k 0 ∈ levL L := by rw [List.getD_eq_getElem?_getD, List.getElem?_eq_getElem (by omega)]; exact List.getElem_mem _
    exact h1 _ hm
  have hwg : ∀ k, k < 16 → L.getD (21 + k) 0 = (wavL L).getD k 0 := fun k hk => by
    unfold wavL; rw [List.getD_eq_getElem?_getD, List.getD_eq_getElem?_getD, List.getElem?_take, if_pos hk, List.getElem?_drop]
  have hvg : ∀ k, k < 4 → L.getD (17 + k) 0 = (levL L).getD k 0 := fun k hk => by
    unfold levL; rw [List.getD_eq_getElem?_getD, List.getD_eq_getElem?_getD, List.getElem?_take, if_pos hk, List.getElem?_drop]
  have hlW : loseW L = if 8 ≤ lostL L then List.replicate 16 0 else halfL (wavL L) := rfl
  have hlN : loseN L = min (lostL L + 1) 255 := rfl
  have hlw16 := hwl.1
  obtain ⟨wv, hwv⟩ : ∃ l, wavL L = l := ⟨_, rfl⟩
  obtain ⟨lv, hlv⟩ : ∃ l, levL L = l := ⟨_, rfl⟩
  obtain ⟨n, hn⟩ : ∃ n, lostL L = n := ⟨_, rfl⟩
  obtain ⟨W, hW'⟩ : ∃ l, loseW L = l := ⟨_, rfl⟩
  obtain ⟨N, hN'⟩ : ∃ l, loseN L = l := ⟨_, rfl⟩
  rw [hwv] at l16
  rw [hlv] at l4 hdl
  rw [hn] at hn0
  rw [hW', hn, hwv] at hlW
  rw [hN', hn] at hlN
  rw [hW'] at hlw16
  simp only [hwv] at hwb hwg
  simp only [hlv] at hvb hvg
  simp only [hlv, hW', hN'] at hnx
  have c37 : L.getD 37 0 = n := hn
  have HWB := Lib.hid hwb
  have HVB := Lib.hid hvb
  have HWG := Lib.hid hwg
  have HVG := Lib.hid hvg
  have HNX := Lib.hid hnx
  have HLW := Lib.hid hlW
  have HLN := Lib.hid hlN
  have LW := Len.mk hlw16
  have LWV := Len.mk l16
  have LLV := Len.mk l4
  have LD := Len.mk hdl
  have HC37 := Lib.hid c37
  clear h1 h2 hwl hdl hnx hO1 hO2 l16 l4 hwb hvb hwg hvg hlW hlN hlw16 hwv hlv hn hW' hN' c37 hL
  obtain ⟨B, hB⟩ : ∃ B, w.heap.size = B := ⟨_, rfl⟩
  have hfar := Below.refl B w
  have hsz : B ≤ w.heap.size := by omega
  go_enter Tryz.func64, Tryz.ntmps64
  go_upto_region 3 with (fail)
  refine wp_gen (fun W => Blk W (B) (arrV L) 25 ∧ Blk W (B + 1) (arrV (zs 16)) 22 ∧ Blk W (B + 1 + 1) (arrV (zs 38)) 25 ∧ Blk W (B + 1 + 1 + 1) (arrV (zs 16)) 22 ∧ Blk W (B + 1 + 1 + 1 + 1) (arrV (zs 4)) 23 ∧ Below (B) w W ∧ B + 5 ≤ W.heap.size) ⟨bk_, bk_, bk_, bk_, bk_, bl_, sz_⟩ ?_
  clear hfar hsz
  rintro w1 ⟨hA, hR1, hR2, hW, hV, hfar, hsz⟩
  have hz16 : (zs 16).length = 16 := Len.zs 16
  have hz4 : (zs 4).length = 4 := Len.zs 4
  have hlp1 : n < 8 → W = halfL wv := fun h => by rw [HLW.out, if_neg (by omega)]
  have hlp2 : ¬ n < 8 → W = zs 16 := fun h => by rw [HLW.out, if_pos (by omega)]; rfl
  have HP1 := Lib.hid hlp1
  have HP2 := Lib.hid hlp2
  clear hlp1 hlp2
  go_upto_block 0 with fail
  go_cut [6] from 9 to 24 (fun s6 wx => Blk wx B (arrV L) 25 ∧ Blk wx (B + 1) (arrV (zs 16)) 22 ∧ Blk wx (B + 1 + 1) (arrV (zs 38)) 25 ∧ Blk wx (B + 1 + 1 + 1) (arrV W) 22 ∧ Blk wx (B + 1 + 1 + 1 + 1) (arrV (zs 4)) 23 ∧ Below B w wx ∧ B + 5 ≤ wx.heap.size)
  case first =>
    go_wp2_with fail
    go_loopw [6] (fun i wr => ∃ k : Nat, k ≤ 16 ∧ i = .int .i64 k ∧ (n < 8 ∨ k = 0) ∧ Blk wr B (arrV L) 25 ∧ Blk wr (B + 1) (arrV (zs 16)) 22 ∧ Blk wr (B + 1 + 1) (arrV (zs 38)) 25 ∧ Blk wr (B + 1 + 1 + 1) (arrV (turnL W (zs 16) k)) 22 ∧ Blk wr (B + 1 + 1 + 1 + 1) (arrV (zs 4)) 23 ∧ Below B w wr ∧ B + 5 ≤ wr.heap.size) (fun i _ => 16 - (intOf i).toNat)
    case atStart => exact ⟨0, by omega, rfl, .inr rfl, hA, hR1, hR2, by rw [turnL_zero]; exact hW, hV, hfar, hsz⟩
    case round =>
      clear hA hR1 hR2 hW hV hfar hsz
      obtain ⟨k, hk, rfl, hnk, hA, hR1, hR2, hW, hV, hfar, hsz⟩ := hrel
      have c37 := (hA.cell 37).trans (arr_get (l := L) (by rw [LL.out]; omega))
      rw [HC37.out] at c37
      by_cases hgo : k < 16 ∧ n < 8
      · obtain ⟨hlt, hn8⟩ := hgo
        have hx := HWB.out k hlt
        have c1 := (hA.cell (21 + k)).trans (arr_get (l := L) (by rw [LL.out]; omega))
        rw [HWG.out k hlt] at c1
        have hWk : W.getD k 0 = (wv.getD k 0).tdiv 2 := by
          rw [HP1.out hn8]; unfold halfL
          rw [List.getD_eq_getElem?_getD, List.getElem?_map, List.getD_eq_getElem?_getD, List.getElem?_eq_getElem (by rw [LWV.out]; exact hlt)]; rfl
        have hset := turnL_set (k := k) LW.out hz16 hlt hWk
        have LT := turnL_len (k := k) LW.out hz16 (Nat.le_of_lt hlt)
        obtain ⟨T, hT⟩ : ∃ T, turnL W (zs 16) k = T := ⟨_, rfl⟩
        rw [hT] at hset LT hW
        obtain ⟨x, hxe⟩ : ∃ x, wv.getD k 0 = x := ⟨_, rfl⟩
        rw [hxe] at hset hx c1
        have c2 := (hW.cell k).trans (arr_get (l := T) (by rw [LT.out]; omega))
        have f2 := hW.frozen k
        have HSET := Lib.hid hset
        have hlti : (k : Int) < 16 := by omega
        clear hset hT hxe hWk
        go_wp2_with fail
        go_roundw
        case rel => exact ⟨k + 1, hlt, by go_num, .inl hn8, by exact bk_, by exact bk_, by exact bk_, by rw [← HSET.out]; exact bk_, by exact bk_, by exact bl_, by exact sz_⟩
        case measure => simp [intOf]; omega
      · have hWd : Blk wr (B + 1 + 1 + 1) (arrV W) 22 := by
          by_cases hn8 : n < 8
          · obtain rfl : k = 16 := by omega
            rw [turnL_all LW.out hz16] at hW; exact hW
          · obtain rfl : k = 0 := by omega
            rw [turnL_zero, ← HP2.out (by omega)] at hW; exact hW
        by_cases hlt : k < 16
        · have hlti : (k : Int) < 16 := by omega
          have hn8 : ¬ n < 8 := fun h => hgo ⟨hlt, h⟩
          go_wp2_with fail
          go_meet
          case rel => exact ⟨hA, hR1, hR2, hWd, hV, hfar, hsz⟩
        · have hlti : ¬ (k : Int) < 16 := by omega
          go_wp2_with fail
          go_meet
          case rel => exact ⟨hA, hR1, hR2, hWd, hV, hfar, hsz⟩
  case rest =>
    clear hA hR1 hR2 hW hV hfar hsz HP1 HP2 hz16
    obtain ⟨hA, hR1, hR2, hW, hV, hfar, hsz⟩ := hcut
    obtain ⟨D, hD⟩ : ∃ D, downL lv = D := ⟨_, rfl⟩
    simp only [hD] at HNX LD
    have hDk : ∀ k < 4, D.getD k 0 = max (lv.getD k 0 - 1) 0 := fun k hk => by
      rw [← hD]; unfold downL
      rw [List.getD_eq_getElem?_getD, List.getElem?_map, List.getD_eq_getElem?_getD, List.getElem?_eq_getElem (by rw [LLV.out]; exact hk)]; rfl
    have HDK := Lib.hid hDk
    clear hDk hD
    go_wp2_with fail
    go_loopw [7] (fun i wr => ∃ k : Nat, k ≤ 4 ∧ i = .int .i64 k ∧ Blk wr B (arrV L) 25 ∧ Blk wr (B + 1) (arrV (zs 16)) 22 ∧ Blk wr (B + 1 + 1) (arrV (zs 38)) 25 ∧ Blk wr (B + 1 + 1 + 1) (arrV W) 22 ∧ Blk wr (B + 1 + 1 + 1 + 1) (arrV (turnL D (zs 4) k)) 23 ∧ Below B w wr ∧ B + 5 ≤ wr.heap.size) (fun i _ => 4 - (intOf i).toNat)
    case atStart => exact ⟨0, by omega, rfl, hA, hR1, hR2, hW, by rw [turnL_zero]; exact hV, hfar, hsz⟩
    case round =>
      clear hA hR1 hR2 hW hV hfar hsz
      obtain ⟨k, hk, rfl, hA, hR1, hR2, hW, hV, hfar, hsz⟩ := hrel
      by_cases hlt : k < 4
      · have hx := HVB.out k hlt
        have c1 := (hA.cell (17 + k)).trans (arr_get (l := L) (by rw [LL.out]; omega))
        rw [HVG.out k hlt] at c1
        have hDk := HDK.out k hlt
        obtain ⟨x, hxe⟩ : ∃ x, lv.getD k 0 = x := ⟨_, rfl⟩
        rw [hxe] at hx c1 hDk
        have hlti : (k : Int) < 4 := by omega
        by_cases hx0 : 0 < x
        · have hset := turnL_set (k := k) (x := x - 1) LD.out hz4 hlt (by omega)
          have LT := turnL_len (k := k) LD.out hz4 (Nat.le_of_lt hlt)
          obtain ⟨T, hT⟩ : ∃ T, turnL D (zs 4) k = T := ⟨_, rfl⟩
          rw [hT] at hset LT hV
          have c2 := (hV.cell k).trans (arr_get (l := T) (by rw [LT.out]; omega))
          have f2 := hV.frozen k
          have HSET := Lib.hid hset
          clear hset hT hxe hDk
          go_wp2_with fail
          go_roundw
          case rel => exact ⟨k + 1, hlt, by go_num, by exact bk_, by exact bk_, by exact bk_, by exact bk_, by rw [← HSET.out]; exact bk_, by exact bl_, by exact sz_⟩
          case measure => simp [intOf]; omega
        · have hset := turnL_set (k := k) (x := 0) LD.out hz4 hlt (by omega)
          have hg := turnL_get (f := D) (o := zs 4) (n := 4) LD.out hlt
          have hsame : turnL D (zs 4) (k + 1) = turnL D (zs 4) k := by
            rw [← hset]
            have LT := turnL_len (k := k) LD.out hz4 (Nat.le_of_lt hlt)
            rw [gd_zs] at hg
            apply List.ext_getElem?
            intro j
            rw [List.getElem?_set]
            split
            · subst_vars
              rw [if_pos (by rw [LT.out]; exact hlt)]
              rw [List.getD_eq_getElem?_getD, List.getElem?_eq_getElem (by rw [LT.out]; exact hlt)] at hg
              rw [List.getElem?_eq_getElem (by rw [LT.out]; exact hlt)]
              simp at hg; rw [hg]
            · rfl
          have HSAME := Lib.hid hsame
          clear hset hg hsame hxe hDk
          go_wp2_with fail
          go_roundw
          case rel => exact ⟨k + 1, hlt, by go_num, hA, hR1, hR2, hW, by rw [HSAME.out]; exact hV, hfar, hsz⟩
          case measure => simp [intOf]; omega
      · obtain rfl : k = 4 := by omega
        rw [turnL_all LD.out hz4] at hV
        have c37 := (hA.cell 37).trans (arr_get (l := L) (by rw [LL.out]; omega))
        rw [HC37.out] at c37
        by_cases h255 : (255 : Int) < n + 1
        · have hN : N = 255 := by rw [HLN.out]; omega
          subst hN
          go_upto_region 15 with (fail)
          go_wp2_with (first | (refine ld 25 rfl (by rfl) w_RState rfl hA LL.sz ?_) | (refine ld 23 rfl (by rfl) w_Four rfl hV LD.sz ?_) | (refine ld 22 rfl (by rfl) w_Sixteen rfl hW LW.sz ?_))
          refine (HNX.out _).mono ?_
          rintro e w4 ⟨rfl, hb4⟩
          replace hA := hA.newB hb4
          replace hR1 := hR1.newB hb4
          replace hR2 := hR2.newB hb4
          replace hfar := hfar.trans (hb4.mono (by omega))
          replace hsz := Nat.le_trans hsz hb4.size
          go_wp2_with (first | (refine st 22 rfl (by rfl) w_Sixteen rfl rfl bk_ lz_ lz_ one_ ?_) | (refine st 25 rfl (by rfl) w_RState rfl rfl bk_ lz_ lz_ one_ ?_))
          exact bodyPost_ret (v := .tuple #[.agg (arrV O1), .agg (arrV O2)]) (res_cc Tryz.results64 rfl w_Sixteen (by exact bk_) LO1.sz rfl w_RState (by exact bk_) LO2.sz) rfl ⟨rfl, (by (try rw [hB]); exact bl_)⟩
        · have hN : N = n + 1 := by rw [HLN.out]; omega
          subst hN
          go_upto_region 15 with (fail)
          go_wp2_with (first | (refine ld 25 rfl (by rfl) w_RState rfl hA LL.sz ?_) | (refine ld 23 rfl (by rfl) w_Four rfl hV LD.sz ?_) | (refine ld 22 rfl (by rfl) w_Sixteen rfl hW LW.sz ?_))
          refine (HNX.out _).mono ?_
          rintro e w4 ⟨rfl, hb4⟩
          replace hA := hA.newB hb4
          replace hR1 := hR1.newB hb4
          replace hR2 := hR2.newB hb4
          replace hfar := hfar.trans (hb4.mono (by omega))
          replace hsz := Nat.le_trans hsz hb4.size
          go_wp2_with (first | (refine st 22 rfl (by rfl) w_Sixteen rfl rfl bk_ lz_ lz_ one_ ?_) | (refine st 25 rfl (by rfl) w_RState rfl rfl bk_ lz_ lz_ one_ ?_))
          exact bodyPost_ret (v := .tuple #[.agg (arrV O1), .agg (arrV O2)]) (res_cc Tryz.results64 rfl w_Sixteen (by exact bk_) LO1.sz rfl w_RState (by exact bk_) LO2.sz) rfl ⟨rfl, (by (try rw [hB]); exact bl_)⟩
end Go.Proofs.YtmfihaaiddolmaaGreatDoor
