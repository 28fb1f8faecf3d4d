/- The walks of the acts: start, play, seek. -/
import Derived.Test.YtkoljgmapclhkaaGreatDoorModD
import Derived.Test.YtkoljgmapclhkaaGreatDoorLot15
set_option linter.unusedSimpArgs false
set_option linter.unusedVariables false
namespace Go.Proofs.YtkoljgmapclhkaaGreatDoor
open Go.RowKit

theorem e0_len : e0.l.length = 55 := est_len e0_ok
theorem MB.setE0 {W : World} {g : Nat} {M : Mst} {v : Value} (h : MB W g M v) : MB (W.setCells g 44 (arrV (zs 55)).toList) g { M with e := e0 } v := by
  have e := congrArg Array.toList e0_zs
  rw [← e]
  exact h.setE e0_len
theorem MB.slice {W : World} {g : Nat} {M : Mst} {v : Value} (h : MB W g M v) : ∃ p cap, v = .slice p M.ents.length cap ∧ SL W (g + 1) W.heap.size 3 p M.ents.length cap (flE M.ents) := SL.own h.own
set_option maxRecDepth 100000 in
set_option maxHeartbeats 8000000 in
theorem start_any {w : World} {g : Nat} {M : Mst} {v : Value} (h : MB w g M v) {k n : Nat} (hO : M.Ok k n) (hk : k ≤ 1000000) (hn : n ≤ 900) (hW : BandsW w) {av : Array Value} (hav : av.size = 3) :
    Calls Tryz.prog 37 #[.pointer (some ⟨g, 0, none⟩), .agg av] w (RetR w g v (startM M)) := by
  have hBW : Blk w 0 bandC 164 := hW
  have hgv := mb_bands h hW
  have hno := hO.now
  have hcm : M.ents.length ≤ 900 := by have := hO.ents; omega
  have hS : startM M = startM M := rfl
  conv at hS => rhs; unfold startM
  have hgap := fun w => EGap_any M.now w
  have hadd := fun w (h : MB w g M v) (hW : BandsW w) => add_any h hO hn hW (x := gapM M) (show 0 ≤ M.now by omega) (show M.now ≤ 4294967295 by omega)
  obtain ⟨R, hR0⟩ : ∃ R, startM M = R := ⟨_, rfl⟩
  rw [hR0] at hS ⊢
  obtain ⟨C, hC⟩ : ∃ C, gapM M = C := ⟨_, rfl⟩
  have hgap' : ∀ w, Calls Tryz.prog 75 #[.int .u32 M.now] w fun r w' => r = .returned (.agg (entV C)) ∧ Below w.heap.size w w' := by rw [← hC]; exact hgap
  simp only [hC] at hS hadd
  obtain ⟨⟨N, E⟩, hN⟩ : ∃ N, addM M C = N := ⟨_, rfl⟩
  simp only [hN] at hS hadd
  have HS := Lib.hid hS
  have HGAP := Lib.hid hgap'
  have HADD := Lib.hid hadd
  have hw1 : IntKind.u32.wrap M.now = M.now := by rw [IntKind.wrap_u32]; omega
  clear hS hR0 hadd hgap hgap' hC hN hO hW
  obtain ⟨L, hL⟩ : ∃ L, M.ents.length = L := ⟨_, rfl⟩
  rw [hL] at hcm
  have HL := Lib.hid hL
  obtain ⟨p, cp, hv, hs⟩ := h.slice
  have hLc := hs.2.1
  have hcpm := hs.2.2.1
  unfold maxLen at hcpm
  rw [hL] at hv hLc
  have HV := Lib.hid hv
  clear hL hs hv
  have hg := h.lt
  have HVO := Lib.hid (fun k hk => (h.olt k hk).2)
  obtain ⟨B, hB⟩ : ∃ B, w.heap.size = B := ⟨_, rfl⟩
  have HVB := h.vb hB
  rw [hB] at hg HVO
  have hfar := Kept.refl (fun k => k = g ∨ v.ownBlock = some k) w
  have hsz : B ≤ w.heap.size := by omega
  go_enter Tryz.func37, Tryz.ntmps37
  go_upto_region 1 with (fail)
  refine wp_gen (fun W => Blk W (0) (bandC) 164 ∧ MB W (g) (M) (v) ∧ Blk W (B) (av) 50 ∧ Blk W (B + 1) (#[.int .i64 0, .slice none 0 0]) 46 ∧ Kept (fun k => k = g ∨ v.ownBlock = some k) w W ∧ B + 2 ≤ W.heap.size) ⟨bk_, mb_, bk_, bk_, kp_, sz_⟩ ?_
  clear hBW h hfar hsz
  rintro w1 ⟨hBW, h, hA, hR, hfar, hsz⟩
  obtain ⟨⟨_, _, _, _, _, c5⟩, c99, c100, c101, _⟩ := h.cells
  rw [HV.out] at c5
  rcases bool_two M.run with hr | hr
  case inr =>
    rw [hr] at c99
    obtain rfl : R = (M, 8) := by rw [HS.out, if_pos (.inl hr)]
    clear hr
    go_wp2_with (first | (refine bd 46 rfl (by rfl) rfl reply_0 ?_) | (refine bd 46 rfl (by rfl) rfl (reply_1 _) ?_) | (refine st 46 rfl (by rfl) w_Reply rfl rfl bk_ zz_ zz_ one_ ?_))
    exact bodyPost_ret (v := .agg #[.int .i64 8, .slice none 0 0]) (res_c Tryz.results37 rfl w_Reply (by exact bk_) rfl) rfl ⟨v, rfl, by exact mb_, ⟨by exact kq_, fun _ hk => .inl hk⟩⟩
  case inl =>
    rw [hr] at c99
    rcases bool_two M.fro with hf | hf
    case inr =>
      rw [hf] at c100
      obtain rfl : R = (M, 8) := by rw [HS.out, if_pos (.inr hf)]
      clear hr hf
      go_wp2_with (first | (refine bd 46 rfl (by rfl) rfl reply_0 ?_) | (refine bd 46 rfl (by rfl) rfl (reply_1 _) ?_) | (refine st 46 rfl (by rfl) w_Reply rfl rfl bk_ zz_ zz_ one_ ?_))
      exact bodyPost_ret (v := .agg #[.int .i64 8, .slice none 0 0]) (res_c Tryz.results37 rfl w_Reply (by exact bk_) rfl) rfl ⟨v, rfl, by exact mb_, ⟨by exact kq_, fun _ hk => .inl hk⟩⟩
    case inl =>
      rw [hf] at c100
      have HS2 : Hid (R = if L = 0 then (begM M, 0) else if E = 0 then (begM N, 0) else (N, E)) := Lib.hid (by rw [HS.out, if_neg (by rw [hr, hf]; simp), HL.out])
      clear hr hf HS
      go_upto_if 22 with (fail)
      go_cut [5] from 22 to 34 (fun s5 wx => ∃ (X : Mst) (v' : Value), R = (begM X, 0) ∧ MB wx g X v' ∧ Blk wx (B + 1) #[.int .i64 0, .slice none 0 0] 46 ∧ Trn g v v' w wx ∧ B + 2 ≤ wx.heap.size ∧ v'.ownBlock ≠ some (B + 1))
      case first =>
        by_cases hL0 : L = 0
        · have e := HS2.out
          rw [if_pos hL0] at e
          have hL1 : ¬ (0 : Int) < L := by omega
          have HE := Lib.hid e
          clear e hL0
          go_wp2_with fail
          go_meet
          case rel => exact ⟨M, v, HE.out, h, hR, ⟨hfar, fun _ hk => .inl hk⟩, hsz, fun e => by have := HVO.out _ e; omega⟩
        · have e := HS2.out
          rw [if_neg hL0] at e
          have hL1 : (0 : Int) < L := by omega
          have HE := Lib.hid e
          clear e hL0
          go_wp2_with fail
          refine (HGAP.out _).mono ?_
          rintro e w3 ⟨rfl, hb3⟩
          replace hBW := hBW.newB hb3
          replace h := h.newB hb3
          replace hA := hA.newB hb3
          replace hR := hR.newB hb3
          replace hfar := hfar.thenBelow hb3
          replace hsz := Nat.le_trans hsz hb3.size
          go_wp2_with fail
          refine (HADD.out _ h hBW).mono ?_
          rintro e w5 ⟨v5, rfl, h5, ht5⟩
          have hR5 := ht5.blk hR (by omega) (fun e => by have := HVO.out _ e; omega)
          have hs5 := ht5.size
          have hv5 : v5.ownBlock ≠ some (B + 1) := fun e => by
            rcases ht5.row _ e with e | e
            · have := HVO.out _ e; omega
            · omega
          have hT := Trn.trans ⟨hfar, fun _ hk => .inl hk⟩ ht5
          dsimp only at h5
          by_cases hE0 : E = 0
          · have e := HE.out
            rw [if_pos hE0] at e
            have HE2 := Lib.hid e
            subst hE0
            clear e
            go_wp2_with fail
            go_meet
            case rel => exact ⟨N, v5, HE2.out, h5, hR5, hT, by omega, hv5⟩
          · have e := HE.out
            rw [if_neg hE0] at e
            subst e
            have hE1 : (E == 0) = false := by simpa using hE0
            go_wp2_with (first | (refine bd 46 rfl (by rfl) rfl reply_0 ?_) | (refine bd 46 rfl (by rfl) rfl (reply_1 _) ?_) | (refine st 46 rfl (by rfl) w_Reply rfl rfl bk_ zz_ zz_ one_ ?_))
            exact bodyPost_ret (v := .agg #[.int .i64 E, .slice none 0 0]) (res_c Tryz.results37 rfl w_Reply (by exact bk_) rfl) rfl ⟨v5, rfl, h5.setRow (b := B + 1) (by omega) (fun k hk e => hv5 (e ▸ hk)) _, hT.far (b := B + 1) (by omega) _⟩
      case rest =>
        clear hBW h hA hR hfar hsz c5 c99 c100 c101
        obtain ⟨X, v', rfl, h, hR, hT, hsz, hv'⟩ := hcut
        obtain ⟨_, c99, _, c101, c102, c103, _⟩ := h.cells
        obtain ⟨Y, hY⟩ : ∃ Y, wc.setCells g 44 (arrV (zs 55)).toList = Y := ⟨_, rfl⟩
        have hX : MB Y g { X with e := e0 } v' := by rw [← hY]; exact h.setE0
        have hRY : Blk Y (B + 1) #[.int .i64 0, .slice none 0 0] 46 := by rw [← hY]; exact hR.keep (Kept.setCells (S := fun k => k = g) _ _ (Kept.refl _ _) (.inl rfl)) (by omega)
        have hTY : Trn g v v' w Y := by rw [← hY]; exact hT.heres 44 _
        have hsY : B + 2 ≤ Y.heap.size := by rw [← hY, size_setCells]; exact hsz
        obtain ⟨_, d99, _, _, d102, d103, _⟩ := hX.cells
        have g99 := hX.frz 99
        have g102 := hX.frz 102
        have g103 := hX.frz 103
        have HY := Lib.hid hY
        clear hY
        go_wp2_with (first | (refine bd 31 rfl (by rfl) rfl eenc_zs ?_) | (refine stm 31 rfl (by rfl) w_EEnc rfl rfl h.blk (by rw [h.size]; omega) (Len.zs 55).sz one_ ?_; rw [HY.out]) | (first | (refine bd 46 rfl (by rfl) rfl reply_0 ?_) | (refine bd 46 rfl (by rfl) rfl (reply_1 _) ?_) | (refine st 46 rfl (by rfl) w_Reply rfl rfl bk_ zz_ zz_ one_ ?_)))
        exact bodyPost_ret (v := .agg #[.int .i64 0, .slice none 0 0]) (res_c Tryz.results37 rfl w_Reply (by exact bk_) rfl) rfl ⟨v', rfl, (((hX.setSin 0).setSyn X.now).setRun true).setRow (b := B + 1) (by omega) (fun k hk e => hv' (e ▸ hk)) _, (((hTY.here ⟨g, 103, none⟩ rfl _).here ⟨g, 102, none⟩ rfl _).here ⟨g, 99, none⟩ rfl _).far (b := B + 1) (by omega) _⟩
end Go.Proofs.YtkoljgmapclhkaaGreatDoor
