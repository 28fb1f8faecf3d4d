/- The walk of spare.Pulses: how many pulses each band has. -/
import Derived.Test.YtnohjidoelohkaaDoorDecS
import Derived.Deep.Cut
import Derived.WalkMore
namespace Go.Proofs.YtnohjidoelohkaaDoor
open Go.RowKit

def zero4 : Array Value := #[.int .i64 0, .int .i64 0, .int .i64 0, .int .i64 0]
theorem belowNN {B : Nat} {a w : World} (h : Below B a w) (n : Nat) : Below B a (w.drewN n) := ⟨h.os, h.tape, h.output, h.size, h.block⟩
structure PW (w wr : World) (xb : Nat) (ls ks : List Int) : Prop where
  lev : Blk wr xb (arrV ls) 23
  res : Blk wr (xb + 1) zero4 23
  pul : Blk wr (xb + 2) (arrV ks) 23
  bands : BandsW wr
  far : Below w.heap.size w wr
theorem PW.drew {w wr : World} {xb : Nat} {ls ks : List Int} (h : PW w wr xb ls ks) : PW w wr.drew xb ls ks := ⟨h.lev.drew, h.res.drew, h.pul.drew, Blk.drew h.bands, h.far.drew⟩
theorem PW.drewN {w wr : World} {xb : Nat} {ls ks : List Int} (h : PW w wr xb ls ks) (n : Nat) : PW w (wr.drewN n) xb ls ks := ⟨h.lev.drewN n, h.res.drewN n, h.pul.drewN n, Blk.drewN h.bands n, belowNN h.far n⟩
theorem PW.below {w wr w' : World} {xb : Nat} {ls ks : List Int} (h : PW w wr xb ls ks) (hb : Below wr.heap.size wr w') : PW w w' xb ls ks :=
  ⟨h.lev.newB hb, h.res.newB hb, h.pul.newB hb, Blk.newB h.bands hb, h.far.trans (hb.mono h.far.size)⟩
theorem PW.kcell {w wr : World} {xb : Nat} {ls ks : List Int} (h : PW w wr xb ls ks) (n : Nat) : wr.cell? ⟨xb + 2, n, none⟩ = (arrV ks)[n]? := h.pul.cell n
theorem PW.lcell {w wr : World} {xb : Nat} {ls ks : List Int} (h : PW w wr xb ls ks) (n : Nat) : wr.cell? ⟨xb, n, none⟩ = (arrV ls)[n]? := h.lev.cell n
theorem arr_get {l : List Int} {n : Nat} (h : n < l.length) : (arrV l)[n]? = some (.int .i64 (l.getD n 0)) := by
  rw [List.getElem?_toArray, ints_get h]
/-- The pulses given so far, as they lie in memory. -/
def numAt (W : World) (g i : Nat) : Int := match W.cell? ⟨g, i, none⟩ with
  | some (.int _ n) => n
  | _ => 0
def tot4 (W : World) (g : Nat) : Int := numAt W g 0 + numAt W g 1 + numAt W g 2 + numAt W g 3
def tot (ks : List Int) : Int := ks.getD 0 0 + ks.getD 1 0 + ks.getD 2 0 + ks.getD 3 0
theorem tot_set {ks : List Int} (h : ks.length = 4) {i : Nat} (hi : i < 4) : tot (ks.set i (ks.getD i 0 + 1)) = tot ks + 1 := by
  match ks, h with
  | [a, b, c, d], _ =>
    have hi4 : i = 0 ∨ i = 1 ∨ i = 2 ∨ i = 3 := by omega
    rcases hi4 with rfl | rfl | rfl | rfl <;> simp [tot] <;> omega
theorem tot4_eq {w wr : World} {xb : Nat} {ls ks : List Int} (h : PW w wr xb ls ks) (hk : ks.length = 4) : tot4 wr (xb + 2) = tot ks := by
  have e : ∀ i, i < 4 → numAt wr (xb + 2) i = ks.getD i 0 := fun i hi => by
    unfold numAt
    rw [h.kcell i, arr_get (by omega)]
  unfold tot4 tot
  rw [e 0 (by omega), e 1 (by omega), e 2 (by omega), e 3 (by omega)]
theorem arr_set (l : List Int) (i : Nat) (x : Int) : (arrV l).setIfInBounds i (.int .i64 x) = arrV (l.set i x) := by
  rw [List.setIfInBounds_toArray, ints_set]
theorem PW.put {w wr : World} {xb : Nat} {ls ks : List Int} (h : PW w wr xb ls ks) (hw : w.heap.size ≤ xb) (i : Nat) (x : Int) : PW w (wr.setCell ⟨xb + 2, i, none⟩ (.int .i64 x)) xb ls (ks.set i x) :=
  ⟨h.lev.other (by simp only []; omega) _, h.res.other (by simp only []; omega) _, by rw [← arr_set]; exact h.pul.set i _, Blk.other h.bands (by simp only []; omega) _, h.far.setCell (by show w.heap.size ≤ xb + 2; omega) _⟩
theorem tot_bd {ks : List Int} (h : PulsesOk ks) : 0 ≤ tot ks ∧ tot ks ≤ 32 := by
  have h0 := h.2 0 (by omega)
  have h1 := h.2 1 (by omega)
  have h2 := h.2 2 (by omega)
  have h3 := h.2 3 (by omega)
  unfold tot; omega
theorem pulsesOk_set {ks : List Int} (h : PulsesOk ks) {i : Nat} (hi : i < 4) (h8 : ks.getD i 0 < 8) : PulsesOk (ks.set i (ks.getD i 0 + 1)) := by
  refine ⟨by rw [List.length_set]; exact h.1, fun k hk => ?_⟩
  have hik := h.2 i hi
  have hkk := h.2 k hk
  by_cases he : k = i
  · subst he
    rw [List.getD_eq_getElem?_getD, List.getElem?_set_self (by rw [h.1]; exact hk), Option.getD_some]
    omega
  · rw [List.getD_eq_getElem?_getD, List.getElem?_set_ne (Ne.symm he), ← List.getD_eq_getElem?_getD]
    exact hkk

set_option maxRecDepth 100000 in
set_option maxHeartbeats 3200000 in
theorem Pulses_any (ls : List Int) (hL : LevelsOk ls) (bits : Int) (h0 : 0 ≤ bits) (h1 : bits ≤ 1000000) (w : World) (hW : BandsW w) : Calls Tryd.prog 16 #[.agg (arrV ls), .int .i64 bits] w fun e w' => e = .returned (.agg (arrV (pulses ls 33 [0, 0, 0, 0] bits))) ∧ Below w.heap.size w w' := by
  have hidx := fun k (hk : k < 4) (w : World) => run_index_arr 23 4 ls hL.1 Tryd.underlying23 k hk w
  have HI := Lib.hid hidx
  clear hidx
  have hszl : (Tryd.prog.info? 23).map (·.size) = some (arrV ls).size := by rw [arr_size, hL.1]; exact fourInfo
  obtain ⟨R, hR⟩ : ∃ R, pulses ls 33 [0, 0, 0, 0] bits = R := ⟨_, rfl⟩
  rw [hR]
  have HR := Lib.hid hR
  clear hR
  obtain ⟨xb, hxb⟩ : ∃ xb, w.heap.size = xb := ⟨_, rfl⟩
  have hP0 : PW w (((w.alloc (.cells (arrV ls) 23)).alloc (.cells zero4 23)).alloc (.cells (arrV [0, 0, 0, 0]) 23)) xb ls [0, 0, 0, 0] := by
    refine ⟨?_, ?_, ?_, Blk.alloc (Blk.alloc (Blk.alloc hW _) _) _, ?_⟩
    · exact (Blk.alloc (Blk.alloc (hxb ▸ Blk.new w (arrV ls) 23) _) _)
    · have h := Blk.new (w.alloc (.cells (arrV ls) 23)) zero4 23
      rw [World.size_alloc, hxb] at h
      exact h.alloc _
    · have h := Blk.new ((w.alloc (.cells (arrV ls) 23)).alloc (.cells zero4 23)) (arrV [0, 0, 0, 0]) 23
      rw [World.size_alloc, World.size_alloc, hxb] at h
      exact h
    · exact (((Below.refl w.heap.size w).alloc (Nat.le_refl _) _).alloc (by simp) _).alloc (by simp; omega) _
  have hP0' : PW w (((w.alloc (.cells (arrV ls) 23)).alloc (.cells #[.int .i64 0, .int .i64 0, .int .i64 0, .int .i64 0] 23)).alloc (.cells #[.int .i64 0, .int .i64 0, .int .i64 0, .int .i64 0] 23)) xb ls [0, 0, 0, 0] := hP0
  clear hP0
  go_enter Tryd.func16, Tryd.ntmps16
  go_wp2_with fail
  go_step3
  go_upto_region 2 with (fail)
  revert hP0'
  generalize (((w.alloc (.cells (arrV ls) 23)).alloc (.cells #[.int .i64 0, .int .i64 0, .int .i64 0, .int .i64 0] 23)).alloc (.cells #[.int .i64 0, .int .i64 0, .int .i64 0, .int .i64 0] 23)) = w0
  intro hP0'
  go_wp2_with (first | (refine wpList_load_blk rfl 23 (.tmp 2) rfl xb rfl (arrV ls) 23 hP0'.lev Tryd.underlying23 hszl ?_))
  refine (sright_yes ls hL bits h0 (by omega) _).mono ?_
  rintro e w1 ⟨rfl, hb1⟩
  have hP1 := hP0'.below hb1
  clear hP0' hb1
  go_wp2_with fail
  go_step3
  go_wp2_with fail
  go_loopw [1] (fun bv wr => ∃ (f : Nat) (ks : List Int) (bt : Int), bv = .int .i64 bt ∧ 0 ≤ bt ∧ bt ≤ 2000000 ∧ Hid (PulsesOk ks) ∧ Hid ((f : Int) + tot ks = 33) ∧ Hid (bt + 20 * f ≤ 1000700) ∧ Hid (pulses ls f ks bt = R) ∧ PW w wr xb ls ks) (fun _ wr => (40 - tot4 wr (xb + 2)).toNat)
  case atStart => exact ⟨33, [0, 0, 0, 0], bits, rfl, h0, by omega, Lib.hid ⟨rfl, fun k hk => by
      have hk4 : k = 0 ∨ k = 1 ∨ k = 2 ∨ k = 3 := by omega
      rcases hk4 with rfl | rfl | rfl | rfl <;> simp⟩, Lib.hid (by simp [tot]), Lib.hid (by omega), HR, hP1⟩
  case round =>
    clear hP1
    obtain ⟨f, ks, bt, rfl, hbt0, hbt1, HK, HT, HB, HRR, hP⟩ := hrel
    have hbest := fun n (hn : n ≤ 4) => best_ok ls ks bt HK.out n hn
    have HBE := Lib.hid hbest
    have HM0 := Lib.hid (tot4_eq hP HK.out.1)
    clear hbest
    go_wp2_with (first | (refine wpList_load_blk rfl 23 (.tmp 2) rfl xb rfl (arrV ls) 23 hP.lev Tryd.underlying23 hszl ?_))
    go_loopw [6, 7, 17] (fun pv qv nv wr => ∃ n : Nat, n ≤ 4 ∧ pv = .int .i64 (pbest ls ks bt n).1 ∧ qv = .int .i64 (pbest ls ks bt n).2 ∧ nv = .int .i64 n ∧ PW w wr xb ls ks) (fun _ _ nv _ => 4 - (intOf nv).toNat)
    case atStart => exact ⟨0, by omega, rfl, rfl, rfl, hP⟩
    case round =>
      clear hP
      obtain ⟨n, hn, rfl, rfl, rfl, hP⟩ := hrel
      have hbe := HBE.out n hn
      have hbest4 := HBE.out 4 (by omega)
      by_cases hlt : n < 4
      · have hi := HI.out n hlt
        obtain ⟨l0, l1⟩ := hL.get hlt
        obtain ⟨k0, k8⟩ := HK.out.2 n hlt
        have hnx := pbest_next ls ks bt n
        obtain ⟨p, hp⟩ : ∃ p, pbest ls ks bt n = p := ⟨_, rfl⟩
        rw [hp] at hbe hnx ⊢
        obtain ⟨best, price⟩ := p
        obtain ⟨b0, b1, b2, b3, b4⟩ := hbe
        simp only at b0 b1 b2 b3 b4
        obtain ⟨kk, hkk⟩ : ∃ kk : Nat, ks.getD n 0 = kk := ⟨(ks.getD n 0).toNat, by omega⟩
        have hyk : (arrV ks)[n]? = some (.int .i64 (kk : Int)) := by rw [arr_get (by rw [HK.out.1]; exact hlt), hkk]
        have HYK := Lib.hid hyk
        have y0 := (hP.kcell n).trans hyk
        rw [hkk] at k0 k8
        obtain ⟨lv, hlv⟩ : ∃ lv, ls.getD n 0 = lv := ⟨_, rfl⟩
        rw [hlv] at hi l0 l1
        obtain ⟨B, hB, hBB⟩ : ∃ B : Nat, B < 4 ∧ (0 ≤ best → best = (B : Int)) := ⟨if 0 ≤ best then best.toNat else 0, by split <;> omega, fun h => by rw [if_pos h]; omega⟩
        obtain ⟨kB, hkB⟩ : ∃ kB, ks.getD B 0 = kB := ⟨_, rfl⟩
        obtain ⟨lB, hlB⟩ : ∃ lB, ls.getD B 0 = lB := ⟨_, rfl⟩
        have kB8 := HK.out.2 B hB
        have lB20 := hL.get hB
        rw [hkB] at kB8
        rw [hlB] at lB20
        have y1 := (hP.kcell B).trans (by rw [arr_get (by rw [HK.out.1]; exact hB), hkB])
        have y2 := (hP.lcell B).trans (by rw [arr_get (by rw [hL.1]; exact hB), hlB])
        unfold pstep at hnx
        simp only [hlv, hkk] at hnx
        by_cases hl0 : lv = 0
        · subst hl0
          rw [if_pos (.inl rfl)] at hnx
          have HNX := Lib.hid hnx
          clear hnx b2 b3 hbest4
          go_wp2_with fail
          go_quiet (fail)
          go_wp2_with fail
          go_roundw
          case rel => exact ⟨n + 1, hlt, by rw [HNX.out], by rw [HNX.out], by go_num, hP.drewN _⟩
          case measure => simp [intOf]; omega
        have e1 : (lv == 0) = false := by simpa using hl0
        have e1' : decide (lv = 0) = false := by simpa using hl0
        by_cases hk8 : kk = 8
        · subst hk8
          rw [if_pos (.inr (.inl rfl))] at hnx
          have HNX := Lib.hid hnx
          clear hnx b2 b3 hbest4
          go_wp2_with fail
          go_quiet (fail)
          go_wp2_with fail
          go_roundw
          case rel => exact ⟨n + 1, hlt, by rw [HNX.out], by rw [HNX.out], by go_num, hP.drewN _⟩
          case measure => simp [intOf]; omega
        have hk8' : ¬ (kk : Int) = 8 := by omega
        have e2 : ((kk : Int) == 8) = false := by simpa using hk8'
        have e2' : decide ((kk : Int) = 8) = false := by simpa using hk8'
        have w1 : IntKind.i64.wrap (2 * lv) = 2 * lv := IntWalk.i64_in _ (by omega)
        have w2 : IntKind.i64.wrap (3 * (kk : Int)) = 3 * (kk : Int) := IntWalk.i64_in _ (by omega)
        have w3 : IntKind.i64.wrap (2 * lv - 3 * (kk : Int)) = 2 * lv - 3 * (kk : Int) := IntWalk.i64_in _ (by omega)
        have w4 : IntKind.i64.wrap (2 * lB) = 2 * lB := IntWalk.i64_in _ (by omega)
        have w5 : IntKind.i64.wrap (3 * kB) = 3 * kB := IntWalk.i64_in _ (by omega)
        have w6 : IntKind.i64.wrap (2 * lB - 3 * kB) = 2 * lB - 3 * kB := IntWalk.i64_in _ (by omega)
        obtain ⟨k1, hk1⟩ : ∃ k1, kk + 1 = k1 := ⟨_, rfl⟩
        have hki : (kk : Int) + 1 = (k1 : Int) := by omega
        have hk1n : ((kk : Int) + 1).toNat = k1 := by omega
        rw [hk1n, Int.toNat_natCast] at hnx
        have hc1 := costB_bd (b := n) (k := k1) hlt (by omega)
        have hc0 := costB_bd (b := n) (k := kk) hlt (by omega)
        obtain ⟨c1, hc1'⟩ : ∃ c, costB n k1 = c := ⟨_, rfl⟩
        obtain ⟨c0, hc0'⟩ : ∃ c, costB n kk = c := ⟨_, rfl⟩
        rw [hc1'] at hc1 hnx
        rw [hc0'] at hc0 hnx
        have HC1 := Lib.hid hc1'
        have HC0 := Lib.hid hc0'
        clear hc1' hc0' hk1n hbest4
        have w8 : IntKind.i64.wrap (k1 : Int) = (k1 : Int) := IntWalk.i64_in _ (by omega)
        have w7 : IntKind.i64.wrap ((c1 : Int) - (c0 : Int)) = (c1 : Int) - (c0 : Int) := IntWalk.i64_in _ (by omega)
        by_cases hbn : best < 0
        · have e3 : decide (0 ≤ best) = false := by simp; omega
          rw [if_neg (by omega)] at hnx
          have HNT := Lib.hid (fun (h : (c1 : Int) - (c0 : Int) ≤ bt) => hnx.trans (if_pos h))
          have HNF := Lib.hid (fun (h : ¬ (c1 : Int) - (c0 : Int) ≤ bt) => hnx.trans (if_neg h))
          clear hnx b2 b3 hBB
          go_wp2_with fail
          go_quiet (fail)
          go_wp2_with fail
          first | go_region_held3 (fun w' => w'.cell? ⟨xb + 2, n, none⟩ = some (.int .i64 kk)) (first | exact y0 | exact y5 | exact y6) (first | (go_at_call_of 35 ((k1 : Nat) : Int); refine (cost_any n k1 hlt (by omega) _ (hP.drewN _).bands).mono ?_; rw [HC1.out]; rintro r5 w5 ⟨rfl, hb5⟩; have hP5 := (hP.drewN _).below hb5; have y5 := (hP5.kcell n).trans HYK.out) | (go_at_call_of 35 ((kk : Nat) : Int); refine (cost_any n kk hlt (by omega) _ hP5.bands).mono ?_; rw [HC0.out]; rintro r6 w6 ⟨rfl, hb6⟩; have hP6 := hP5.below hb6; have y6 := (hP6.kcell n).trans HYK.out))
          by_cases hpay : (c1 : Int) - (c0 : Int) ≤ bt
          · have hst := HNT.out hpay
            go_wp2_with fail
            go_roundw
            case rel => exact ⟨n + 1, hlt, by rw [hst], by rw [hst], by go_num, hP6⟩
            case measure => simp [intOf]; omega
          · have hst := HNF.out (by omega)
            go_wp2_with fail
            go_roundw
            case rel => exact ⟨n + 1, hlt, by rw [hst], by rw [hst], by go_num, hP6⟩
            case measure => simp [intOf]; omega
        · obtain rfl := hBB (by omega)
          rw [Int.toNat_natCast, hkB, hlB] at hnx
          have e3 : decide ((0 : Int) ≤ (B : Int)) = true := by simp
          by_cases hcmp : 2 * lv - 3 * (kk : Int) ≤ 2 * lB - 3 * kB
          · have e4 : decide (2 * lv - 3 * (kk : Int) ≤ 2 * lB - 3 * kB) = true := by simpa using hcmp
            rw [if_pos (.inr (.inr ⟨by omega, hcmp⟩))] at hnx
            have HNX := Lib.hid hnx
            clear hnx b2 b3 hBB
            go_wp2_with fail
            go_quiet (fail)
            go_wp2_with fail
            go_roundw
            case rel => exact ⟨n + 1, hlt, by rw [HNX.out], by rw [HNX.out], by go_num, hP.drewN _⟩
            case measure => simp [intOf]; omega
          · have e4 : decide (2 * lv - 3 * (kk : Int) ≤ 2 * lB - 3 * kB) = false := by simpa using hcmp
            rw [if_neg (by omega)] at hnx
            have HNT := Lib.hid (fun (h : (c1 : Int) - (c0 : Int) ≤ bt) => hnx.trans (if_pos h))
            have HNF := Lib.hid (fun (h : ¬ (c1 : Int) - (c0 : Int) ≤ bt) => hnx.trans (if_neg h))
            clear hnx b2 b3 hBB
            go_wp2_with fail
            go_quiet (fail)
            go_wp2_with fail
            first | go_region_held3 (fun w' => w'.cell? ⟨xb + 2, n, none⟩ = some (.int .i64 kk)) (first | exact y0 | exact y5 | exact y6) (first | (go_at_call_of 35 ((k1 : Nat) : Int); refine (cost_any n k1 hlt (by omega) _ (hP.drewN _).bands).mono ?_; rw [HC1.out]; rintro r5 w5 ⟨rfl, hb5⟩; have hP5 := (hP.drewN _).below hb5; have y5 := (hP5.kcell n).trans HYK.out) | (go_at_call_of 35 ((kk : Nat) : Int); refine (cost_any n kk hlt (by omega) _ hP5.bands).mono ?_; rw [HC0.out]; rintro r6 w6 ⟨rfl, hb6⟩; have hP6 := hP5.below hb6; have y6 := (hP6.kcell n).trans HYK.out))
            by_cases hpay : (c1 : Int) - (c0 : Int) ≤ bt
            · have hst := HNT.out hpay
              go_wp2_with fail
              go_roundw
              case rel => exact ⟨n + 1, hlt, by rw [hst], by rw [hst], by go_num, hP6⟩
              case measure => simp [intOf]; omega
            · have hst := HNF.out (by omega)
              go_wp2_with fail
              go_roundw
              case rel => exact ⟨n + 1, hlt, by rw [hst], by rw [hst], by go_num, hP6⟩
              case measure => simp [intOf]; omega
      · obtain rfl : n = 4 := by omega
        have htb := tot_bd HK.out
        have ht := HT.out
        obtain ⟨f, rfl⟩ : ∃ j, f = j + 1 := ⟨f - 1, by omega⟩
        have hr := HRR.out
        rw [pulses] at hr
        obtain ⟨p, hp⟩ : ∃ p, pbest ls ks bt 4 = p := ⟨_, rfl⟩
        rw [hp] at hbe hr ⊢
        obtain ⟨best, price⟩ := p
        obtain ⟨b0, b1, b2, b3, b4⟩ := hbe
        simp only at b0 b1 b2 b3 b4 hr
        clear hbest4 hp
        by_cases hbn : best < 0
        · rw [if_pos hbn] at hr
          have HR2 := Lib.hid hr
          have hszk : (Tryd.prog.info? 23).map (·.size) = some (arrV ks).size := by rw [arr_size, HK.out.1]; exact fourInfo
          have hsz4 : zero4.size = (arrV ks).size := by rw [arr_size, HK.out.1]; rfl
          clear hr b2 b3
          go_wp2_with (first | (refine wpList_load_blk rfl 23 (.tmp 5) rfl (xb + 2) rfl (arrV ks) 23 hP.pul Tryd.underlying23 hszk ?_) | (refine wpList_store_blk rfl 23 (.tmp 4) (.tmp 80) rfl (xb + 1) zero4 (arrV ks) rfl rfl 23 hP.res hszk hsz4 (arr_one _) ?_))
          (try rw [Exit.noGoto_ret])
          refine bodyPost_ret (v := .agg (arrV ks)) (results_cell_row Tryd.results16 _ _ (xb + 1) 23 _ (0, 0) (.array 4 3) rfl (hP.res.setRow (new := arrV ks)) Tryd.underlying23 rfl hszk) rfl ⟨by rw [HR2.out], Below.setRow hP.far (by omega) _⟩
        · rw [if_neg hbn] at hr
          obtain ⟨B, rfl⟩ : ∃ B : Nat, best = B := ⟨best.toNat, by omega⟩
          rw [Int.toNat_natCast] at hr b2
          obtain ⟨b5, _⟩ := b2 (by omega)
          have b6 := b3 (by omega)
          have hB4 : B < 4 := by omega
          have kB8 := HK.out.2 B hB4
          have hts := tot_set HK.out.1 hB4
          have hpk := pulsesOk_set HK.out hB4 b5
          obtain ⟨kB, hkB⟩ : ∃ kB, ks.getD B 0 = kB := ⟨_, rfl⟩
          rw [hkB] at hr b5 kB8 hts hpk
          have y1 := (hP.kcell B).trans (by rw [arr_get (by rw [HK.out.1]; exact hB4), hkB])
          have f1 := hP.pul.frozen B
          have hP2 := hP.put (by omega) B (kB + 1)
          have HR2 := Lib.hid hr
          have HPK := Lib.hid hpk
          have hm1 := tot4_eq hP HK.out.1
          have hm2 := tot4_eq hP2 hpk.1
          have HM1 := Lib.hid hm1
          have HM2 := Lib.hid hm2
          have HTS := Lib.hid hts
          have hb := HB.out
          clear hr hpk hts hm1 hm2 b2 b3
          go_wp2_with fail
          go_roundw
          case rel => exact ⟨f, ks.set B (kB + 1), bt - price, rfl, by omega, by omega, HPK, Lib.hid (by rw [HTS.out]; omega), Lib.hid (by omega), HR2, hP2⟩
          case measure =>
            show (40 - tot4 (wr.setCell ⟨xb + 2, B, none⟩ (.int .i64 (kB + 1))) (xb + 2)).toNat < (40 - tot4 _ (xb + 2)).toNat
            rw [HM2.out, HM0.out, HTS.out]
            omega
end Go.Proofs.YtnohjidoelohkaaDoor
