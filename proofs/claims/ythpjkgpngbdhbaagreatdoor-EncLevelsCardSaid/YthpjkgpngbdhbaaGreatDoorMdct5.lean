/- The walk of mdct.Waves: two frames' waves. -/
import Derived.Test.YthpjkgpngbdhbaaGreatDoorMdct4
set_option linter.unusedSimpArgs false
set_option linter.unusedVariables false
namespace Go.Proofs.YthpjkgpngbdhbaaGreatDoor
open Go.RowKit

theorem Shift17 (x : Int) (w : World) : Calls Tryz.prog 58 #[.int .i64 x, .int .i64 17] w fun e w' => e = .returned (.int .i64 (Sp.shiftN 17 x)) ∧ w = w' := by
  unfold Sp.shiftN
  by_cases h1 : x < -1099511627776
  · rw [if_pos (.inl h1)]
    go_enter Tryz.func58, Tryz.ntmps58
    go_wp2
    go_ret
    exact ⟨rfl, rfl⟩
  by_cases h2 : 1099511627776 < x
  · rw [if_pos (.inr h2)]
    go_enter Tryz.func58, Tryz.ntmps58
    go_wp2
    go_ret
    exact ⟨rfl, rfl⟩
  rw [if_neg (by omega)]
  go_enter Tryz.func58, Tryz.ntmps58
  go_wp2
  go_ret
  exact ⟨rfl, rfl⟩
/-- What a wave's sum reads. -/
structure WavesR (W : World) (bx bt bk kb gx fx cx lo hi : Nat) (X : List Int) (k : Nat) : Prop where
  x : Blk W bx #[.slice (some ⟨gx, fx, none⟩) 32 cx] 62
  s : SL W lo hi 1 (some ⟨gx, fx, none⟩) 32 cx (intsV X)
  t : Blk W bt #[.pointer (some ⟨kb, 0, none⟩)] 97
  k : Blk W bk #[.int .i64 k] 3
  ker : Blk W kb (arrV kerL) 104
theorem WavesR.newB {W W' : World} {bx bt bk kb gx fx cx lo hi : Nat} {X : List Int} {k : Nat} (h : WavesR W bx bt bk kb gx fx cx lo hi X k) (hb : Below W.heap.size W W') : WavesR W' bx bt bk kb gx fx cx lo hi X k :=
  ⟨h.x.newB hb, h.s.newB hb, h.t.newB hb, h.k.newB hb, h.ker.newB hb⟩
theorem WavesR.drew {W : World} {bx bt bk kb gx fx cx lo hi : Nat} {X : List Int} {k : Nat} (h : WavesR W bx bt bk kb gx fx cx lo hi X k) : WavesR W.drew bx bt bk kb gx fx cx lo hi X k :=
  ⟨h.x.drew, h.s.drew, h.t.drew, h.k.drew, h.ker.drew⟩
set_option maxRecDepth 100000 in
set_option maxHeartbeats 4000000 in
theorem Waves1_any (a b : List Int) (ha : a.length = 16) (hb : b.length = 16) (hwa : a.any wideP = false) (hwb : b.any wideP = false) (bx bt bk kb gx fx cx lo hi : Nat) (k n : Nat) (hk : k < 16) (hn : n < 32) (w : World) (hR : WavesR w bx bt bk kb gx fx cx lo hi (a ++ b) k) :
    Calls Tryz.prog 57 #[.int .i64 n, .pointer (some ⟨bx, 0, none⟩), .pointer (some ⟨bt, 0, none⟩), .pointer (some ⟨bk, 0, none⟩)] w fun e w' => e = .returned (.int .i64 (waveT a b k n)) ∧ Below w.heap.size w w' := by
  have hx0 := wave_in hwa hwb n
  have hw0 := winTab_bd n hn
  have hp := abs_mul_bd (by decide) (by decide) hx0 hw0
  have hy := waveX_bd hwa hwb n
  have hT := waveT_bd hwa hwb k n
  have hTe : waveT a b k n = Sp.shiftN 15 ((a ++ b).getD n 0 * winTab.getD n 0) * kerAt n k := rfl
  have hat := fun W (h : Blk W kb (arrV kerL) 104) => at_any kb n k hn hk W h
  have hsh := fun W => Shift15 ((a ++ b).getD n 0 * winTab.getD n 0) W
  have hcx := fun W (h : WavesR W bx bt bk kb gx fx cx lo hi (a ++ b) k) => sl_get h.s n (by rw [List.length_append]; omega)
  have hcw := fun W (h : WavesR W bx bt bk kb gx fx cx lo hi (a ++ b) k) => (h.ker.cell (128 + n)).trans (kerL_win hn)
  obtain ⟨x, hx⟩ : ∃ x, (a ++ b).getD n 0 = x := ⟨_, rfl⟩
  obtain ⟨u, hu⟩ : ∃ x, winTab.getD n 0 = x := ⟨_, rfl⟩
  simp only [hx] at hcx hp hy hTe hsh
  simp only [hu] at hcw hp hy hTe hsh
  obtain ⟨p, hpe⟩ : ∃ p, x * u = p := ⟨_, rfl⟩
  simp only [hpe] at hp hy hTe hsh
  obtain ⟨y, hye⟩ : ∃ y, Sp.shiftN 15 p = y := ⟨_, rfl⟩
  simp only [hye] at hy hTe hsh
  obtain ⟨q, hq⟩ : ∃ q, kerAt n k = q := ⟨_, rfl⟩
  simp only [hq] at hTe hat
  obtain ⟨z, hz⟩ : ∃ z, y * q = z := ⟨_, rfl⟩
  rw [hz] at hTe
  rw [hTe] at hT ⊢
  have w1 : IntKind.i64.wrap p = p := IntWalk.i64_in _ (by omega)
  have w2 : IntKind.i64.wrap z = z := IntWalk.i64_in _ (by omega)
  have HAT := Lib.hid hat
  have HSH := Lib.hid hsh
  have HCX := Lib.hid hcx
  have HCW := Lib.hid hcw
  have hni : (n : Int) < 32 := by omega
  obtain ⟨X, hX⟩ : ∃ X, a ++ b = X := ⟨_, rfl⟩
  rw [hX] at hR
  simp only [hX] at HCX HCW
  have hcap : 32 ≤ cx := hR.s.2.1
  have hcm := hR.s.2.2.1
  unfold maxLen at hcm
  clear hat hsh hcx hcw hx hu hq hTe hX hye hx0 hw0 hy
  obtain ⟨B, hB⟩ : ∃ B, w.heap.size = B := ⟨_, rfl⟩
  have hfar := Below.refl B w
  have hszw : B ≤ w.heap.size := by omega
  go_enter Tryz.func57, Tryz.ntmps57
  go_upto_region 1 with (fail)
  refine wp_region_held_drew (S := fun W => WavesR W bx bt bk kb gx fx cx lo hi X k) (by kernel_rfl) (hR.drew) (fun hH => ?_)
  refine wpAnyH_take (i := 0) (oi := { dst := some 6, op := Op.load 62 (Operand.tmp 1), type := 62, pos := "mdct.go:56", after := _, guard := none }) (v := _) rfl (by kernel_rfl) (by kernel_rfl) (by kernel_rfl) (fun _ _ _ h => h) (.inl ⟨by rfl, fun w hS => by (have c := (show w.cell? ⟨bx, 0, none⟩ = some (.slice (some ⟨gx, fx, none⟩) 32 cx) from by simpa using hS.x.cell 0); go_simp; try rfl)⟩) hH ?_
  try simp only [Act.put, List.setIfInBounds_toArray, List.set_cons_zero, List.set_cons_succ]
  refine wpAnyH_take (i := 1) (oi := { dst := some 7, op := Op.move (Operand.tmp 0), type := 3, pos := "mdct.go:56", after := _, guard := none }) (v := _) rfl (by kernel_rfl) (by kernel_rfl) (by kernel_rfl) (fun _ _ _ h => h) (.inl ⟨by rfl, fun w hS => by (go_simp; try rfl)⟩) hH ?_
  try simp only [Act.put, List.setIfInBounds_toArray, List.set_cons_zero, List.set_cons_succ]
  refine wpAnyH_take (i := 2) (oi := { dst := some 8, op := Op.indexAddr 62 (Operand.tmp 6) (Operand.tmp 7), type := 0, pos := "mdct.go:56", after := _, guard := none }) (v := _) rfl (by kernel_rfl) (by kernel_rfl) (by kernel_rfl) (fun _ _ _ h => h) (.inl ⟨by rfl, fun w hS => by (go_simp; try rfl)⟩) hH ?_
  try simp only [Act.put, List.setIfInBounds_toArray, List.set_cons_zero, List.set_cons_succ]
  refine wpAnyH_take (i := 3) (oi := { dst := some 9, op := Op.load 3 (Operand.tmp 8), type := 3, pos := "mdct.go:56", after := _, guard := none }) (v := _) rfl (by kernel_rfl) (by kernel_rfl) (by kernel_rfl) (fun _ _ _ h => h) (.inl ⟨by rfl, fun w hS => by (have c := (HCX.out _ hS); go_simp; try rfl)⟩) hH ?_
  try simp only [Act.put, List.setIfInBounds_toArray, List.set_cons_zero, List.set_cons_succ]
  refine wpAnyH_take (i := 4) (oi := { dst := some 10, op := Op.load 97 (Operand.tmp 2), type := 97, pos := "mdct.go:56", after := _, guard := none }) (v := _) rfl (by kernel_rfl) (by kernel_rfl) (by kernel_rfl) (fun _ _ _ h => h) (.inl ⟨by rfl, fun w hS => by (have c := (show w.cell? ⟨bt, 0, none⟩ = some (.pointer (some ⟨kb, 0, none⟩)) from by simpa using hS.t.cell 0); go_simp; try rfl)⟩) hH ?_
  try simp only [Act.put, List.setIfInBounds_toArray, List.set_cons_zero, List.set_cons_succ]
  refine wpAnyH_take (i := 5) (oi := { dst := some 11, op := Op.move (Operand.tmp 0), type := 3, pos := "mdct.go:56", after := _, guard := none }) (v := _) rfl (by kernel_rfl) (by kernel_rfl) (by kernel_rfl) (fun _ _ _ h => h) (.inl ⟨by rfl, fun w hS => by (go_simp; try rfl)⟩) hH ?_
  try simp only [Act.put, List.setIfInBounds_toArray, List.set_cons_zero, List.set_cons_succ]
  refine wpAnyH_take (i := 6) (oi := { dst := some 12, op := Op.nilCheck (Operand.tmp 10), type := 0, pos := "mdct.go:56", after := _, guard := none }) (v := _) rfl (by kernel_rfl) (by kernel_rfl) (by kernel_rfl) (fun _ _ _ h => h) (.inl ⟨by rfl, fun w hS => by (go_simp; try rfl)⟩) hH ?_
  try simp only [Act.put, List.setIfInBounds_toArray, List.set_cons_zero, List.set_cons_succ]
  refine wpAnyH_take (i := 7) (oi := { dst := some 13, op := Op.fieldAddr 104 (Operand.tmp 12) 1, type := 0, pos := "mdct.go:56", after := _, guard := none }) (v := _) rfl (by kernel_rfl) (by kernel_rfl) (by kernel_rfl) (fun _ _ _ h => h) (.inl ⟨by rfl, fun w hS => by (go_simp; try rfl)⟩) hH ?_
  try simp only [Act.put, List.setIfInBounds_toArray, List.set_cons_zero, List.set_cons_succ]
  refine wpAnyH_take (i := 8) (oi := { dst := some 14, op := Op.indexAddr 102 (Operand.tmp 13) (Operand.tmp 11), type := 0, pos := "mdct.go:56", after := _, guard := none }) (v := _) rfl (by kernel_rfl) (by kernel_rfl) (by kernel_rfl) (fun _ _ _ h => h) (.inl ⟨by rfl, fun w hS => by (go_simp; try rfl)⟩) hH ?_
  try simp only [Act.put, List.setIfInBounds_toArray, List.set_cons_zero, List.set_cons_succ]
  refine wpAnyH_take (i := 9) (oi := { dst := some 15, op := Op.load 3 (Operand.tmp 14), type := 3, pos := "mdct.go:56", after := _, guard := none }) (v := _) rfl (by kernel_rfl) (by kernel_rfl) (by kernel_rfl) (fun _ _ _ h => h) (.inl ⟨by rfl, fun w hS => by (have c := (HCW.out _ hS); go_simp; try rfl)⟩) hH ?_
  try simp only [Act.put, List.setIfInBounds_toArray, List.set_cons_zero, List.set_cons_succ]
  refine wpAnyH_take (i := 10) (oi := { dst := some 16, op := Op.binOp BinOp.mul 3 (Operand.tmp 9) (Operand.tmp 15) 3, type := 3, pos := "mdct.go:56", after := _, guard := none }) (v := _) rfl (by kernel_rfl) (by kernel_rfl) (by kernel_rfl) (fun _ _ _ h => h) (.inl ⟨by rfl, fun w hS => by (go_simp; try rfl)⟩) hH ?_
  try simp only [Act.put, List.setIfInBounds_toArray, List.set_cons_zero, List.set_cons_succ]
  refine wpAnyH_take (i := 12) (oi := { dst := some 18, op := Op.load 97 (Operand.tmp 2), type := 97, pos := "mdct.go:56", after := _, guard := none }) (v := _) rfl (by kernel_rfl) (by kernel_rfl) (by kernel_rfl) (fun _ _ _ h => h) (.inl ⟨by rfl, fun w hS => by (have c := (show w.cell? ⟨bt, 0, none⟩ = some (.pointer (some ⟨kb, 0, none⟩)) from by simpa using hS.t.cell 0); go_simp; try rfl)⟩) hH ?_
  try simp only [Act.put, List.setIfInBounds_toArray, List.set_cons_zero, List.set_cons_succ]
  refine wpAnyH_take (i := 13) (oi := { dst := some 19, op := Op.move (Operand.tmp 0), type := 3, pos := "mdct.go:56", after := _, guard := none }) (v := _) rfl (by kernel_rfl) (by kernel_rfl) (by kernel_rfl) (fun _ _ _ h => h) (.inl ⟨by rfl, fun w hS => by (go_simp; try rfl)⟩) hH ?_
  try simp only [Act.put, List.setIfInBounds_toArray, List.set_cons_zero, List.set_cons_succ]
  refine wpAnyH_take (i := 14) (oi := { dst := some 20, op := Op.load 3 (Operand.tmp 3), type := 3, pos := "mdct.go:56", after := _, guard := none }) (v := _) rfl (by kernel_rfl) (by kernel_rfl) (by kernel_rfl) (fun _ _ _ h => h) (.inl ⟨by rfl, fun w hS => by (have c := (show w.cell? ⟨bk, 0, none⟩ = some (.int .i64 k) from by simpa using hS.k.cell 0); go_simp; try rfl)⟩) hH ?_
  try simp only [Act.put, List.setIfInBounds_toArray, List.set_cons_zero, List.set_cons_succ]
  refine wpAnyH_ready (rs := [11]) (by kernel_rfl) (by simp) ?_
  refine AllReadyH.cons (o := { dst := some 17, op := Op.call { callee := Callee.value (Operand.func 58), args := #[Operand.tmp 16, Operand.const (Value.int IntKind.i64 15)], argTypes := #[3, 3] }, type := 3, pos := "mdct.go:56", after := _, guard := none }) rfl (fun K hK => ?_) AllReadyH.nil
  rw [if_pos (by rfl)]
  go_simp
  refine (HSH.out _).mono ?_
  rintro r wq ⟨rfl, rfl⟩
  go_wp2_with fail
  refine hK.out _ _ hH (fun hH => ?_)
  clear hK K
  try simp only [Act.put, List.setIfInBounds_toArray, List.set_cons_zero, List.set_cons_succ]
  refine wpAnyH_ready (rs := [15]) (by kernel_rfl) (by simp) ?_
  refine AllReadyH.cons (o := { dst := some 21, op := Op.call { callee := Callee.value (Operand.func 59), args := #[Operand.tmp 18, Operand.tmp 19, Operand.tmp 20], argTypes := #[97, 3, 3] }, type := 3, pos := "mdct.go:56", after := _, guard := none }) rfl (fun K hK => ?_) AllReadyH.nil
  rw [if_pos (by rfl)]
  go_simp
  refine (HAT.out _ hH.ker).mono ?_
  rintro r wq ⟨rfl, rfl⟩
  go_wp2_with fail
  refine hK.out _ _ hH (fun hH => ?_)
  clear hK K
  try simp only [Act.put, List.setIfInBounds_toArray, List.set_cons_zero, List.set_cons_succ]
  refine wpAnyH_take (i := 16) (oi := { dst := some 22, op := Op.binOp BinOp.mul 3 (Operand.tmp 17) (Operand.tmp 21) 3, type := 3, pos := "mdct.go:56", after := _, guard := none }) (v := _) rfl (by kernel_rfl) (by kernel_rfl) (by kernel_rfl) (fun _ _ _ h => h) (.inl ⟨by rfl, fun w hS => by (go_simp; try rfl)⟩) hH ?_
  try simp only [Act.put, List.setIfInBounds_toArray, List.set_cons_zero, List.set_cons_succ]
  refine wpAnyH_take (i := 17) (oi := { dst := some 5, op := Op.assign (Operand.tmp 22), type := 3, pos := "mdct.go:56", after := _, guard := none }) (v := _) rfl (by kernel_rfl) (by kernel_rfl) (by kernel_rfl) (fun _ _ _ h => h) (.inl ⟨by rfl, fun w hS => by (go_simp; try rfl)⟩) hH ?_
  try simp only [Act.put, List.setIfInBounds_toArray, List.set_cons_zero, List.set_cons_succ]
  refine wpAnyH_done (by kernel_rfl) ?_ _
  go_wp2_with fail
  go_ret
  exact ⟨by first | rfl | (rw [← hz]; rfl), (by (try rw [hB]); exact bl_)⟩
end Go.Proofs.YthpjkgpngbdhbaaGreatDoor
