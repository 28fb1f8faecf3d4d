/- The walks of spec.True and spec.Truths. -/
import Derived.Test.YtmfihaaiddolmaaGreatDoorSpec6
set_option linter.unusedSimpArgs false
set_option linter.unusedVariables false
namespace Go.Proofs.YtmfihaaiddolmaaGreatDoor
open Go.RowKit

set_option maxRecDepth 100000 in
set_option maxHeartbeats 4000000 in
theorem True_any (L : List Int) (hL : L.length = 38) (e : Ent) (w : World) : Calls Tryz.prog 61 #[.agg (arrV L), .agg (entV e)] w fun r w' => r = .returned (.bool (trueE L e)) ∧ Below w.heap.size w w' := by
  obtain ⟨k, sp, s⟩ := e
  obtain ⟨R, hR⟩ : ∃ R, trueE L ⟨k, sp, s⟩ = R := ⟨_, rfl⟩
  rw [hR]
  have HR := Lib.hid hR
  have hEr := fun w => ERight_any ⟨k, sp, s⟩ w
  have hRt := fun w => Right_any L hL w
  have hTo := fun w => stold_any ⟨k, sp, s⟩ w
  have LO := Len.mk (readSt_len s)
  obtain ⟨O, hO⟩ : ∃ O, readSt s = O := ⟨_, rfl⟩
  simp only [hO] at hTo LO
  have HOO := Lib.hid hO
  have LL := Len.mk hL
  have HER := Lib.hid hEr
  have HRT := Lib.hid hRt
  have HTO := Lib.hid hTo
  clear hR hL hEr hRt hTo hO
  obtain ⟨B, hB⟩ : ∃ B, w.heap.size = B := ⟨_, rfl⟩
  have hfar := Below.refl B w
  have hsz : B ≤ w.heap.size := by omega
  go_enter Tryz.func61, Tryz.ntmps61
  go_upto_region 1 with (fail)
  refine wp_gen (fun W => Blk W (B) (arrV L) 35 ∧ Blk W (B + 1) (entV ⟨k, sp, s⟩) 61 ∧ Below (B) w W ∧ B + 2 ≤ W.heap.size) ⟨bk_, bk_, bl_, sz_⟩ ?_
  clear hfar hsz
  rintro w1 ⟨hS, hE, hfar, hsz⟩
  cases hrs : rightS L with
  | false =>
    have h1 : R = false := by rw [← HR.out]; unfold trueE; rw [hrs]; rfl
    subst h1
    rw [hrs] at HRT
    refine wp_region_held_drew (S := fun W => Blk W (B) (arrV L) 35 ∧ Blk W (B + 1) (entV ⟨k, sp, s⟩) 61 ∧ Below (B) w W ∧ B + 2 ≤ W.heap.size) (by kernel_rfl) (⟨hS.drew, hE.drew, hfar.drew, hsz⟩) (fun hH => ?_)
    have hH2 := hH
    obtain ⟨hS, hE, hfar, hsz⟩ := hH2
    refine wpAnyH_take (i := 0) (oi := { dst := some 5, op := Op.load 35 (Operand.tmp 2), type := 35, pos := "spec.go:56", after := _, guard := none }) (v := .agg (arrV L)) rfl (by kernel_rfl) (by kernel_rfl) (by kernel_rfl) (fun _ _ _ h => h) (yieldsIf_ld (by rfl) 35 rfl w_State rfl (fun _ hS => hS.1) zz_) hH ?_
    try simp only [Act.put, List.setIfInBounds_toArray, List.set_cons_zero, List.set_cons_succ]
    refine wpAnyH_ready (rs := [1]) (by kernel_rfl) (by simp) ?_
    refine AllReadyH.cons (o := { dst := some 6, op := Op.call { callee := Callee.value (Operand.func 33), args := #[Operand.tmp 5], argTypes := #[35] }, type := 4, pos := "spec.go:56", after := _, guard := none }) rfl (fun K hK => ?_) AllReadyH.nil
    rw [if_pos (by rfl)]
    go_simp
    refine (HRT.out _).mono ?_
    rintro r wq ⟨rfl, hb⟩
    have hbs := hb.size
    try simp only [World.size_alloc, World.size_setCell, World.size_drew, size_setRow] at hbs
    go_wp2_with fail
    refine hK.out _ _ ⟨bk_, bk_, bl_, Nat.le_trans (sz_) hb.size⟩ (fun hH2 => ?_)
    clear hH
    have hH := hH2
    obtain ⟨hS, hE, hfar, hsz⟩ := hH2
    clear hK K
    try simp only [Act.put, List.setIfInBounds_toArray, List.set_cons_zero, List.set_cons_succ]
    refine wpAnyH_take (i := 2) (oi := { dst := some 7, op := Op.move (Operand.tmp 6), type := 4, pos := "spec.go:56", after := _, guard := none }) (v := _) rfl (by kernel_rfl) (by kernel_rfl) (by kernel_rfl) (fun _ _ _ h => h) (.inl ⟨by rfl, fun w hS => by (go_simp; try rfl)⟩) hH ?_
    try simp only [Act.put, List.setIfInBounds_toArray, List.set_cons_zero, List.set_cons_succ]
    refine wpAnyH_take (i := 3) (oi := { dst := some 8, op := Op.load 61 (Operand.tmp 3), type := 61, pos := "spec.go:56", after := _, guard := some (2, true) }) (v := undef) rfl (by kernel_rfl) (by kernel_rfl) (by kernel_rfl) (fun _ _ _ h => h) (.inr ⟨by rfl, rfl⟩) hH ?_
    try simp only [Act.put, List.setIfInBounds_toArray, List.set_cons_zero, List.set_cons_succ]
    refine wpAnyH_take (i := 4) (oi := { dst := some 9, op := Op.call { callee := Callee.value (Operand.func 65), args := #[Operand.tmp 8], argTypes := #[61] }, type := 4, pos := "spec.go:56", after := _, guard := some (2, true) }) (v := undef) rfl (by kernel_rfl) (by kernel_rfl) (by kernel_rfl) (fun _ _ _ h => h) (.inr ⟨by rfl, rfl⟩) hH ?_
    try simp only [Act.put, List.setIfInBounds_toArray, List.set_cons_zero, List.set_cons_succ]
    refine wpAnyH_take (i := 5) (oi := { dst := some 10, op := Op.pick (Operand.tmp 7) (Operand.tmp 9) (Operand.const (Value.bool false)), type := 4, pos := "spec.go:56", after := _, guard := none }) (v := _) rfl (by kernel_rfl) (by kernel_rfl) (by kernel_rfl) (fun _ _ _ h => h) (.inl ⟨by rfl, fun w hS => by (go_simp; try rfl)⟩) hH ?_
    try simp only [Act.put, List.setIfInBounds_toArray, List.set_cons_zero, List.set_cons_succ]
    refine wpAnyH_take (i := 6) (oi := { dst := some 11, op := Op.move (Operand.tmp 10), type := 4, pos := "spec.go:56", after := _, guard := none }) (v := _) rfl (by kernel_rfl) (by kernel_rfl) (by kernel_rfl) (fun _ _ _ h => h) (.inl ⟨by rfl, fun w hS => by (go_simp; try rfl)⟩) hH ?_
    try simp only [Act.put, List.setIfInBounds_toArray, List.set_cons_zero, List.set_cons_succ]
    refine wpAnyH_take (i := 7) (oi := { dst := some 12, op := Op.fieldAddr 61 (Operand.tmp 3) 0, type := 0, pos := "spec.go:56", after := _, guard := some (6, true) }) (v := undef) rfl (by kernel_rfl) (by kernel_rfl) (by kernel_rfl) (fun _ _ _ h => h) (.inr ⟨by rfl, rfl⟩) hH ?_
    try simp only [Act.put, List.setIfInBounds_toArray, List.set_cons_zero, List.set_cons_succ]
    refine wpAnyH_take (i := 8) (oi := { dst := some 13, op := Op.load 3 (Operand.tmp 12), type := 3, pos := "spec.go:56", after := _, guard := some (6, true) }) (v := undef) rfl (by kernel_rfl) (by kernel_rfl) (by kernel_rfl) (fun _ _ _ h => h) (.inr ⟨by rfl, rfl⟩) hH ?_
    try simp only [Act.put, List.setIfInBounds_toArray, List.set_cons_zero, List.set_cons_succ]
    refine wpAnyH_take (i := 9) (oi := { dst := some 14, op := Op.binOp BinOp.neq 3 (Operand.tmp 13) (Operand.const (Value.int IntKind.i64 3)) 3, type := 4, pos := "spec.go:56", after := _, guard := some (6, true) }) (v := undef) rfl (by kernel_rfl) (by kernel_rfl) (by kernel_rfl) (fun _ _ _ h => h) (.inr ⟨by rfl, rfl⟩) hH ?_
    try simp only [Act.put, List.setIfInBounds_toArray, List.set_cons_zero, List.set_cons_succ]
    refine wpAnyH_take (i := 10) (oi := { dst := some 15, op := Op.move (Operand.tmp 14), type := 4, pos := "spec.go:56", after := _, guard := some (6, true) }) (v := undef) rfl (by kernel_rfl) (by kernel_rfl) (by kernel_rfl) (fun _ _ _ h => h) (.inr ⟨by rfl, rfl⟩) hH ?_
    try simp only [Act.put, List.setIfInBounds_toArray, List.set_cons_zero, List.set_cons_succ]
    refine wpAnyH_take (i := 11) (oi := { dst := some 16, op := Op.load 61 (Operand.tmp 3), type := 61, pos := "spec.go:56", after := _, guard := some (10, false) }) (v := undef) rfl (by kernel_rfl) (by kernel_rfl) (by kernel_rfl) (fun _ _ _ h => h) (.inr ⟨by rfl, rfl⟩) hH ?_
    try simp only [Act.put, List.setIfInBounds_toArray, List.set_cons_zero, List.set_cons_succ]
    refine wpAnyH_take (i := 12) (oi := { dst := some 17, op := Op.call { callee := Callee.value (Operand.func 100), args := #[Operand.tmp 16], argTypes := #[61] }, type := 35, pos := "spec.go:56", after := _, guard := some (10, false) }) (v := undef) rfl (by kernel_rfl) (by kernel_rfl) (by kernel_rfl) (fun _ _ _ h => h) (.inr ⟨by rfl, rfl⟩) hH ?_
    try simp only [Act.put, List.setIfInBounds_toArray, List.set_cons_zero, List.set_cons_succ]
    refine wpAnyH_take (i := 13) (oi := { dst := some 18, op := Op.load 35 (Operand.tmp 2), type := 35, pos := "spec.go:56", after := _, guard := some (10, false) }) (v := undef) rfl (by kernel_rfl) (by kernel_rfl) (by kernel_rfl) (fun _ _ _ h => h) (.inr ⟨by rfl, rfl⟩) hH ?_
    try simp only [Act.put, List.setIfInBounds_toArray, List.set_cons_zero, List.set_cons_succ]
    refine wpAnyH_take (i := 14) (oi := { dst := some 19, op := Op.binOp BinOp.eql 35 (Operand.tmp 17) (Operand.tmp 18) 35, type := 4, pos := "spec.go:56", after := _, guard := some (10, false) }) (v := undef) rfl (by kernel_rfl) (by kernel_rfl) (by kernel_rfl) (fun _ _ _ h => h) (.inr ⟨by rfl, rfl⟩) hH ?_
    try simp only [Act.put, List.setIfInBounds_toArray, List.set_cons_zero, List.set_cons_succ]
    refine wpAnyH_take (i := 15) (oi := { dst := some 20, op := Op.pick (Operand.tmp 15) (Operand.const (Value.bool true)) (Operand.tmp 19), type := 4, pos := "spec.go:56", after := _, guard := some (6, true) }) (v := undef) rfl (by kernel_rfl) (by kernel_rfl) (by kernel_rfl) (fun _ _ _ h => h) (.inr ⟨by rfl, rfl⟩) hH ?_
    try simp only [Act.put, List.setIfInBounds_toArray, List.set_cons_zero, List.set_cons_succ]
    refine wpAnyH_take (i := 16) (oi := { dst := some 21, op := Op.pick (Operand.tmp 11) (Operand.tmp 20) (Operand.const (Value.bool false)), type := 4, pos := "spec.go:56", after := _, guard := none }) (v := _) rfl (by kernel_rfl) (by kernel_rfl) (by kernel_rfl) (fun _ _ _ h => h) (.inl ⟨by rfl, fun w hS => by (go_simp; try rfl)⟩) hH ?_
    try simp only [Act.put, List.setIfInBounds_toArray, List.set_cons_zero, List.set_cons_succ]
    refine wpAnyH_take (i := 17) (oi := { dst := some 4, op := Op.assign (Operand.tmp 21), type := 4, pos := "spec.go:56", after := _, guard := none }) (v := _) rfl (by kernel_rfl) (by kernel_rfl) (by kernel_rfl) (fun _ _ _ h => h) (.inl ⟨by rfl, fun w hS => by (go_simp; try rfl)⟩) hH ?_
    try simp only [Act.put, List.setIfInBounds_toArray, List.set_cons_zero, List.set_cons_succ]
    refine wpAnyH_done (by kernel_rfl) ?_ _
    go_wp2_with fail
    go_ret
    exact ⟨rfl, (by (try rw [hB]); exact bl_)⟩
  | true =>
    rw [hrs] at HRT
    cases hre : rightE ⟨k, sp, s⟩ with
    | false =>
      have h1 : R = false := by rw [← HR.out]; unfold trueE; rw [hrs, hre]; rfl
      subst h1
      rw [hre] at HER
      refine wp_region_held_drew (S := fun W => Blk W (B) (arrV L) 35 ∧ Blk W (B + 1) (entV ⟨k, sp, s⟩) 61 ∧ Below (B) w W ∧ B + 2 ≤ W.heap.size) (by kernel_rfl) (⟨hS.drew, hE.drew, hfar.drew, hsz⟩) (fun hH => ?_)
      have hH2 := hH
      obtain ⟨hS, hE, hfar, hsz⟩ := hH2
      refine wpAnyH_take (i := 0) (oi := { dst := some 5, op := Op.load 35 (Operand.tmp 2), type := 35, pos := "spec.go:56", after := _, guard := none }) (v := .agg (arrV L)) rfl (by kernel_rfl) (by kernel_rfl) (by kernel_rfl) (fun _ _ _ h => h) (yieldsIf_ld (by rfl) 35 rfl w_State rfl (fun _ hS => hS.1) zz_) hH ?_
      try simp only [Act.put, List.setIfInBounds_toArray, List.set_cons_zero, List.set_cons_succ]
      refine wpAnyH_ready (rs := [1]) (by kernel_rfl) (by simp) ?_
      refine AllReadyH.cons (o := { dst := some 6, op := Op.call { callee := Callee.value (Operand.func 33), args := #[Operand.tmp 5], argTypes := #[35] }, type := 4, pos := "spec.go:56", after := _, guard := none }) rfl (fun K hK => ?_) AllReadyH.nil
      rw [if_pos (by rfl)]
      go_simp
      refine (HRT.out _).mono ?_
      rintro r wq ⟨rfl, hb⟩
      have hbs := hb.size
      try simp only [World.size_alloc, World.size_setCell, World.size_drew, size_setRow] at hbs
      go_wp2_with fail
      refine hK.out _ _ ⟨bk_, bk_, bl_, Nat.le_trans (sz_) hb.size⟩ (fun hH2 => ?_)
      clear hH
      have hH := hH2
      obtain ⟨hS, hE, hfar, hsz⟩ := hH2
      clear hK K
      try simp only [Act.put, List.setIfInBounds_toArray, List.set_cons_zero, List.set_cons_succ]
      refine wpAnyH_take (i := 2) (oi := { dst := some 7, op := Op.move (Operand.tmp 6), type := 4, pos := "spec.go:56", after := _, guard := none }) (v := _) rfl (by kernel_rfl) (by kernel_rfl) (by kernel_rfl) (fun _ _ _ h => h) (.inl ⟨by rfl, fun w hS => by (go_simp; try rfl)⟩) hH ?_
      try simp only [Act.put, List.setIfInBounds_toArray, List.set_cons_zero, List.set_cons_succ]
      refine wpAnyH_take (i := 3) (oi := { dst := some 8, op := Op.load 61 (Operand.tmp 3), type := 61, pos := "spec.go:56", after := _, guard := some (2, true) }) (v := .agg (entV ⟨k, sp, s⟩)) rfl (by kernel_rfl) (by kernel_rfl) (by kernel_rfl) (fun _ _ _ h => h) (yieldsIf_ld (by rfl) 61 rfl w_Entry rfl (fun _ hS => hS.2.1) zz_) hH ?_
      try simp only [Act.put, List.setIfInBounds_toArray, List.set_cons_zero, List.set_cons_succ]
      refine wpAnyH_ready (rs := [4]) (by kernel_rfl) (by simp) ?_
      refine AllReadyH.cons (o := { dst := some 9, op := Op.call { callee := Callee.value (Operand.func 65), args := #[Operand.tmp 8], argTypes := #[61] }, type := 4, pos := "spec.go:56", after := _, guard := some (2, true) }) rfl (fun K hK => ?_) AllReadyH.nil
      rw [if_pos (by rfl)]
      go_simp
      refine (HER.out _).mono ?_
      rintro r wq ⟨rfl, hb⟩
      have hbs := hb.size
      try simp only [World.size_alloc, World.size_setCell, World.size_drew, size_setRow] at hbs
      go_wp2_with fail
      refine hK.out _ _ ⟨bk_, bk_, bl_, Nat.le_trans (sz_) hb.size⟩ (fun hH2 => ?_)
      clear hH
      have hH := hH2
      obtain ⟨hS, hE, hfar, hsz⟩ := hH2
      clear hK K
      try simp only [Act.put, List.setIfInBounds_toArray, List.set_cons_zero, List.set_cons_succ]
      refine wpAnyH_take (i := 5) (oi := { dst := some 10, op := Op.pick (Operand.tmp 7) (Operand.tmp 9) (Operand.const (Value.bool false)), type := 4, pos := "spec.go:56", after := _, guard := none }) (v := _) rfl (by kernel_rfl) (by kernel_rfl) (by kernel_rfl) (fun _ _ _ h => h) (.inl ⟨by rfl, fun w hS => by (go_simp; try rfl)⟩) hH ?_
      try simp only [Act.put, List.setIfInBounds_toArray, List.set_cons_zero, List.set_cons_succ]
      refine wpAnyH_take (i := 6) (oi := { dst := some 11, op := Op.move (Operand.tmp 10), type := 4, pos := "spec.go:56", after := _, guard := none }) (v := _) rfl (by kernel_rfl) (by kernel_rfl) (by kernel_rfl) (fun _ _ _ h => h) (.inl ⟨by rfl, fun w hS => by (go_simp; try rfl)⟩) hH ?_
      try simp only [Act.put, List.setIfInBounds_toArray, List.set_cons_zero, List.set_cons_succ]
      refine wpAnyH_take (i := 7) (oi := { dst := some 12, op := Op.fieldAddr 61 (Operand.tmp 3) 0, type := 0, pos := "spec.go:56", after := _, guard := some (6, true) }) (v := undef) rfl (by kernel_rfl) (by kernel_rfl) (by kernel_rfl) (fun _ _ _ h => h) (.inr ⟨by rfl, rfl⟩) hH ?_
      try simp only [Act.put, List.setIfInBounds_toArray, List.set_cons_zero, List.set_cons_succ]
      refine wpAnyH_take (i := 8) (oi := { dst := some 13, op := Op.load 3 (Operand.tmp 12), type := 3, pos := "spec.go:56", after := _, guard := some (6, true) }) (v := undef) rfl (by kernel_rfl) (by kernel_rfl) (by kernel_rfl) (fun _ _ _ h => h) (.inr ⟨by rfl, rfl⟩) hH ?_
      try simp only [Act.put, List.setIfInBounds_toArray, List.set_cons_zero, List.set_cons_succ]
      refine wpAnyH_take (i := 9) (oi := { dst := some 14, op := Op.binOp BinOp.neq 3 (Operand.tmp 13) (Operand.const (Value.int IntKind.i64 3)) 3, type := 4, pos := "spec.go:56", after := _, guard := some (6, true) }) (v := undef) rfl (by kernel_rfl) (by kernel_rfl) (by kernel_rfl) (fun _ _ _ h => h) (.inr ⟨by rfl, rfl⟩) hH ?_
      try simp only [Act.put, List.setIfInBounds_toArray, List.set_cons_zero, List.set_cons_succ]
      refine wpAnyH_take (i := 10) (oi := { dst := some 15, op := Op.move (Operand.tmp 14), type := 4, pos := "spec.go:56", after := _, guard := some (6, true) }) (v := undef) rfl (by kernel_rfl) (by kernel_rfl) (by kernel_rfl) (fun _ _ _ h => h) (.inr ⟨by rfl, rfl⟩) hH ?_
      try simp only [Act.put, List.setIfInBounds_toArray, List.set_cons_zero, List.set_cons_succ]
      refine wpAnyH_take (i := 11) (oi := { dst := some 16, op := Op.load 61 (Operand.tmp 3), type := 61, pos := "spec.go:56", after := _, guard := some (10, false) }) (v := undef) rfl (by kernel_rfl) (by kernel_rfl) (by kernel_rfl) (fun _ _ _ h => h) (.inr ⟨by rfl, rfl⟩) hH ?_
      try simp only [Act.put, List.setIfInBounds_toArray, List.set_cons_zero, List.set_cons_succ]
      refine wpAnyH_take (i := 12) (oi := { dst := some 17, op := Op.call { callee := Callee.value (Operand.func 100), args := #[Operand.tmp 16], argTypes := #[61] }, type := 35, pos := "spec.go:56", after := _, guard := some (10, false) }) (v := undef) rfl (by kernel_rfl) (by kernel_rfl) (by kernel_rfl) (fun _ _ _ h => h) (.inr ⟨by rfl, rfl⟩) hH ?_
      try simp only [Act.put, List.setIfInBounds_toArray, List.set_cons_zero, List.set_cons_succ]
      refine wpAnyH_take (i := 13) (oi := { dst := some 18, op := Op.load 35 (Operand.tmp 2), type := 35, pos := "spec.go:56", after := _, guard := some (10, false) }) (v := undef) rfl (by kernel_rfl) (by kernel_rfl) (by kernel_rfl) (fun _ _ _ h => h) (.inr ⟨by rfl, rfl⟩) hH ?_
      try simp only [Act.put, List.setIfInBounds_toArray, List.set_cons_zero, List.set_cons_succ]
      refine wpAnyH_take (i := 14) (oi := { dst := some 19, op := Op.binOp BinOp.eql 35 (Operand.tmp 17) (Operand.tmp 18) 35, type := 4, pos := "spec.go:56", after := _, guard := some (10, false) }) (v := undef) rfl (by kernel_rfl) (by kernel_rfl) (by kernel_rfl) (fun _ _ _ h => h) (.inr ⟨by rfl, rfl⟩) hH ?_
      try simp only [Act.put, List.setIfInBounds_toArray, List.set_cons_zero, List.set_cons_succ]
      refine wpAnyH_take (i := 15) (oi := { dst := some 20, op := Op.pick (Operand.tmp 15) (Operand.const (Value.bool true)) (Operand.tmp 19), type := 4, pos := "spec.go:56", after := _, guard := some (6, true) }) (v := undef) rfl (by kernel_rfl) (by kernel_rfl) (by kernel_rfl) (fun _ _ _ h => h) (.inr ⟨by rfl, rfl⟩) hH ?_
      try simp only [Act.put, List.setIfInBounds_toArray, List.set_cons_zero, List.set_cons_succ]
      refine wpAnyH_take (i := 16) (oi := { dst := some 21, op := Op.pick (Operand.tmp 11) (Operand.tmp 20) (Operand.const (Value.bool false)), type := 4, pos := "spec.go:56", after := _, guard := none }) (v := _) rfl (by kernel_rfl) (by kernel_rfl) (by kernel_rfl) (fun _ _ _ h => h) (.inl ⟨by rfl, fun w hS => by (go_simp; try rfl)⟩) hH ?_
      try simp only [Act.put, List.setIfInBounds_toArray, List.set_cons_zero, List.set_cons_succ]
      refine wpAnyH_take (i := 17) (oi := { dst := some 4, op := Op.assign (Operand.tmp 21), type := 4, pos := "spec.go:56", after := _, guard := none }) (v := _) rfl (by kernel_rfl) (by kernel_rfl) (by kernel_rfl) (fun _ _ _ h => h) (.inl ⟨by rfl, fun w hS => by (go_simp; try rfl)⟩) hH ?_
      try simp only [Act.put, List.setIfInBounds_toArray, List.set_cons_zero, List.set_cons_succ]
      refine wpAnyH_done (by kernel_rfl) ?_ _
      go_wp2_with fail
      go_ret
      exact ⟨rfl, (by (try rw [hB]); exact bl_)⟩
    | true =>
      rw [hre] at HER
      by_cases h3 : k = 3
      · subst h3
        have h1 : R = (O == L) := by rw [← HR.out, ← HOO.out]; unfold trueE; rw [hrs, hre]; simp
        clear hrs hre
        refine wp_region_held_drew (S := fun W => Blk W (B) (arrV L) 35 ∧ Blk W (B + 1) (entV ⟨3, sp, s⟩) 61 ∧ Below (B) w W ∧ B + 2 ≤ W.heap.size) (by kernel_rfl) (⟨hS.drew, hE.drew, hfar.drew, hsz⟩) (fun hH => ?_)
        have hH2 := hH
        obtain ⟨hS, hE, hfar, hsz⟩ := hH2
        refine wpAnyH_take (i := 0) (oi := { dst := some 5, op := Op.load 35 (Operand.tmp 2), type := 35, pos := "spec.go:56", after := _, guard := none }) (v := .agg (arrV L)) rfl (by kernel_rfl) (by kernel_rfl) (by kernel_rfl) (fun _ _ _ h => h) (yieldsIf_ld (by rfl) 35 rfl w_State rfl (fun _ hS => hS.1) zz_) hH ?_
        try simp only [Act.put, List.setIfInBounds_toArray, List.set_cons_zero, List.set_cons_succ]
        refine wpAnyH_ready (rs := [1]) (by kernel_rfl) (by simp) ?_
        refine AllReadyH.cons (o := { dst := some 6, op := Op.call { callee := Callee.value (Operand.func 33), args := #[Operand.tmp 5], argTypes := #[35] }, type := 4, pos := "spec.go:56", after := _, guard := none }) rfl (fun K hK => ?_) AllReadyH.nil
        rw [if_pos (by rfl)]
        go_simp
        refine (HRT.out _).mono ?_
        rintro r wq ⟨rfl, hb⟩
        have hbs := hb.size
        try simp only [World.size_alloc, World.size_setCell, World.size_drew, size_setRow] at hbs
        go_wp2_with fail
        refine hK.out _ _ ⟨bk_, bk_, bl_, Nat.le_trans (sz_) hb.size⟩ (fun hH2 => ?_)
        clear hH
        have hH := hH2
        obtain ⟨hS, hE, hfar, hsz⟩ := hH2
        clear hK K
        try simp only [Act.put, List.setIfInBounds_toArray, List.set_cons_zero, List.set_cons_succ]
        refine wpAnyH_take (i := 2) (oi := { dst := some 7, op := Op.move (Operand.tmp 6), type := 4, pos := "spec.go:56", after := _, guard := none }) (v := _) rfl (by kernel_rfl) (by kernel_rfl) (by kernel_rfl) (fun _ _ _ h => h) (.inl ⟨by rfl, fun w hS => by (go_simp; try rfl)⟩) hH ?_
        try simp only [Act.put, List.setIfInBounds_toArray, List.set_cons_zero, List.set_cons_succ]
        refine wpAnyH_take (i := 3) (oi := { dst := some 8, op := Op.load 61 (Operand.tmp 3), type := 61, pos := "spec.go:56", after := _, guard := some (2, true) }) (v := .agg (entV ⟨3, sp, s⟩)) rfl (by kernel_rfl) (by kernel_rfl) (by kernel_rfl) (fun _ _ _ h => h) (yieldsIf_ld (by rfl) 61 rfl w_Entry rfl (fun _ hS => hS.2.1) zz_) hH ?_
        try simp only [Act.put, List.setIfInBounds_toArray, List.set_cons_zero, List.set_cons_succ]
        refine wpAnyH_ready (rs := [4]) (by kernel_rfl) (by simp) ?_
        refine AllReadyH.cons (o := { dst := some 9, op := Op.call { callee := Callee.value (Operand.func 65), args := #[Operand.tmp 8], argTypes := #[61] }, type := 4, pos := "spec.go:56", after := _, guard := some (2, true) }) rfl (fun K hK => ?_) AllReadyH.nil
        rw [if_pos (by rfl)]
        go_simp
        refine (HER.out _).mono ?_
        rintro r wq ⟨rfl, hb⟩
        have hbs := hb.size
        try simp only [World.size_alloc, World.size_setCell, World.size_drew, size_setRow] at hbs
        go_wp2_with fail
        refine hK.out _ _ ⟨bk_, bk_, bl_, Nat.le_trans (sz_) hb.size⟩ (fun hH2 => ?_)
        clear hH
        have hH := hH2
        obtain ⟨hS, hE, hfar, hsz⟩ := hH2
        clear hK K
        try simp only [Act.put, List.setIfInBounds_toArray, List.set_cons_zero, List.set_cons_succ]
        refine wpAnyH_take (i := 5) (oi := { dst := some 10, op := Op.pick (Operand.tmp 7) (Operand.tmp 9) (Operand.const (Value.bool false)), type := 4, pos := "spec.go:56", after := _, guard := none }) (v := _) rfl (by kernel_rfl) (by kernel_rfl) (by kernel_rfl) (fun _ _ _ h => h) (.inl ⟨by rfl, fun w hS => by (go_simp; try rfl)⟩) hH ?_
        try simp only [Act.put, List.setIfInBounds_toArray, List.set_cons_zero, List.set_cons_succ]
        refine wpAnyH_take (i := 6) (oi := { dst := some 11, op := Op.move (Operand.tmp 10), type := 4, pos := "spec.go:56", after := _, guard := none }) (v := _) rfl (by kernel_rfl) (by kernel_rfl) (by kernel_rfl) (fun _ _ _ h => h) (.inl ⟨by rfl, fun w hS => by (go_simp; try rfl)⟩) hH ?_
        try simp only [Act.put, List.setIfInBounds_toArray, List.set_cons_zero, List.set_cons_succ]
        refine wpAnyH_take (i := 7) (oi := { dst := some 12, op := Op.fieldAddr 61 (Operand.tmp 3) 0, type := 0, pos := "spec.go:56", after := _, guard := some (6, true) }) (v := _) rfl (by kernel_rfl) (by kernel_rfl) (by kernel_rfl) (fun _ _ _ h => h) (.inl ⟨by rfl, fun w hS => by (go_simp; try rfl)⟩) hH ?_
        try simp only [Act.put, List.setIfInBounds_toArray, List.set_cons_zero, List.set_cons_succ]
        refine wpAnyH_take (i := 8) (oi := { dst := some 13, op := Op.load 3 (Operand.tmp 12), type := 3, pos := "spec.go:56", after := _, guard := some (6, true) }) (v := _) rfl (by kernel_rfl) (by kernel_rfl) (by kernel_rfl) (fun _ _ _ h => h) (.inl ⟨by rfl, fun w hS => by (have c := (show w.cell? ⟨B + 1, 0, none⟩ = some (.int .i64 3) from by simpa using hS.2.1.cell 0); go_simp; try rfl)⟩) hH ?_
        try simp only [Act.put, List.setIfInBounds_toArray, List.set_cons_zero, List.set_cons_succ]
        refine wpAnyH_take (i := 9) (oi := { dst := some 14, op := Op.binOp BinOp.neq 3 (Operand.tmp 13) (Operand.const (Value.int IntKind.i64 3)) 3, type := 4, pos := "spec.go:56", after := _, guard := some (6, true) }) (v := .bool false) rfl (by kernel_rfl) (by kernel_rfl) (by kernel_rfl) (fun _ _ _ h => h) (.inl ⟨by rfl, fun w hS => by go_simp⟩) hH ?_
        try simp only [Act.put, List.setIfInBounds_toArray, List.set_cons_zero, List.set_cons_succ]
        refine wpAnyH_take (i := 10) (oi := { dst := some 15, op := Op.move (Operand.tmp 14), type := 4, pos := "spec.go:56", after := _, guard := some (6, true) }) (v := _) rfl (by kernel_rfl) (by kernel_rfl) (by kernel_rfl) (fun _ _ _ h => h) (.inl ⟨by rfl, fun w hS => by (go_simp; try rfl)⟩) hH ?_
        try simp only [Act.put, List.setIfInBounds_toArray, List.set_cons_zero, List.set_cons_succ]
        refine wpAnyH_take (i := 11) (oi := { dst := some 16, op := Op.load 61 (Operand.tmp 3), type := 61, pos := "spec.go:56", after := _, guard := some (10, false) }) (v := .agg (entV ⟨3, sp, s⟩)) rfl (by kernel_rfl) (by kernel_rfl) (by kernel_rfl) (fun _ _ _ h => h) (yieldsIf_ld (by rfl) 61 rfl w_Entry rfl (fun _ hS => hS.2.1) zz_) hH ?_
        try simp only [Act.put, List.setIfInBounds_toArray, List.set_cons_zero, List.set_cons_succ]
        refine wpAnyH_take (i := 13) (oi := { dst := some 18, op := Op.load 35 (Operand.tmp 2), type := 35, pos := "spec.go:56", after := _, guard := some (10, false) }) (v := .agg (arrV L)) rfl (by kernel_rfl) (by kernel_rfl) (by kernel_rfl) (fun _ _ _ h => h) (yieldsIf_ld (by rfl) 35 rfl w_State rfl (fun _ hS => hS.1) zz_) hH ?_
        try simp only [Act.put, List.setIfInBounds_toArray, List.set_cons_zero, List.set_cons_succ]
        refine wpAnyH_ready (rs := [12]) (by kernel_rfl) (by simp) ?_
        refine AllReadyH.cons (o := { dst := some 17, op := Op.call { callee := Callee.value (Operand.func 100), args := #[Operand.tmp 16], argTypes := #[61] }, type := 35, pos := "spec.go:56", after := _, guard := some (10, false) }) rfl (fun K hK => ?_) AllReadyH.nil
        rw [if_pos (by rfl)]
        go_simp
        refine (HTO.out _).mono ?_
        rintro r wq ⟨rfl, hb⟩
        have hbs := hb.size
        try simp only [World.size_alloc, World.size_setCell, World.size_drew, size_setRow] at hbs
        go_wp2_with fail
        refine hK.out _ _ ⟨bk_, bk_, bl_, Nat.le_trans (sz_) hb.size⟩ (fun hH2 => ?_)
        clear hH
        have hH := hH2
        obtain ⟨hS, hE, hfar, hsz⟩ := hH2
        clear hK K
        try simp only [Act.put, List.setIfInBounds_toArray, List.set_cons_zero, List.set_cons_succ]
        refine wpAnyH_take (i := 14) (oi := { dst := some 19, op := Op.binOp BinOp.eql 35 (Operand.tmp 17) (Operand.tmp 18) 35, type := 4, pos := "spec.go:56", after := _, guard := some (10, false) }) (v := .bool (O == L)) rfl (by kernel_rfl) (by kernel_rfl) (by kernel_rfl) (fun _ _ _ h => h) (yieldsIf_eql (by rfl) 35 rfl rfl rfl eg_State (eq_states LO LL)) hH ?_
        try simp only [Act.put, List.setIfInBounds_toArray, List.set_cons_zero, List.set_cons_succ]
        refine wpAnyH_take (i := 15) (oi := { dst := some 20, op := Op.pick (Operand.tmp 15) (Operand.const (Value.bool true)) (Operand.tmp 19), type := 4, pos := "spec.go:56", after := _, guard := some (6, true) }) (v := _) rfl (by kernel_rfl) (by kernel_rfl) (by kernel_rfl) (fun _ _ _ h => h) (.inl ⟨by rfl, fun w hS => by (go_simp; try rfl)⟩) hH ?_
        try simp only [Act.put, List.setIfInBounds_toArray, List.set_cons_zero, List.set_cons_succ]
        refine wpAnyH_take (i := 16) (oi := { dst := some 21, op := Op.pick (Operand.tmp 11) (Operand.tmp 20) (Operand.const (Value.bool false)), type := 4, pos := "spec.go:56", after := _, guard := none }) (v := _) rfl (by kernel_rfl) (by kernel_rfl) (by kernel_rfl) (fun _ _ _ h => h) (.inl ⟨by rfl, fun w hS => by (go_simp; try rfl)⟩) hH ?_
        try simp only [Act.put, List.setIfInBounds_toArray, List.set_cons_zero, List.set_cons_succ]
        refine wpAnyH_take (i := 17) (oi := { dst := some 4, op := Op.assign (Operand.tmp 21), type := 4, pos := "spec.go:56", after := _, guard := none }) (v := _) rfl (by kernel_rfl) (by kernel_rfl) (by kernel_rfl) (fun _ _ _ h => h) (.inl ⟨by rfl, fun w hS => by (go_simp; try rfl)⟩) hH ?_
        try simp only [Act.put, List.setIfInBounds_toArray, List.set_cons_zero, List.set_cons_succ]
        refine wpAnyH_done (by kernel_rfl) ?_ _
        go_wp2_with fail
        go_ret
        exact ⟨by rw [h1]; rfl, (by (try rw [hB]); exact bl_)⟩
      · have h1 : R = true := by rw [← HR.out]; unfold trueE; rw [hrs, hre]; simp [h3]
        subst h1
        have q3 : (k != 3) = true := by simpa using h3
        clear hrs hre
        refine wp_region_held_drew (S := fun W => Blk W (B) (arrV L) 35 ∧ Blk W (B + 1) (entV ⟨k, sp, s⟩) 61 ∧ Below (B) w W ∧ B + 2 ≤ W.heap.size) (by kernel_rfl) (⟨hS.drew, hE.drew, hfar.drew, hsz⟩) (fun hH => ?_)
        have hH2 := hH
        obtain ⟨hS, hE, hfar, hsz⟩ := hH2
        refine wpAnyH_take (i := 0) (oi := { dst := some 5, op := Op.load 35 (Operand.tmp 2), type := 35, pos := "spec.go:56", after := _, guard := none }) (v := .agg (arrV L)) rfl (by kernel_rfl) (by kernel_rfl) (by kernel_rfl) (fun _ _ _ h => h) (yieldsIf_ld (by rfl) 35 rfl w_State rfl (fun _ hS => hS.1) zz_) hH ?_
        try simp only [Act.put, List.setIfInBounds_toArray, List.set_cons_zero, List.set_cons_succ]
        refine wpAnyH_ready (rs := [1]) (by kernel_rfl) (by simp) ?_
        refine AllReadyH.cons (o := { dst := some 6, op := Op.call { callee := Callee.value (Operand.func 33), args := #[Operand.tmp 5], argTypes := #[35] }, type := 4, pos := "spec.go:56", after := _, guard := none }) rfl (fun K hK => ?_) AllReadyH.nil
        rw [if_pos (by rfl)]
        go_simp
        refine (HRT.out _).mono ?_
        rintro r wq ⟨rfl, hb⟩
        have hbs := hb.size
        try simp only [World.size_alloc, World.size_setCell, World.size_drew, size_setRow] at hbs
        go_wp2_with fail
        refine hK.out _ _ ⟨bk_, bk_, bl_, Nat.le_trans (sz_) hb.size⟩ (fun hH2 => ?_)
        clear hH
        have hH := hH2
        obtain ⟨hS, hE, hfar, hsz⟩ := hH2
        clear hK K
        try simp only [Act.put, List.setIfInBounds_toArray, List.set_cons_zero, List.set_cons_succ]
        refine wpAnyH_take (i := 2) (oi := { dst := some 7, op := Op.move (Operand.tmp 6), type := 4, pos := "spec.go:56", after := _, guard := none }) (v := _) rfl (by kernel_rfl) (by kernel_rfl) (by kernel_rfl) (fun _ _ _ h => h) (.inl ⟨by rfl, fun w hS => by (go_simp; try rfl)⟩) hH ?_
        try simp only [Act.put, List.setIfInBounds_toArray, List.set_cons_zero, List.set_cons_succ]
        refine wpAnyH_take (i := 3) (oi := { dst := some 8, op := Op.load 61 (Operand.tmp 3), type := 61, pos := "spec.go:56", after := _, guard := some (2, true) }) (v := .agg (entV ⟨k, sp, s⟩)) rfl (by kernel_rfl) (by kernel_rfl) (by kernel_rfl) (fun _ _ _ h => h) (yieldsIf_ld (by rfl) 61 rfl w_Entry rfl (fun _ hS => hS.2.1) zz_) hH ?_
        try simp only [Act.put, List.setIfInBounds_toArray, List.set_cons_zero, List.set_cons_succ]
        refine wpAnyH_ready (rs := [4]) (by kernel_rfl) (by simp) ?_
        refine AllReadyH.cons (o := { dst := some 9, op := Op.call { callee := Callee.value (Operand.func 65), args := #[Operand.tmp 8], argTypes := #[61] }, type := 4, pos := "spec.go:56", after := _, guard := some (2, true) }) rfl (fun K hK => ?_) AllReadyH.nil
        rw [if_pos (by rfl)]
        go_simp
        refine (HER.out _).mono ?_
        rintro r wq ⟨rfl, hb⟩
        have hbs := hb.size
        try simp only [World.size_alloc, World.size_setCell, World.size_drew, size_setRow] at hbs
        go_wp2_with fail
        refine hK.out _ _ ⟨bk_, bk_, bl_, Nat.le_trans (sz_) hb.size⟩ (fun hH2 => ?_)
        clear hH
        have hH := hH2
        obtain ⟨hS, hE, hfar, hsz⟩ := hH2
        clear hK K
        try simp only [Act.put, List.setIfInBounds_toArray, List.set_cons_zero, List.set_cons_succ]
        refine wpAnyH_take (i := 5) (oi := { dst := some 10, op := Op.pick (Operand.tmp 7) (Operand.tmp 9) (Operand.const (Value.bool false)), type := 4, pos := "spec.go:56", after := _, guard := none }) (v := _) rfl (by kernel_rfl) (by kernel_rfl) (by kernel_rfl) (fun _ _ _ h => h) (.inl ⟨by rfl, fun w hS => by (go_simp; try rfl)⟩) hH ?_
        try simp only [Act.put, List.setIfInBounds_toArray, List.set_cons_zero, List.set_cons_succ]
        refine wpAnyH_take (i := 6) (oi := { dst := some 11, op := Op.move (Operand.tmp 10), type := 4, pos := "spec.go:56", after := _, guard := none }) (v := _) rfl (by kernel_rfl) (by kernel_rfl) (by kernel_rfl) (fun _ _ _ h => h) (.inl ⟨by rfl, fun w hS => by (go_simp; try rfl)⟩) hH ?_
        try simp only [Act.put, List.setIfInBounds_toArray, List.set_cons_zero, List.set_cons_succ]
        refine wpAnyH_take (i := 7) (oi := { dst := some 12, op := Op.fieldAddr 61 (Operand.tmp 3) 0, type := 0, pos := "spec.go:56", after := _, guard := some (6, true) }) (v := _) rfl (by kernel_rfl) (by kernel_rfl) (by kernel_rfl) (fun _ _ _ h => h) (.inl ⟨by rfl, fun w hS => by (go_simp; try rfl)⟩) hH ?_
        try simp only [Act.put, List.setIfInBounds_toArray, List.set_cons_zero, List.set_cons_succ]
        refine wpAnyH_take (i := 8) (oi := { dst := some 13, op := Op.load 3 (Operand.tmp 12), type := 3, pos := "spec.go:56", after := _, guard := some (6, true) }) (v := _) rfl (by kernel_rfl) (by kernel_rfl) (by kernel_rfl) (fun _ _ _ h => h) (.inl ⟨by rfl, fun w hS => by (have c := (show w.cell? ⟨B + 1, 0, none⟩ = some (.int .i64 k) from by simpa using hS.2.1.cell 0); go_simp; try rfl)⟩) hH ?_
        try simp only [Act.put, List.setIfInBounds_toArray, List.set_cons_zero, List.set_cons_succ]
        refine wpAnyH_take (i := 9) (oi := { dst := some 14, op := Op.binOp BinOp.neq 3 (Operand.tmp 13) (Operand.const (Value.int IntKind.i64 3)) 3, type := 4, pos := "spec.go:56", after := _, guard := some (6, true) }) (v := .bool true) rfl (by kernel_rfl) (by kernel_rfl) (by kernel_rfl) (fun _ _ _ h => h) (.inl ⟨by rfl, fun w hS => by go_simp⟩) hH ?_
        try simp only [Act.put, List.setIfInBounds_toArray, List.set_cons_zero, List.set_cons_succ]
        refine wpAnyH_take (i := 10) (oi := { dst := some 15, op := Op.move (Operand.tmp 14), type := 4, pos := "spec.go:56", after := _, guard := some (6, true) }) (v := _) rfl (by kernel_rfl) (by kernel_rfl) (by kernel_rfl) (fun _ _ _ h => h) (.inl ⟨by rfl, fun w hS => by (go_simp; try rfl)⟩) hH ?_
        try simp only [Act.put, List.setIfInBounds_toArray, List.set_cons_zero, List.set_cons_succ]
        refine wpAnyH_take (i := 11) (oi := { dst := some 16, op := Op.load 61 (Operand.tmp 3), type := 61, pos := "spec.go:56", after := _, guard := some (10, false) }) (v := undef) rfl (by kernel_rfl) (by kernel_rfl) (by kernel_rfl) (fun _ _ _ h => h) (.inr ⟨by rfl, rfl⟩) hH ?_
        try simp only [Act.put, List.setIfInBounds_toArray, List.set_cons_zero, List.set_cons_succ]
        refine wpAnyH_take (i := 12) (oi := { dst := some 17, op := Op.call { callee := Callee.value (Operand.func 100), args := #[Operand.tmp 16], argTypes := #[61] }, type := 35, pos := "spec.go:56", after := _, guard := some (10, false) }) (v := undef) rfl (by kernel_rfl) (by kernel_rfl) (by kernel_rfl) (fun _ _ _ h => h) (.inr ⟨by rfl, rfl⟩) hH ?_
        try simp only [Act.put, List.setIfInBounds_toArray, List.set_cons_zero, List.set_cons_succ]
        refine wpAnyH_take (i := 13) (oi := { dst := some 18, op := Op.load 35 (Operand.tmp 2), type := 35, pos := "spec.go:56", after := _, guard := some (10, false) }) (v := undef) rfl (by kernel_rfl) (by kernel_rfl) (by kernel_rfl) (fun _ _ _ h => h) (.inr ⟨by rfl, rfl⟩) hH ?_
        try simp only [Act.put, List.setIfInBounds_toArray, List.set_cons_zero, List.set_cons_succ]
        refine wpAnyH_take (i := 14) (oi := { dst := some 19, op := Op.binOp BinOp.eql 35 (Operand.tmp 17) (Operand.tmp 18) 35, type := 4, pos := "spec.go:56", after := _, guard := some (10, false) }) (v := undef) rfl (by kernel_rfl) (by kernel_rfl) (by kernel_rfl) (fun _ _ _ h => h) (.inr ⟨by rfl, rfl⟩) hH ?_
        try simp only [Act.put, List.setIfInBounds_toArray, List.set_cons_zero, List.set_cons_succ]
        refine wpAnyH_take (i := 15) (oi := { dst := some 20, op := Op.pick (Operand.tmp 15) (Operand.const (Value.bool true)) (Operand.tmp 19), type := 4, pos := "spec.go:56", after := _, guard := some (6, true) }) (v := _) rfl (by kernel_rfl) (by kernel_rfl) (by kernel_rfl) (fun _ _ _ h => h) (.inl ⟨by rfl, fun w hS => by (go_simp; try rfl)⟩) hH ?_
        try simp only [Act.put, List.setIfInBounds_toArray, List.set_cons_zero, List.set_cons_succ]
        refine wpAnyH_take (i := 16) (oi := { dst := some 21, op := Op.pick (Operand.tmp 11) (Operand.tmp 20) (Operand.const (Value.bool false)), type := 4, pos := "spec.go:56", after := _, guard := none }) (v := _) rfl (by kernel_rfl) (by kernel_rfl) (by kernel_rfl) (fun _ _ _ h => h) (.inl ⟨by rfl, fun w hS => by (go_simp; try rfl)⟩) hH ?_
        try simp only [Act.put, List.setIfInBounds_toArray, List.set_cons_zero, List.set_cons_succ]
        refine wpAnyH_take (i := 17) (oi := { dst := some 4, op := Op.assign (Operand.tmp 21), type := 4, pos := "spec.go:56", after := _, guard := none }) (v := _) rfl (by kernel_rfl) (by kernel_rfl) (by kernel_rfl) (fun _ _ _ h => h) (.inl ⟨by rfl, fun w hS => by (go_simp; try rfl)⟩) hH ?_
        try simp only [Act.put, List.setIfInBounds_toArray, List.set_cons_zero, List.set_cons_succ]
        refine wpAnyH_done (by kernel_rfl) ?_ _
        go_wp2_with fail
        go_ret
        exact ⟨rfl, (by (try rw [hB]); exact bl_)⟩
set_option maxRecDepth 100000 in
set_option maxHeartbeats 4000000 in
theorem Truths_any {l : List Ent} {n : Nat} (hn : l.length = n) (hl : n ≤ 1000) {p : Option Addr} {lo hi cap : Nat} {w : World} (hW : BandsW w) (hE : SL w lo hi 3 p n cap (flE l)) :
    Calls Tryz.prog 18 #[.slice p n cap] w fun r w' => r = .returned (.int .i64 (truthsE (zs 38) l : Nat)) ∧ Below w.heap.size w w' := by
  have hBW : Blk w 0 bandC 132 := hW
  have hB0 := hW.lt
  have hhi := hE.2.2.2.1
  have hcap := hE.2.1
  have hcm := hE.2.2.1
  unfold maxLen at hcm
  have hQ := hE
  have HN := Lib.hid hn
  obtain ⟨R, hR⟩ : ∃ R, truthsE (zs 38) l = R := ⟨_, rfl⟩
  rw [hR]
  have HR := Lib.hid hR
  clear hn hE hW hR
  obtain ⟨B, hB⟩ : ∃ B, w.heap.size = B := ⟨_, rfl⟩
  rw [hB] at hhi hB0
  have hfar := Below.refl B w
  have hsz : B ≤ w.heap.size := by omega
  go_enter Tryz.func18, Tryz.ntmps18
  go_upto_region 2 with (fail)
  refine wp_gen (fun W => Blk W (0) (bandC) 132 ∧ SL W (lo) (hi) (3) (p) (n) (cap) (flE l) ∧ Blk W (B) (arrV (zs 38)) 35 ∧ Below (B) w W ∧ B + 1 ≤ W.heap.size) ⟨bk_, sl_, bk_, bl_, sz_⟩ ?_
  clear hBW hQ hfar hsz
  rintro w1 ⟨hBW, hQ, hS, hfar, hsz⟩
  go_wp2_with fail
  go_loopw [8] (fun i wr => ∃ (k : Nat), k ≤ n ∧ i = .int .i64 k ∧ Hid (R = k + truthsE (foldS (zs 38) (l.take k)) (l.drop k)) ∧ Blk wr 0 bandC 132 ∧ SL wr lo hi 3 p n cap (flE l) ∧ Blk wr B (arrV (foldS (zs 38) (l.take k))) 35 ∧ Below B w wr ∧ B + 1 ≤ wr.heap.size) (fun i _ => n - (intOf i).toNat)
  case atStart => exact ⟨0, by omega, rfl, Lib.hid (by rw [← HR.out]; simp [foldS]), hBW, hQ, hS, hfar, hsz⟩
  case round =>
    clear hBW hQ hS hfar hsz
    obtain ⟨k, hk, rfl, HT, hBW, hQ, hS, hfar, hsz⟩ := hrel
    by_cases hlt : k < n
    · have hkl : k < l.length := by rw [HN.out]; exact hlt
      obtain ⟨e, he⟩ : ∃ e, l[k] = e := ⟨_, rfl⟩
      have hget : l[k]? = some e := by rw [List.getElem?_eq_getElem hkl, he]
      have hES : ES wr lo hi p cap l := by unfold ES; rw [HN.out]; exact hQ
      obtain ⟨b, o, rfl, hb1, hb2, hr⟩ := hES.get hget
      have hd : l.drop k = e :: l.drop (k + 1) := by rw [← he]; exact List.drop_eq_getElem_cons hkl
      have ht := HT.out
      rw [hd, truthsE] at ht
      have hS1 : foldS (zs 38) (l.take (k + 1)) = stepS (foldS (zs 38) (l.take k)) e := by rw [List.take_add_one, hget, Option.toList_some, foldS_app]; rfl
      have LF := Len.mk (foldS_len (L := zs 38) (by simp [zs]) (l.take k))
      obtain ⟨M, hM⟩ : ∃ M, foldS (zs 38) (l.take k) = M := ⟨_, rfl⟩
      rw [hM] at ht hS1 hS LF
      have hTr := fun w => True_any M LF.out e w
      have hSt := fun w hW => Step_any M LF.out e w hW
      obtain ⟨T, hT⟩ : ∃ T, trueE M e = T := ⟨_, rfl⟩
      rw [hT] at ht
      simp only [hT] at hTr
      have HTR := Lib.hid hTr
      have HST := Lib.hid hSt
      have HT1 := Lib.hid ht
      have HS1 := Lib.hid hS1
      clear HT hM hd ht hS1 hTr hSt hkl he hget hES hT
      obtain ⟨g, hg⟩ : ∃ g, wr.heap.size = g := ⟨_, rfl⟩
      have hBg : B + 1 ≤ g := by omega
      go_upto_region 5 with (first | (refine ldr 61 rfl (by rfl) w_Entry rfl (by assumption) (by rfl) ?_) | (first | (refine st 61 rfl (by rfl) w_Entry rfl rfl bk_ zz_ zz_ one_ ?_) | (refine ld 61 rfl (by rfl) w_Entry rfl bk_ zz_ ?_) | (refine bd 35 rfl (by rfl) rfl state_zs ?_) | (refine bd 27 rfl (by rfl) rfl block_zs ?_) | (refine ld 35 rfl (by rfl) w_State rfl bk_ lz_ ?_) | (refine ld 27 rfl (by rfl) w_Block rfl bk_ lz_ ?_) | (refine ldp 27 rfl (by rfl) w_Block rfl bk_ ln_ (by omega) ?_) | (refine ld 23 rfl (by rfl) w_Four rfl bk_ lz_ ?_) | (refine ldp 23 rfl (by rfl) w_Four rfl bk_ ln_ (by omega) ?_) | (refine st 35 rfl (by rfl) w_State rfl rfl bk_ lz_ lz_ one_ ?_) | (refine st 27 rfl (by rfl) w_Block rfl rfl bk_ lz_ lz_ one_ ?_) | (refine st 23 rfl (by rfl) w_Four rfl rfl bk_ lz_ lz_ one_ ?_)))
      refine wp_gen (fun W => Blk W (0) (bandC) 132 ∧ SL W (lo) (hi) (3) (some ⟨b, o, none⟩) (n) (cap) (flE l) ∧ Blk W (B) (arrV M) 35 ∧ Blk W (g) (entV e) 61 ∧ Below (B) w W ∧ g + 1 ≤ W.heap.size) ⟨bk_, sl_, bk_, bk_, bl_, sz_⟩ ?_
      clear hBW hQ hS hfar hsz
      rintro w2 ⟨hBW, hQ, hS, hE, hfar, hsz⟩
      go_wp2_with (first | (refine st 61 rfl (by rfl) w_Entry rfl rfl bk_ zz_ zz_ one_ ?_) | (refine ld 61 rfl (by rfl) w_Entry rfl bk_ zz_ ?_) | (refine bd 35 rfl (by rfl) rfl state_zs ?_) | (refine bd 27 rfl (by rfl) rfl block_zs ?_) | (refine ld 35 rfl (by rfl) w_State rfl bk_ lz_ ?_) | (refine ld 27 rfl (by rfl) w_Block rfl bk_ lz_ ?_) | (refine ldp 27 rfl (by rfl) w_Block rfl bk_ ln_ (by omega) ?_) | (refine ld 23 rfl (by rfl) w_Four rfl bk_ lz_ ?_) | (refine ldp 23 rfl (by rfl) w_Four rfl bk_ ln_ (by omega) ?_) | (refine st 35 rfl (by rfl) w_State rfl rfl bk_ lz_ lz_ one_ ?_) | (refine st 27 rfl (by rfl) w_Block rfl rfl bk_ lz_ lz_ one_ ?_) | (refine st 23 rfl (by rfl) w_Four rfl rfl bk_ lz_ lz_ one_ ?_))
      refine (HTR.out _).mono ?_
      rintro e w3 ⟨rfl, hb3⟩
      replace hBW := hBW.newB hb3
      replace hQ := hQ.newB hb3
      replace hS := hS.newB hb3
      replace hE := hE.newB hb3
      replace hfar := hfar.trans (hb3.mono (by omega))
      replace hsz := Nat.le_trans hsz hb3.size
      cases T with
      | false =>
        have h1 : R = k := by rw [HT1.out]; simp
        subst h1
        go_wp2_with fail
        go_ret
        exact ⟨rfl, (by (try rw [hB]); exact bl_)⟩
      | true =>
        have h1 : R = k + 1 + truthsE (stepS M e) (l.drop (k + 1)) := by rw [HT1.out]; simp; omega
        have H1 := Lib.hid h1
        have LS := Len.mk (stepS_len LF.out e)
        obtain ⟨M2, hM2⟩ : ∃ M2, stepS M e = M2 := ⟨_, rfl⟩
        rw [hM2] at H1 HS1 HST LS
        clear h1 hM2
        go_wp2_with (first | (refine st 61 rfl (by rfl) w_Entry rfl rfl bk_ zz_ zz_ one_ ?_) | (refine ld 61 rfl (by rfl) w_Entry rfl bk_ zz_ ?_) | (refine bd 35 rfl (by rfl) rfl state_zs ?_) | (refine bd 27 rfl (by rfl) rfl block_zs ?_) | (refine ld 35 rfl (by rfl) w_State rfl bk_ lz_ ?_) | (refine ld 27 rfl (by rfl) w_Block rfl bk_ lz_ ?_) | (refine ldp 27 rfl (by rfl) w_Block rfl bk_ ln_ (by omega) ?_) | (refine ld 23 rfl (by rfl) w_Four rfl bk_ lz_ ?_) | (refine ldp 23 rfl (by rfl) w_Four rfl bk_ ln_ (by omega) ?_) | (refine st 35 rfl (by rfl) w_State rfl rfl bk_ lz_ lz_ one_ ?_) | (refine st 27 rfl (by rfl) w_Block rfl rfl bk_ lz_ lz_ one_ ?_) | (refine st 23 rfl (by rfl) w_Four rfl rfl bk_ lz_ lz_ one_ ?_))
        refine (HST.out _ hBW).mono ?_
        rintro r w4 ⟨v4, rfl, hv4, hb4⟩
        replace hBW := hBW.newB hb4
        replace hQ := hQ.newB hb4
        replace hS := hS.newB hb4
        replace hE := hE.newB hb4
        replace hfar := hfar.trans (hb4.mono (by omega))
        replace hsz := Nat.le_trans hsz hb4.size
        clear hv4
        go_upto_region 8 with (first | (refine st 61 rfl (by rfl) w_Entry rfl rfl bk_ zz_ zz_ one_ ?_) | (refine ld 61 rfl (by rfl) w_Entry rfl bk_ zz_ ?_) | (refine bd 35 rfl (by rfl) rfl state_zs ?_) | (refine bd 27 rfl (by rfl) rfl block_zs ?_) | (refine ld 35 rfl (by rfl) w_State rfl bk_ lz_ ?_) | (refine ld 27 rfl (by rfl) w_Block rfl bk_ lz_ ?_) | (refine ldp 27 rfl (by rfl) w_Block rfl bk_ ln_ (by omega) ?_) | (refine ld 23 rfl (by rfl) w_Four rfl bk_ lz_ ?_) | (refine ldp 23 rfl (by rfl) w_Four rfl bk_ ln_ (by omega) ?_) | (refine st 35 rfl (by rfl) w_State rfl rfl bk_ lz_ lz_ one_ ?_) | (refine st 27 rfl (by rfl) w_Block rfl rfl bk_ lz_ lz_ one_ ?_) | (refine st 23 rfl (by rfl) w_Four rfl rfl bk_ lz_ lz_ one_ ?_))
        refine wp_gen (fun W => Blk W (0) (bandC) 132 ∧ SL W (lo) (hi) (3) (some ⟨b, o, none⟩) (n) (cap) (flE l) ∧ Blk W (B) (arrV M2) 35 ∧ Blk W (g) (entV e) 61 ∧ Below (B) w W ∧ g + 1 ≤ W.heap.size) ⟨bk_, sl_, bk_, bk_, bl_, sz_⟩ ?_
        clear hBW hQ hS hE hfar hsz
        rintro w5 ⟨hBW, hQ, hS, hE, hfar, hsz⟩
        go_wp2_with fail
        go_roundw
        case rel => exact ⟨k + 1, hlt, by go_num, Lib.hid (by rw [HS1.out]; exact H1.out), hBW, hQ, by rw [HS1.out]; exact hS, hfar, by omega⟩
        case measure => simp [intOf]; omega
    · obtain rfl : k = n := by omega
      have h1 : R = k := by rw [HT.out, ← HN.out, List.drop_length]; simp [truthsE]
      subst h1
      go_wp2_with fail
      go_ret
      exact ⟨rfl, by rw [hB]; exact hfar⟩
end Go.Proofs.YtmfihaaiddolmaaGreatDoor
