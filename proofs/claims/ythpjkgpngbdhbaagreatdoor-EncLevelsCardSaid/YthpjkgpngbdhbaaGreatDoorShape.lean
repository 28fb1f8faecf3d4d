/- The walks of package shape: pulses given to waves. -/
import Derived.Test.YthpjkgpngbdhbaaGreatDoorLevel
set_option linter.unusedSimpArgs false
set_option linter.unusedVariables false
namespace Go.Proofs.YthpjkgpngbdhbaaGreatDoor
open Go.RowKit

set_option maxHeartbeats 400000 in
theorem ssize_any (x : Int) (h0 : -1048576 ≤ x) (h1 : x ≤ 1048576) (w : World) : Calls Tryz.prog 114 #[.int .i64 x] w fun e w' => e = .returned (.int .i64 (max x (-x))) ∧ w = w' := by
  obtain ⟨y, hy⟩ : ∃ y, max x (-x) = y := ⟨_, rfl⟩
  rw [hy]
  go_enter Tryz.func114, Tryz.ntmps114
  go_wp2
  go_ret
  exact ⟨rfl, rfl⟩
set_option maxHeartbeats 400000 in
theorem shright1_any (x : Int) (w : World) : Calls Tryz.prog 148 #[.int .i64 x] w fun e w' => e = .returned (.bool (wideP x)) ∧ w = w' := by
  unfold wideP
  by_cases h1 : x < -1048576
  · go_enter Tryz.func148, Tryz.ntmps148
    go_wp2
    go_ret
    exact ⟨by simp [h1], rfl⟩
  · go_enter Tryz.func148, Tryz.ntmps148
    go_wp2
    go_ret
    exact ⟨by simp [h1]; try omega, rfl⟩
theorem wide_none {c : List Int} (hc : ∀ x ∈ c, -1048576 ≤ x ∧ x ≤ 1048576) : c.any wideP = false := by
  rw [List.any_eq_false]
  intro x hx
  have := hc x hx
  unfold wideP
  simp; omega
set_option maxHeartbeats 800000 in
theorem shright_yes (c : List Int) (hc : ∀ x ∈ c, -1048576 ≤ x ∧ x ≤ 1048576) (h1 : 1 ≤ c.length) (h8 : c.length ≤ 8) (k : Nat) (hk : k ≤ 8) (v : Value) (w : World) (hS : SliceI w v c) :
    Calls Tryz.prog 112 #[v, .int .i64 k] w fun e w' => e = .returned (.bool true) ∧ w = w' := by
  have hC := Contains_any 148 wideP c v w hS (by omega) (fun _ _ => by kernel_rfl) (fun x _ w => shright1_any x w)
  rw [wide_none hc] at hC
  obtain ⟨o, cap, rfl, hc1, hc2, _⟩ := hS
  have hl1 : (1 : Int) ≤ (c.length : Int) := by omega
  have hl2 : (c.length : Int) ≤ 8 := by omega
  have hk2 : (k : Int) ≤ 8 := by omega
  go_enter Tryz.func112, Tryz.ntmps112
  go_wp2_with fail
  refine hC.mono ?_
  rintro e w1 ⟨rfl, rfl⟩
  go_wp2_with fail
  go_ret
  exact ⟨rfl, rfl⟩
set_option maxRecDepth 100000 in
set_option maxHeartbeats 1600000 in
theorem Find1_any (c : List Int) (hc : ∀ x ∈ c, -1048576 ≤ x ∧ x ≤ 1048576) (g o cap lo hi : Nat) (ga gc : Nat) (a : Int) (ha0 : 0 ≤ a) (ha1 : a ≤ 8388608) (i : Nat) (hi2 : i < c.length) (w : World)
    (hS : SL w lo hi 1 (some ⟨g, o, none⟩) c.length cap (intsV c)) (hA : Blk w ga #[.int .i64 a] 3) (hC : Blk w gc #[.slice (some ⟨g, o, none⟩) c.length cap] 62) :
    Calls Tryz.prog 113 #[.int .i64 i, .pointer (some ⟨ga, 0, none⟩), .pointer (some ⟨gc, 0, none⟩)] w fun e w' => e = .returned (.int .i64 (topV c a i)) ∧ Below w.heap.size w w' := by
  have hx := absAt_bd hc i
  have hmem : c.getD i 0 ∈ c := by rw [List.getD_eq_getElem?_getD, List.getElem?_eq_getElem hi2]; exact List.getElem_mem _
  have hxb := hc _ hmem
  have hsz := fun w => ssize_any (c.getD i 0) hxb.1 hxb.2 w
  have ht : topV c a i = (a + absAt c i) * (a + absAt c i) := rfl
  have hab : max (c.getD i 0) (-(c.getD i 0)) = absAt c i := rfl
  simp only [hab] at hsz
  have hcell := fun W (h : SL W lo hi 1 (some ⟨g, o, none⟩) c.length cap (intsV c)) => sl_get h i hi2
  obtain ⟨x, hxe⟩ : ∃ x, c.getD i 0 = x := ⟨_, rfl⟩
  obtain ⟨y, hye⟩ : ∃ y, absAt c i = y := ⟨_, rfl⟩
  simp only [hxe] at hcell hsz hxb
  rw [hye] at hx ht
  simp only [hye] at hsz
  have hm := abs_mul_bd (x := a + y) (y := a + y) (A := 9437184) (B := 9437184) (by decide) (by decide) (by omega) (by omega)
  obtain ⟨z, hz⟩ : ∃ z, (a + y) * (a + y) = z := ⟨_, rfl⟩
  rw [hz] at hm ht
  rw [ht]
  have w1 : IntKind.i64.wrap (a + y) = a + y := IntWalk.i64_in _ (by omega)
  have w2 : IntKind.i64.wrap z = z := IntWalk.i64_in _ (by omega)
  have HSZ := Lib.hid hsz
  have HC := Lib.hid hcell
  obtain ⟨n, hn⟩ : ∃ n, c.length = n := ⟨_, rfl⟩
  rw [hn] at hS hC hi2 HC
  have hii : (i : Int) < (n : Int) := by omega
  have hcap : n ≤ cap := hS.2.1
  have hcm := hS.2.2.1
  unfold maxLen at hcm
  clear hsz hcell ht hxe hye hmem hab hm hn
  obtain ⟨B, hB⟩ : ∃ B, w.heap.size = B := ⟨_, rfl⟩
  have hfar := Below.refl B w
  have hszw : B ≤ w.heap.size := by omega
  go_enter Tryz.func113, Tryz.ntmps113
  go_upto_region 1 with (fail)
  refine wp_region_held_drew (S := fun W => Blk W ga #[.int .i64 a] 3 ∧ Blk W gc #[.slice (some ⟨g, o, none⟩) n cap] 62 ∧ SL W lo hi 1 (some ⟨g, o, none⟩) n cap (intsV c)) (by kernel_rfl) (⟨hA.drew, hC.drew, hS.drew⟩) (fun hH => ?_)
  refine wpAnyH_take (i := 0) (oi := { dst := some 5, op := Op.load 3 (Operand.tmp 1), type := 3, pos := "shape.go:32", after := _, guard := none }) (v := _) rfl (by kernel_rfl) (by kernel_rfl) (by kernel_rfl) (fun _ _ _ h => h) (.inl ⟨by rfl, fun w hS => by (have c := (show w.cell? ⟨ga, 0, none⟩ = some (.int .i64 a) from by simpa using hS.1.cell 0); go_simp; try rfl)⟩) hH ?_
  try simp only [Act.put, List.setIfInBounds_toArray, List.set_cons_zero, List.set_cons_succ]
  refine wpAnyH_take (i := 1) (oi := { dst := some 6, op := Op.load 62 (Operand.tmp 2), type := 62, pos := "shape.go:32", after := _, guard := none }) (v := _) rfl (by kernel_rfl) (by kernel_rfl) (by kernel_rfl) (fun _ _ _ h => h) (.inl ⟨by rfl, fun w hS => by (have c := (show w.cell? ⟨gc, 0, none⟩ = some (.slice (some ⟨g, o, none⟩) n cap) from by simpa using hS.2.1.cell 0); go_simp; try rfl)⟩) hH ?_
  try simp only [Act.put, List.setIfInBounds_toArray, List.set_cons_zero, List.set_cons_succ]
  refine wpAnyH_take (i := 2) (oi := { dst := some 7, op := Op.move (Operand.tmp 0), type := 3, pos := "shape.go:32", after := _, guard := none }) (v := _) rfl (by kernel_rfl) (by kernel_rfl) (by kernel_rfl) (fun _ _ _ h => h) (.inl ⟨by rfl, fun w hS => by (go_simp; try rfl)⟩) hH ?_
  try simp only [Act.put, List.setIfInBounds_toArray, List.set_cons_zero, List.set_cons_succ]
  refine wpAnyH_take (i := 3) (oi := { dst := some 8, op := Op.indexAddr 62 (Operand.tmp 6) (Operand.tmp 7), type := 0, pos := "shape.go:32", after := _, guard := none }) (v := _) rfl (by kernel_rfl) (by kernel_rfl) (by kernel_rfl) (fun _ _ _ h => h) (.inl ⟨by rfl, fun w hS => by (go_simp; try rfl)⟩) hH ?_
  try simp only [Act.put, List.setIfInBounds_toArray, List.set_cons_zero, List.set_cons_succ]
  refine wpAnyH_take (i := 4) (oi := { dst := some 9, op := Op.load 3 (Operand.tmp 8), type := 3, pos := "shape.go:32", after := _, guard := none }) (v := _) rfl (by kernel_rfl) (by kernel_rfl) (by kernel_rfl) (fun _ _ _ h => h) (.inl ⟨by rfl, fun w hS => by (have c := (HC.out _ hS.2.2); go_simp; try rfl)⟩) hH ?_
  try simp only [Act.put, List.setIfInBounds_toArray, List.set_cons_zero, List.set_cons_succ]
  refine wpAnyH_take (i := 7) (oi := { dst := some 12, op := Op.load 3 (Operand.tmp 1), type := 3, pos := "shape.go:32", after := _, guard := none }) (v := _) rfl (by kernel_rfl) (by kernel_rfl) (by kernel_rfl) (fun _ _ _ h => h) (.inl ⟨by rfl, fun w hS => by (have c := (show w.cell? ⟨ga, 0, none⟩ = some (.int .i64 a) from by simpa using hS.1.cell 0); go_simp; try rfl)⟩) hH ?_
  try simp only [Act.put, List.setIfInBounds_toArray, List.set_cons_zero, List.set_cons_succ]
  refine wpAnyH_take (i := 8) (oi := { dst := some 13, op := Op.load 62 (Operand.tmp 2), type := 62, pos := "shape.go:32", after := _, guard := none }) (v := _) rfl (by kernel_rfl) (by kernel_rfl) (by kernel_rfl) (fun _ _ _ h => h) (.inl ⟨by rfl, fun w hS => by (have c := (show w.cell? ⟨gc, 0, none⟩ = some (.slice (some ⟨g, o, none⟩) n cap) from by simpa using hS.2.1.cell 0); go_simp; try rfl)⟩) hH ?_
  try simp only [Act.put, List.setIfInBounds_toArray, List.set_cons_zero, List.set_cons_succ]
  refine wpAnyH_take (i := 9) (oi := { dst := some 14, op := Op.move (Operand.tmp 0), type := 3, pos := "shape.go:32", after := _, guard := none }) (v := _) rfl (by kernel_rfl) (by kernel_rfl) (by kernel_rfl) (fun _ _ _ h => h) (.inl ⟨by rfl, fun w hS => by (go_simp; try rfl)⟩) hH ?_
  try simp only [Act.put, List.setIfInBounds_toArray, List.set_cons_zero, List.set_cons_succ]
  refine wpAnyH_take (i := 10) (oi := { dst := some 15, op := Op.indexAddr 62 (Operand.tmp 13) (Operand.tmp 14), type := 0, pos := "shape.go:32", after := _, guard := none }) (v := _) rfl (by kernel_rfl) (by kernel_rfl) (by kernel_rfl) (fun _ _ _ h => h) (.inl ⟨by rfl, fun w hS => by (go_simp; try rfl)⟩) hH ?_
  try simp only [Act.put, List.setIfInBounds_toArray, List.set_cons_zero, List.set_cons_succ]
  refine wpAnyH_take (i := 11) (oi := { dst := some 16, op := Op.load 3 (Operand.tmp 15), type := 3, pos := "shape.go:32", after := _, guard := none }) (v := _) rfl (by kernel_rfl) (by kernel_rfl) (by kernel_rfl) (fun _ _ _ h => h) (.inl ⟨by rfl, fun w hS => by (have c := (HC.out _ hS.2.2); go_simp; try rfl)⟩) hH ?_
  try simp only [Act.put, List.setIfInBounds_toArray, List.set_cons_zero, List.set_cons_succ]
  refine wpAnyH_ready (rs := [5]) (by kernel_rfl) (by simp) ?_
  refine AllReadyH.cons (o := { dst := some 10, op := Op.call { callee := Callee.value (Operand.func 114), args := #[Operand.tmp 9], argTypes := #[3] }, type := 3, pos := "shape.go:32", after := _, guard := none }) rfl (fun K hK => ?_) AllReadyH.nil
  rw [if_pos (by rfl)]
  go_simp
  refine (HSZ.out _).mono ?_
  rintro r wq ⟨rfl, rfl⟩
  go_wp2_with fail
  refine hK.out _ _ hH (fun hH => ?_)
  clear hK K
  try simp only [Act.put, List.setIfInBounds_toArray, List.set_cons_zero, List.set_cons_succ]
  refine wpAnyH_take (i := 6) (oi := { dst := some 11, op := Op.binOp BinOp.add 3 (Operand.tmp 5) (Operand.tmp 10) 3, type := 3, pos := "shape.go:32", after := _, guard := none }) (v := _) rfl (by kernel_rfl) (by kernel_rfl) (by kernel_rfl) (fun _ _ _ h => h) (.inl ⟨by rfl, fun w hS => by (go_simp; try rfl)⟩) hH ?_
  try simp only [Act.put, List.setIfInBounds_toArray, List.set_cons_zero, List.set_cons_succ]
  refine wpAnyH_ready (rs := [12]) (by kernel_rfl) (by simp) ?_
  refine AllReadyH.cons (o := { dst := some 17, op := Op.call { callee := Callee.value (Operand.func 114), args := #[Operand.tmp 16], argTypes := #[3] }, type := 3, pos := "shape.go:32", after := _, guard := none }) rfl (fun K hK => ?_) AllReadyH.nil
  rw [if_pos (by rfl)]
  go_simp
  refine (HSZ.out _).mono ?_
  rintro r wq ⟨rfl, rfl⟩
  go_wp2_with fail
  refine hK.out _ _ hH (fun hH => ?_)
  clear hK K
  try simp only [Act.put, List.setIfInBounds_toArray, List.set_cons_zero, List.set_cons_succ]
  refine wpAnyH_take (i := 13) (oi := { dst := some 18, op := Op.binOp BinOp.add 3 (Operand.tmp 12) (Operand.tmp 17) 3, type := 3, pos := "shape.go:32", after := _, guard := none }) (v := _) rfl (by kernel_rfl) (by kernel_rfl) (by kernel_rfl) (fun _ _ _ h => h) (.inl ⟨by rfl, fun w hS => by (go_simp; try rfl)⟩) hH ?_
  try simp only [Act.put, List.setIfInBounds_toArray, List.set_cons_zero, List.set_cons_succ]
  refine wpAnyH_take (i := 14) (oi := { dst := some 19, op := Op.binOp BinOp.mul 3 (Operand.tmp 11) (Operand.tmp 18) 3, type := 3, pos := "shape.go:32", after := _, guard := none }) (v := _) rfl (by kernel_rfl) (by kernel_rfl) (by kernel_rfl) (fun _ _ _ h => h) (.inl ⟨by rfl, fun w hS => by (go_simp; try rfl)⟩) hH ?_
  try simp only [Act.put, List.setIfInBounds_toArray, List.set_cons_zero, List.set_cons_succ]
  refine wpAnyH_take (i := 15) (oi := { dst := some 4, op := Op.assign (Operand.tmp 19), type := 3, pos := "shape.go:32", after := _, guard := none }) (v := _) rfl (by kernel_rfl) (by kernel_rfl) (by kernel_rfl) (fun _ _ _ h => h) (.inl ⟨by rfl, fun w hS => by (go_simp; try rfl)⟩) hH ?_
  try simp only [Act.put, List.setIfInBounds_toArray, List.set_cons_zero, List.set_cons_succ]
  refine wpAnyH_done (by kernel_rfl) ?_ _
  go_wp2_with fail
  go_ret
  exact ⟨rfl, (by (try rw [hB]); exact bl_)⟩
set_option maxRecDepth 100000 in
set_option maxHeartbeats 1600000 in
theorem Find2_any (y : List Int) (hy : ∀ x ∈ y, 0 ≤ x ∧ x ≤ 8) (gq gy yc n : Nat) (hn : y.length = n) (q : Int) (hq0 : 0 ≤ q) (hq1 : q ≤ 1000) (i : Nat) (hi2 : i < n) (hn8 : n ≤ 8) (w : World)
    (hQ : Blk w gq #[.int .i64 q] 3) (hC : Blk w yc #[.slice (some ⟨gy, 0, none⟩) n n] 62) (hY : Blk w gy (arrV y) 3) :
    Calls Tryz.prog 115 #[.int .i64 i, .pointer (some ⟨gq, 0, none⟩), .pointer (some ⟨yc, 0, none⟩)] w fun e w' => e = .returned (.int .i64 (botV y q i)) ∧ Below w.heap.size w w' := by
  have hmem : y.getD i 0 ∈ y := by rw [List.getD_eq_getElem?_getD, List.getElem?_eq_getElem (by omega)]; exact List.getElem_mem _
  have hxb := hy _ hmem
  have hcell := fun W (h : Blk W gy (arrV y) 3) => (h.cell i).trans (arr_get (l := y) (by omega))
  have hb : botV y q i = q + 2 * y.getD i 0 + 1 := rfl
  rw [hb]
  obtain ⟨x, hx⟩ : ∃ x, y.getD i 0 = x := ⟨_, rfl⟩
  rw [hx] at hxb ⊢
  simp only [hx] at hcell
  have HC := Lib.hid hcell
  have w1 : IntKind.i64.wrap (2 * x) = 2 * x := IntWalk.i64_in _ (by omega)
  have w2 : IntKind.i64.wrap (q + 2 * x) = q + 2 * x := IntWalk.i64_in _ (by omega)
  have w3 : IntKind.i64.wrap (q + 2 * x + 1) = q + 2 * x + 1 := IntWalk.i64_in _ (by omega)
  have hii : (i : Int) < (n : Int) := by omega
  clear hcell hmem hb hx
  obtain ⟨B, hB⟩ : ∃ B, w.heap.size = B := ⟨_, rfl⟩
  have hfar := Below.refl B w
  have hszw : B ≤ w.heap.size := by omega
  go_enter Tryz.func115, Tryz.ntmps115
  go_upto_region 1 with (fail)
  refine wp_region_held_drew (S := fun W => Blk W gq #[.int .i64 q] 3 ∧ Blk W yc #[.slice (some ⟨gy, 0, none⟩) n n] 62 ∧ Blk W gy (arrV y) 3) (by kernel_rfl) (⟨hQ.drew, hC.drew, hY.drew⟩) (fun hH => ?_)
  refine wpAnyH_take (i := 0) (oi := { dst := some 5, op := Op.load 3 (Operand.tmp 1), type := 3, pos := "shape.go:33", after := _, guard := none }) (v := _) rfl (by kernel_rfl) (by kernel_rfl) (by kernel_rfl) (fun _ _ _ h => h) (.inl ⟨by rfl, fun w hS => by (have c := (show w.cell? ⟨gq, 0, none⟩ = some (.int .i64 q) from by simpa using hS.1.cell 0); go_simp; try rfl)⟩) hH ?_
  try simp only [Act.put, List.setIfInBounds_toArray, List.set_cons_zero, List.set_cons_succ]
  refine wpAnyH_take (i := 1) (oi := { dst := some 6, op := Op.load 62 (Operand.tmp 2), type := 62, pos := "shape.go:33", after := _, guard := none }) (v := _) rfl (by kernel_rfl) (by kernel_rfl) (by kernel_rfl) (fun _ _ _ h => h) (.inl ⟨by rfl, fun w hS => by (have c := (show w.cell? ⟨yc, 0, none⟩ = some (.slice (some ⟨gy, 0, none⟩) n n) from by simpa using hS.2.1.cell 0); go_simp; try rfl)⟩) hH ?_
  try simp only [Act.put, List.setIfInBounds_toArray, List.set_cons_zero, List.set_cons_succ]
  refine wpAnyH_take (i := 2) (oi := { dst := some 7, op := Op.move (Operand.tmp 0), type := 3, pos := "shape.go:33", after := _, guard := none }) (v := _) rfl (by kernel_rfl) (by kernel_rfl) (by kernel_rfl) (fun _ _ _ h => h) (.inl ⟨by rfl, fun w hS => by (go_simp; try rfl)⟩) hH ?_
  try simp only [Act.put, List.setIfInBounds_toArray, List.set_cons_zero, List.set_cons_succ]
  refine wpAnyH_take (i := 3) (oi := { dst := some 8, op := Op.indexAddr 62 (Operand.tmp 6) (Operand.tmp 7), type := 0, pos := "shape.go:33", after := _, guard := none }) (v := _) rfl (by kernel_rfl) (by kernel_rfl) (by kernel_rfl) (fun _ _ _ h => h) (.inl ⟨by rfl, fun w hS => by (go_simp; try rfl)⟩) hH ?_
  try simp only [Act.put, List.setIfInBounds_toArray, List.set_cons_zero, List.set_cons_succ]
  refine wpAnyH_take (i := 4) (oi := { dst := some 9, op := Op.load 3 (Operand.tmp 8), type := 3, pos := "shape.go:33", after := _, guard := none }) (v := _) rfl (by kernel_rfl) (by kernel_rfl) (by kernel_rfl) (fun _ _ _ h => h) (.inl ⟨by rfl, fun w hS => by (have c := (HC.out _ hS.2.2); go_simp; try rfl)⟩) hH ?_
  try simp only [Act.put, List.setIfInBounds_toArray, List.set_cons_zero, List.set_cons_succ]
  refine wpAnyH_take (i := 5) (oi := { dst := some 10, op := Op.binOp BinOp.mul 3 (Operand.const (Value.int IntKind.i64 2)) (Operand.tmp 9) 3, type := 3, pos := "shape.go:33", after := _, guard := none }) (v := _) rfl (by kernel_rfl) (by kernel_rfl) (by kernel_rfl) (fun _ _ _ h => h) (.inl ⟨by rfl, fun w hS => by (go_simp; try rfl)⟩) hH ?_
  try simp only [Act.put, List.setIfInBounds_toArray, List.set_cons_zero, List.set_cons_succ]
  refine wpAnyH_take (i := 6) (oi := { dst := some 11, op := Op.binOp BinOp.add 3 (Operand.tmp 5) (Operand.tmp 10) 3, type := 3, pos := "shape.go:33", after := _, guard := none }) (v := _) rfl (by kernel_rfl) (by kernel_rfl) (by kernel_rfl) (fun _ _ _ h => h) (.inl ⟨by rfl, fun w hS => by (go_simp; try rfl)⟩) hH ?_
  try simp only [Act.put, List.setIfInBounds_toArray, List.set_cons_zero, List.set_cons_succ]
  refine wpAnyH_take (i := 7) (oi := { dst := some 12, op := Op.binOp BinOp.add 3 (Operand.tmp 11) (Operand.const (Value.int IntKind.i64 1)) 3, type := 3, pos := "shape.go:33", after := _, guard := none }) (v := _) rfl (by kernel_rfl) (by kernel_rfl) (by kernel_rfl) (fun _ _ _ h => h) (.inl ⟨by rfl, fun w hS => by (go_simp; try rfl)⟩) hH ?_
  try simp only [Act.put, List.setIfInBounds_toArray, List.set_cons_zero, List.set_cons_succ]
  refine wpAnyH_take (i := 8) (oi := { dst := some 4, op := Op.assign (Operand.tmp 12), type := 3, pos := "shape.go:33", after := _, guard := none }) (v := _) rfl (by kernel_rfl) (by kernel_rfl) (by kernel_rfl) (fun _ _ _ h => h) (.inl ⟨by rfl, fun w hS => by (go_simp; try rfl)⟩) hH ?_
  try simp only [Act.put, List.setIfInBounds_toArray, List.set_cons_zero, List.set_cons_succ]
  refine wpAnyH_done (by kernel_rfl) ?_ _
  go_wp2_with fail
  go_ret
  exact ⟨rfl, (by (try rw [hB]); exact bl_)⟩
end Go.Proofs.YthpjkgpngbdhbaaGreatDoor
