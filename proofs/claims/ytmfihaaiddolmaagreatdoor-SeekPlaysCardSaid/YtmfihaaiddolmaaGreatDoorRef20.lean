/- The walks of the document's entries (spoolref20): number, State, Right. -/
import Derived.Test.YtmfihaaiddolmaaGreatDoorRef13c
import Derived.Test.YtmfihaaiddolmaaGreatDoorLot7
set_option linter.unusedSimpArgs false
set_option linter.unusedVariables false
namespace Go.Proofs.YtmfihaaiddolmaaGreatDoor
open Go.RowKit

theorem number_sum (s : ByteArray) (o : Nat) (h : o + 4 ≤ s.size) : ((numP s o 4 : Nat) : Int) = (s[o].toNat : Nat) + 256 * (s[o + 1].toNat : Nat) + 65536 * (s[o + 2].toNat : Nat) + 16777216 * (s[o + 3].toNat : Nat) := by
  have p1 : (256 : Nat) ^ 1 = 256 := rfl
  have p2 : (256 : Nat) ^ 2 = 65536 := rfl
  have p3 : (256 : Nat) ^ 3 = 16777216 := rfl
  have p0 : (256 : Nat) ^ 0 = 1 := rfl
  simp only [numP]
  rw [bAt_eq (by omega : o + 0 < s.size), bAt_eq (by omega : o + 1 < s.size), bAt_eq (by omega : o + 2 < s.size), bAt_eq (by omega : o + 3 < s.size), p0, p1, p2, p3]
  simp only [Nat.add_zero]
  omega
set_option maxRecDepth 100000 in
set_option maxHeartbeats 1000000 in
theorem RNumber_any (s : ByteArray) (o : Nat) (h : o + 4 ≤ s.size) (hs : o ≤ 1000000) (w : World) : Calls Tryz.prog 104 #[.string s, .int .i64 o] w fun e w' => e = .returned (.int .i64 (wordS s o)) ∧ Below w.heap.size w w' := by
  have hsum := number_sum s o h
  have hlt := numP_lt s o 4
  have h0 : o < s.size := by omega
  have h1 : o + 1 < s.size := by omega
  have h2 : o + 2 < s.size := by omega
  have h3 : o + 3 < s.size := by omega
  have hw : wordS s o = i32 (numP s o 4) := rfl
  obtain ⟨N, hN⟩ : ∃ N, numP s o 4 = N := ⟨_, rfl⟩
  rw [hN] at hsum hlt hw
  have HW := Lib.hid hw
  clear hw hN
  obtain ⟨o1, ho1⟩ : ∃ x, o + 1 = x := ⟨_, rfl⟩
  obtain ⟨o2, ho2⟩ : ∃ x, o + 2 = x := ⟨_, rfl⟩
  obtain ⟨o3, ho3⟩ : ∃ x, o + 3 = x := ⟨_, rfl⟩
  simp only [ho1, ho2, ho3] at h1 h2 h3 hsum
  have e1 : (o : Int) + 1 = (o1 : Int) := by omega
  have e2 : (o : Int) + 2 = (o2 : Int) := by omega
  have e3 : (o : Int) + 3 = (o3 : Int) := by omega
  have w1 : IntKind.i64.wrap (o1 : Int) = (o1 : Int) := IntWalk.i64_in _ (by omega)
  have w2 : IntKind.i64.wrap (o2 : Int) = (o2 : Int) := IntWalk.i64_in _ (by omega)
  have w3 : IntKind.i64.wrap (o3 : Int) = (o3 : Int) := IntWalk.i64_in _ (by omega)
  obtain ⟨b0, hb0⟩ : ∃ b, s[o].toNat = b := ⟨_, rfl⟩
  obtain ⟨b1, hb1⟩ : ∃ b, s[o1].toNat = b := ⟨_, rfl⟩
  obtain ⟨b2, hb2⟩ : ∃ b, s[o2].toNat = b := ⟨_, rfl⟩
  obtain ⟨b3, hb3⟩ : ∃ b, s[o3].toNat = b := ⟨_, rfl⟩
  have c0 : b0 < 256 := by rw [← hb0]; exact s[o].toNat_lt
  have c1 : b1 < 256 := by rw [← hb1]; exact s[o1].toNat_lt
  have c2 : b2 < 256 := by rw [← hb2]; exact s[o2].toNat_lt
  have c3 : b3 < 256 := by rw [← hb3]; exact s[o3].toNat_lt
  rw [hb0, hb1, hb2, hb3] at hsum
  have q0 : IntKind.i64.wrap (b0 : Int) = (b0 : Int) := IntWalk.i64_in _ (by omega)
  have q1 : IntKind.i64.wrap (b1 : Int) = (b1 : Int) := IntWalk.i64_in _ (by omega)
  have q2 : IntKind.i64.wrap (b2 : Int) = (b2 : Int) := IntWalk.i64_in _ (by omega)
  have q3 : IntKind.i64.wrap (b3 : Int) = (b3 : Int) := IntWalk.i64_in _ (by omega)
  have m1 : IntKind.i64.wrap (256 * (b1 : Int)) = 256 * (b1 : Int) := IntWalk.i64_in _ (by omega)
  have m2 : IntKind.i64.wrap (65536 * (b2 : Int)) = 65536 * (b2 : Int) := IntWalk.i64_in _ (by omega)
  have m3 : IntKind.i64.wrap (16777216 * (b3 : Int)) = 16777216 * (b3 : Int) := IntWalk.i64_in _ (by omega)
  have s1 : IntKind.i64.wrap ((b0 : Int) + 256 * (b1 : Int)) = (b0 : Int) + 256 * (b1 : Int) := IntWalk.i64_in _ (by omega)
  have s2 : IntKind.i64.wrap ((b0 : Int) + 256 * (b1 : Int) + 65536 * (b2 : Int)) = (b0 : Int) + 256 * (b1 : Int) + 65536 * (b2 : Int) := IntWalk.i64_in _ (by omega)
  have s3 : IntKind.i64.wrap ((b0 : Int) + 256 * (b1 : Int) + 65536 * (b2 : Int) + 16777216 * (b3 : Int)) = (b0 : Int) + 256 * (b1 : Int) + 65536 * (b2 : Int) + 16777216 * (b3 : Int) := IntWalk.i64_in _ (by omega)
  obtain ⟨B, hB⟩ : ∃ B, w.heap.size = B := ⟨_, rfl⟩
  have hfar := Below.refl B w
  go_enter Tryz.func104, Tryz.ntmps104
  go_upto_region 1 with (fail)
  go_cut [5] from 6 to 30 (fun s5 wx => s5 = .int .i64 (N : Int) ∧ Below B w wx)
  case first =>
    refine wp_region_held_drew (S := fun W => True) (by kernel_rfl) ⟨⟩ (fun hH => ?_)
    refine wpAnyH_take (i := 0) (oi := { dst := some 6, op := Op.move (Operand.tmp 0), type := 9, pos := "ref.go:18", after := _, guard := none }) (v := _) rfl (by kernel_rfl) (by kernel_rfl) (by kernel_rfl) (fun _ _ _ h => h) (.inl ⟨by rfl, fun w hS => by (go_simp; try rfl)⟩) hH ?_
    try simp only [Act.put, List.setIfInBounds_toArray, List.set_cons_zero, List.set_cons_succ]
    refine wpAnyH_take (i := 1) (oi := { dst := some 7, op := Op.move (Operand.tmp 1), type := 3, pos := "ref.go:18", after := _, guard := none }) (v := _) rfl (by kernel_rfl) (by kernel_rfl) (by kernel_rfl) (fun _ _ _ h => h) (.inl ⟨by rfl, fun w hS => by (go_simp; try rfl)⟩) hH ?_
    try simp only [Act.put, List.setIfInBounds_toArray, List.set_cons_zero, List.set_cons_succ]
    refine wpAnyH_take (i := 2) (oi := { dst := some 8, op := Op.index 9 (Operand.tmp 6) (Operand.tmp 7), type := 5, pos := "ref.go:18", after := _, guard := none }) (v := _) rfl (by kernel_rfl) (by kernel_rfl) (by kernel_rfl) (fun _ _ _ h => h) (.inl ⟨by rfl, fun w hS => by (go_simp; try rfl)⟩) hH ?_
    try simp only [Act.put, List.setIfInBounds_toArray, List.set_cons_zero, List.set_cons_succ]
    refine wpAnyH_take (i := 3) (oi := { dst := some 9, op := Op.convert 5 3 (Operand.tmp 8), type := 3, pos := "ref.go:18", after := _, guard := none }) (v := _) rfl (by kernel_rfl) (by kernel_rfl) (by kernel_rfl) (fun _ _ _ h => h) (.inl ⟨by rfl, fun w hS => by (go_simp; try rfl)⟩) hH ?_
    try simp only [Act.put, List.setIfInBounds_toArray, List.set_cons_zero, List.set_cons_succ]
    refine wpAnyH_take (i := 4) (oi := { dst := some 10, op := Op.move (Operand.tmp 0), type := 9, pos := "ref.go:18", after := _, guard := none }) (v := _) rfl (by kernel_rfl) (by kernel_rfl) (by kernel_rfl) (fun _ _ _ h => h) (.inl ⟨by rfl, fun w hS => by (go_simp; try rfl)⟩) hH ?_
    try simp only [Act.put, List.setIfInBounds_toArray, List.set_cons_zero, List.set_cons_succ]
    refine wpAnyH_take (i := 5) (oi := { dst := some 11, op := Op.move (Operand.tmp 1), type := 3, pos := "ref.go:18", after := _, guard := none }) (v := _) rfl (by kernel_rfl) (by kernel_rfl) (by kernel_rfl) (fun _ _ _ h => h) (.inl ⟨by rfl, fun w hS => by (go_simp; try rfl)⟩) hH ?_
    try simp only [Act.put, List.setIfInBounds_toArray, List.set_cons_zero, List.set_cons_succ]
    refine wpAnyH_take (i := 6) (oi := { dst := some 12, op := Op.binOp BinOp.add 3 (Operand.tmp 11) (Operand.const (Value.int IntKind.i64 1)) 3, type := 3, pos := "ref.go:18", after := _, guard := none }) (v := _) rfl (by kernel_rfl) (by kernel_rfl) (by kernel_rfl) (fun _ _ _ h => h) (.inl ⟨by rfl, fun w hS => by (go_simp; try rfl)⟩) hH ?_
    try simp only [Act.put, List.setIfInBounds_toArray, List.set_cons_zero, List.set_cons_succ]
    refine wpAnyH_take (i := 7) (oi := { dst := some 13, op := Op.index 9 (Operand.tmp 10) (Operand.tmp 12), type := 5, pos := "ref.go:18", after := _, guard := none }) (v := _) rfl (by kernel_rfl) (by kernel_rfl) (by kernel_rfl) (fun _ _ _ h => h) (.inl ⟨by rfl, fun w hS => by (go_simp; try rfl)⟩) hH ?_
    try simp only [Act.put, List.setIfInBounds_toArray, List.set_cons_zero, List.set_cons_succ]
    refine wpAnyH_take (i := 8) (oi := { dst := some 14, op := Op.convert 5 3 (Operand.tmp 13), type := 3, pos := "ref.go:18", after := _, guard := none }) (v := _) rfl (by kernel_rfl) (by kernel_rfl) (by kernel_rfl) (fun _ _ _ h => h) (.inl ⟨by rfl, fun w hS => by (go_simp; try rfl)⟩) hH ?_
    try simp only [Act.put, List.setIfInBounds_toArray, List.set_cons_zero, List.set_cons_succ]
    refine wpAnyH_take (i := 9) (oi := { dst := some 15, op := Op.binOp BinOp.mul 3 (Operand.const (Value.int IntKind.i64 256)) (Operand.tmp 14) 3, type := 3, pos := "ref.go:18", after := _, guard := none }) (v := _) rfl (by kernel_rfl) (by kernel_rfl) (by kernel_rfl) (fun _ _ _ h => h) (.inl ⟨by rfl, fun w hS => by (go_simp; try rfl)⟩) hH ?_
    try simp only [Act.put, List.setIfInBounds_toArray, List.set_cons_zero, List.set_cons_succ]
    refine wpAnyH_take (i := 10) (oi := { dst := some 16, op := Op.binOp BinOp.add 3 (Operand.tmp 9) (Operand.tmp 15) 3, type := 3, pos := "ref.go:18", after := _, guard := none }) (v := _) rfl (by kernel_rfl) (by kernel_rfl) (by kernel_rfl) (fun _ _ _ h => h) (.inl ⟨by rfl, fun w hS => by (go_simp; try rfl)⟩) hH ?_
    try simp only [Act.put, List.setIfInBounds_toArray, List.set_cons_zero, List.set_cons_succ]
    refine wpAnyH_take (i := 11) (oi := { dst := some 17, op := Op.move (Operand.tmp 0), type := 9, pos := "ref.go:18", after := _, guard := none }) (v := _) rfl (by kernel_rfl) (by kernel_rfl) (by kernel_rfl) (fun _ _ _ h => h) (.inl ⟨by rfl, fun w hS => by (go_simp; try rfl)⟩) hH ?_
    try simp only [Act.put, List.setIfInBounds_toArray, List.set_cons_zero, List.set_cons_succ]
    refine wpAnyH_take (i := 12) (oi := { dst := some 18, op := Op.move (Operand.tmp 1), type := 3, pos := "ref.go:18", after := _, guard := none }) (v := _) rfl (by kernel_rfl) (by kernel_rfl) (by kernel_rfl) (fun _ _ _ h => h) (.inl ⟨by rfl, fun w hS => by (go_simp; try rfl)⟩) hH ?_
    try simp only [Act.put, List.setIfInBounds_toArray, List.set_cons_zero, List.set_cons_succ]
    refine wpAnyH_take (i := 13) (oi := { dst := some 19, op := Op.binOp BinOp.add 3 (Operand.tmp 18) (Operand.const (Value.int IntKind.i64 2)) 3, type := 3, pos := "ref.go:18", after := _, guard := none }) (v := _) rfl (by kernel_rfl) (by kernel_rfl) (by kernel_rfl) (fun _ _ _ h => h) (.inl ⟨by rfl, fun w hS => by (go_simp; try rfl)⟩) hH ?_
    try simp only [Act.put, List.setIfInBounds_toArray, List.set_cons_zero, List.set_cons_succ]
    refine wpAnyH_take (i := 14) (oi := { dst := some 20, op := Op.index 9 (Operand.tmp 17) (Operand.tmp 19), type := 5, pos := "ref.go:18", after := _, guard := none }) (v := _) rfl (by kernel_rfl) (by kernel_rfl) (by kernel_rfl) (fun _ _ _ h => h) (.inl ⟨by rfl, fun w hS => by (go_simp; try rfl)⟩) hH ?_
    try simp only [Act.put, List.setIfInBounds_toArray, List.set_cons_zero, List.set_cons_succ]
    refine wpAnyH_take (i := 15) (oi := { dst := some 21, op := Op.convert 5 3 (Operand.tmp 20), type := 3, pos := "ref.go:18", after := _, guard := none }) (v := _) rfl (by kernel_rfl) (by kernel_rfl) (by kernel_rfl) (fun _ _ _ h => h) (.inl ⟨by rfl, fun w hS => by (go_simp; try rfl)⟩) hH ?_
    try simp only [Act.put, List.setIfInBounds_toArray, List.set_cons_zero, List.set_cons_succ]
    refine wpAnyH_take (i := 16) (oi := { dst := some 22, op := Op.binOp BinOp.mul 3 (Operand.const (Value.int IntKind.i64 65536)) (Operand.tmp 21) 3, type := 3, pos := "ref.go:18", after := _, guard := none }) (v := _) rfl (by kernel_rfl) (by kernel_rfl) (by kernel_rfl) (fun _ _ _ h => h) (.inl ⟨by rfl, fun w hS => by (go_simp; try rfl)⟩) hH ?_
    try simp only [Act.put, List.setIfInBounds_toArray, List.set_cons_zero, List.set_cons_succ]
    refine wpAnyH_take (i := 17) (oi := { dst := some 23, op := Op.binOp BinOp.add 3 (Operand.tmp 16) (Operand.tmp 22) 3, type := 3, pos := "ref.go:18", after := _, guard := none }) (v := _) rfl (by kernel_rfl) (by kernel_rfl) (by kernel_rfl) (fun _ _ _ h => h) (.inl ⟨by rfl, fun w hS => by (go_simp; try rfl)⟩) hH ?_
    try simp only [Act.put, List.setIfInBounds_toArray, List.set_cons_zero, List.set_cons_succ]
    refine wpAnyH_take (i := 18) (oi := { dst := some 24, op := Op.move (Operand.tmp 0), type := 9, pos := "ref.go:18", after := _, guard := none }) (v := _) rfl (by kernel_rfl) (by kernel_rfl) (by kernel_rfl) (fun _ _ _ h => h) (.inl ⟨by rfl, fun w hS => by (go_simp; try rfl)⟩) hH ?_
    try simp only [Act.put, List.setIfInBounds_toArray, List.set_cons_zero, List.set_cons_succ]
    refine wpAnyH_take (i := 19) (oi := { dst := some 25, op := Op.move (Operand.tmp 1), type := 3, pos := "ref.go:18", after := _, guard := none }) (v := _) rfl (by kernel_rfl) (by kernel_rfl) (by kernel_rfl) (fun _ _ _ h => h) (.inl ⟨by rfl, fun w hS => by (go_simp; try rfl)⟩) hH ?_
    try simp only [Act.put, List.setIfInBounds_toArray, List.set_cons_zero, List.set_cons_succ]
    refine wpAnyH_take (i := 20) (oi := { dst := some 26, op := Op.binOp BinOp.add 3 (Operand.tmp 25) (Operand.const (Value.int IntKind.i64 3)) 3, type := 3, pos := "ref.go:18", after := _, guard := none }) (v := _) rfl (by kernel_rfl) (by kernel_rfl) (by kernel_rfl) (fun _ _ _ h => h) (.inl ⟨by rfl, fun w hS => by (go_simp; try rfl)⟩) hH ?_
    try simp only [Act.put, List.setIfInBounds_toArray, List.set_cons_zero, List.set_cons_succ]
    refine wpAnyH_take (i := 21) (oi := { dst := some 27, op := Op.index 9 (Operand.tmp 24) (Operand.tmp 26), type := 5, pos := "ref.go:18", after := _, guard := none }) (v := _) rfl (by kernel_rfl) (by kernel_rfl) (by kernel_rfl) (fun _ _ _ h => h) (.inl ⟨by rfl, fun w hS => by (go_simp; try rfl)⟩) hH ?_
    try simp only [Act.put, List.setIfInBounds_toArray, List.set_cons_zero, List.set_cons_succ]
    refine wpAnyH_take (i := 22) (oi := { dst := some 28, op := Op.convert 5 3 (Operand.tmp 27), type := 3, pos := "ref.go:18", after := _, guard := none }) (v := _) rfl (by kernel_rfl) (by kernel_rfl) (by kernel_rfl) (fun _ _ _ h => h) (.inl ⟨by rfl, fun w hS => by (go_simp; try rfl)⟩) hH ?_
    try simp only [Act.put, List.setIfInBounds_toArray, List.set_cons_zero, List.set_cons_succ]
    refine wpAnyH_take (i := 23) (oi := { dst := some 29, op := Op.binOp BinOp.mul 3 (Operand.const (Value.int IntKind.i64 16777216)) (Operand.tmp 28) 3, type := 3, pos := "ref.go:18", after := _, guard := none }) (v := _) rfl (by kernel_rfl) (by kernel_rfl) (by kernel_rfl) (fun _ _ _ h => h) (.inl ⟨by rfl, fun w hS => by (go_simp; try rfl)⟩) hH ?_
    try simp only [Act.put, List.setIfInBounds_toArray, List.set_cons_zero, List.set_cons_succ]
    refine wpAnyH_take (i := 24) (oi := { dst := some 30, op := Op.binOp BinOp.add 3 (Operand.tmp 23) (Operand.tmp 29) 3, type := 3, pos := "ref.go:18", after := _, guard := none }) (v := _) rfl (by kernel_rfl) (by kernel_rfl) (by kernel_rfl) (fun _ _ _ h => h) (.inl ⟨by rfl, fun w hS => by (go_simp; try rfl)⟩) hH ?_
    try simp only [Act.put, List.setIfInBounds_toArray, List.set_cons_zero, List.set_cons_succ]
    refine wpAnyH_take (i := 25) (oi := { dst := some 5, op := Op.assign (Operand.tmp 30), type := 3, pos := "ref.go:18", after := _, guard := none }) (v := _) rfl (by kernel_rfl) (by kernel_rfl) (by kernel_rfl) (fun _ _ _ h => h) (.inl ⟨by rfl, fun w hS => by (go_simp; try rfl)⟩) hH ?_
    try simp only [Act.put, List.setIfInBounds_toArray, List.set_cons_zero, List.set_cons_succ]
    refine wpAnyH_done (by kernel_rfl) ?_ _
    go_wp2_with fail
    go_meet
    case rel => exact ⟨by first | rw [hsum] | (rw [hsum, q0, q1, q2, q3, m1, m2, m3, s1, s2, s3]), by exact bl_⟩
  case rest =>
    obtain ⟨rfl, hfar⟩ := hcut
    clear hsum c0 c1 c2 c3
    by_cases hbig : (2147483648 : Int) ≤ N
    · go_wp2_with fail
      go_ret
      exact ⟨by rw [HW.out]; unfold i32; rw [if_neg (by omega)]; rfl, (by (try rw [hB]); exact bl_)⟩
    · go_wp2_with fail
      go_ret
      exact ⟨by rw [HW.out]; unfold i32; rw [if_pos (by omega)]; rfl, (by (try rw [hB]); exact bl_)⟩
/-- Those of a state's places that are filled. -/
def selL (F : List Int) (p : Nat → Bool) : List Int := (List.range 38).map fun j => if p j then F.getD j 0 else 0
theorem selL_len (F : List Int) (p : Nat → Bool) : Len (selL F p) 38 := by apply Len.mk; simp [selL]
theorem selL_get (F : List Int) (p : Nat → Bool) {j : Nat} (h : j < 38) : (selL F p)[j]? = some (if p j then F.getD j 0 else 0) := by
  unfold selL; rw [List.getElem?_map, List.getElem?_range h]; rfl
theorem selL_none (F : List Int) : selL F (fun _ => false) = zs 38 := by
  apply List.ext_getElem?
  intro j
  by_cases h : j < 38
  · rw [selL_get _ _ h]; unfold Go.Proofs.YtmfihaaiddolmaaGreatDoor.zs; rw [List.getElem?_replicate, if_pos h]; rfl
  · rw [List.getElem?_eq_none (by rw [(selL_len _ _).out]; omega), List.getElem?_eq_none (by rw [(Len.zs 38).out]; omega)]
theorem selL_all {F : List Int} {p : Nat → Bool} (hF : F.length = 38) (h : ∀ j, j < 38 → p j = true) : selL F p = F := by
  apply List.ext_getElem?
  intro j
  by_cases hj : j < 38
  · rw [selL_get _ _ hj, h j hj, List.getD_eq_getElem?_getD, List.getElem?_eq_getElem (by omega)]; rfl
  · rw [List.getElem?_eq_none (by rw [(selL_len _ _).out]; omega), List.getElem?_eq_none (by omega)]
theorem selL_set {F : List Int} {p q : Nat → Bool} {j : Nat} {x : Int} (hj : j < 38) (hx : F.getD j 0 = x) (h : ∀ i, i < 38 → q i = (p i || decide (i = j))) : (selL F p).set j x = selL F q := by
  apply List.ext_getElem?
  intro i
  by_cases hi : i < 38
  · rw [List.getElem?_set, selL_get F p hi, selL_get F q hi, h i hi]
    by_cases e : j = i
    · subst e
      rw [if_pos rfl, if_pos (by rw [(selL_len _ _).out]; exact hi)]
      simp only [decide_true, Bool.or_true, if_true]; rw [hx]
    · rw [if_neg e]
      have : decide (i = j) = false := by simp; omega
      rw [this, Bool.or_false]
  · rw [List.getElem?_eq_none (by rw [List.length_set, (selL_len _ _).out]; omega), List.getElem?_eq_none (by rw [(selL_len _ _).out]; omega)]
def p1 (k j : Nat) : Bool := decide (j < k) || (decide (21 ≤ j) && decide (j < 21 + k))
def p1b (k j : Nat) : Bool := decide (j < k + 1) || (decide (21 ≤ j) && decide (j < 21 + k))
def p2 (k j : Nat) : Bool := decide (j < 17 + k) || (decide (21 ≤ j) && decide (j < 37))
/-- What is read of bytes, right or not. -/
def rawSt (s : ByteArray) : List Int := if s.size = 137 then readL s else zs 38
theorem rawSt_len (s : ByteArray) : Len (rawSt s) 38 := by
  unfold rawSt; split
  · exact Len.mk (readL_len s)
  · exact Len.zs 38
set_option maxRecDepth 100000 in
set_option maxHeartbeats 4000000 in
theorem RState_any (s : ByteArray) (w : World) : Calls Tryz.prog 71 #[.string s] w fun e w' => e = .returned (.tuple #[.agg (arrV (rawSt s)), .bool (decide (readE s = 0))]) ∧ Below w.heap.size w w' := by
  have LRA := rawSt_len s
  have hraw : rawSt s = if s.size = 137 then readL s else zs 38 := rfl
  have hE : readE s = if s.size = 137 then (if rightS (readL s) then 0 else 4) else 10 := rfl
  obtain ⟨Y, hY⟩ : ∃ Y, decide (readE s = 0) = Y := ⟨_, rfl⟩
  obtain ⟨Z, hZ⟩ : ∃ Z, rawSt s = Z := ⟨_, rfl⟩
  rw [hY, hZ]
  rw [hZ] at LRA hraw
  have HY := Lib.hid hY
  have HE := Lib.hid hE
  have HRAW := Lib.hid hraw
  clear hY hZ hraw hE
  obtain ⟨B, hB⟩ : ∃ B, w.heap.size = B := ⟨_, rfl⟩
  have hfar := Below.refl B w
  have hsz : B ≤ w.heap.size := by omega
  go_enter Tryz.func71, Tryz.ntmps71
  go_upto_region 2 with (fail)
  refine wp_gen (fun W => Blk W (B) (arrV (zs 38)) 25 ∧ Blk W (B + 1) (arrV (zs 38)) 25 ∧ Below (B) w W ∧ B + 2 ≤ W.heap.size) ⟨bk_, bk_, bl_, sz_⟩ ?_
  clear hfar hsz
  rintro w1 ⟨hR, hA, hfar, hsz⟩
  by_cases hs : s.size = 137
  case neg =>
    have hz : Z = zs 38 := by rw [HRAW.out, if_neg hs]
    have hy : Y = false := by rw [← HY.out, HE.out, if_neg hs]; rfl
    subst hz hy
    have hsi : ¬ (s.size : Int) = 137 := by omega
    go_wp2_with (first | (refine ld 25 rfl (by rfl) w_RState rfl hA (Len.zs 38).sz ?_) | (refine st 25 rfl (by rfl) w_RState rfl rfl bk_ lz_ lz_ one_ ?_))
    exact bodyPost_ret (v := .tuple #[.agg (arrV (zs 38)), .bool false]) (res_ct Tryz.results71 rfl w_RState (by exact bk_) (Len.zs 38).sz rfl) rfl ⟨rfl, (by (try rw [hB]); exact bl_)⟩
  case pos =>
    have hz : Z = readL s := by rw [HRAW.out, if_pos hs]
    have hrd := readL_len s
    have hrt := fun w => RRight_any (readL s) hrd w
    have hg0 := fun k (h : k < 16) => readL0 s k h
    have hg1 := readL1 s
    have hg2 := fun k (h : k < 4) => readL2 s k h
    have hg3 := fun k (h : k < 16) => readL3 s k h
    have hg4 := readL4 s
    have hy : Y = rightS (readL s) := by
      rw [← HY.out, HE.out, if_pos hs]
      cases rightS (readL s) <;> rfl
    rw [← hy] at hrt
    simp only [← hz] at hrt hg0 hg1 hg2 hg3 hg4
    have HRT := Lib.hid hrt
    have HG0 := Lib.hid hg0
    have HG1 := Lib.hid hg1
    have HG2 := Lib.hid hg2
    have HG3 := Lib.hid hg3
    have HG4 := Lib.hid hg4
    have hsi : (s.size : Int) = 137 := by omega
    clear hz hrd hrt hg0 hg1 hg2 hg3 hg4 hy HRAW HE HY
    go_wp2_with fail
    go_loopw [5] (fun i wr => ∃ k : Nat, k ≤ 16 ∧ i = .int .i64 k ∧ Blk wr B (arrV (zs 38)) 25 ∧ Blk wr (B + 1) (arrV (selL Z (p1 k))) 25 ∧ Below B w wr ∧ B + 2 ≤ wr.heap.size) (fun i _ => 16 - (intOf i).toNat)
    case atStart => exact ⟨0, by omega, rfl, hR, by rw [show p1 0 = fun _ => false from by funext j; unfold p1; simp <;> omega, selL_none]; exact hA, hfar, hsz⟩
    case round =>
      clear hR hA hfar hsz
      obtain ⟨k, hk, rfl, hR, hA, hfar, hsz⟩ := hrel
      by_cases hlt : k < 16
      · have hlti : (k : Int) < 16 := by omega
        have hn1 := fun w => RNumber_any s (4 * k) (by omega) (by omega) w
        have hn2 := fun w => RNumber_any s (72 + 4 * k) (by omega) (by omega) w
        have hx1 := HG0.out k hlt
        have hx2 := HG3.out k hlt
        have hs1 := selL_set (F := Z) (p := p1 k) (q := p1b k) (j := k) (by omega) hx1 (fun i _ => by unfold p1 p1b; rw [Bool.eq_iff_iff]; simp; omega)
        have hs2 := selL_set (F := Z) (p := p1b k) (q := p1 (k + 1)) (j := 21 + k) (by omega) hx2 (fun i _ => by unfold p1 p1b; rw [Bool.eq_iff_iff]; simp; omega)
        obtain ⟨x, hx⟩ : ∃ x, wordS s (4 * k) = x := ⟨_, rfl⟩
        obtain ⟨y, hy⟩ : ∃ y, wordS s (72 + 4 * k) = y := ⟨_, rfl⟩
        rw [hx] at hs1
        rw [hy] at hs2
        simp only [hx] at hn1
        simp only [hy] at hn2
        obtain ⟨a, ha⟩ : ∃ a, 4 * k = a := ⟨_, rfl⟩
        have ha1 : 4 * (k : Int) = (a : Int) := by omega
        rw [ha] at hn1 hn2
        obtain ⟨b, hb⟩ : ∃ b, 72 + a = b := ⟨_, rfl⟩
        have hb1 : 72 + (a : Int) = (b : Int) := by omega
        rw [hb] at hn2
        have hwa : IntKind.i64.wrap (a : Int) = (a : Int) := IntWalk.i64_in _ (by omega)
        have hwb : IntKind.i64.wrap (b : Int) = (b : Int) := IntWalk.i64_in _ (by omega)
        have LT := selL_len Z (p1 k)
        have LT2 := selL_len Z (p1b k)
        obtain ⟨T, hT⟩ : ∃ T, selL Z (p1 k) = T := ⟨_, rfl⟩
        obtain ⟨T2, hT2⟩ : ∃ T, selL Z (p1b k) = T := ⟨_, rfl⟩
        rw [hT] at hs1 hA LT
        rw [hT2] at hs1 hs2 LT2
        have HS1 := Lib.hid hs1
        have HS2 := Lib.hid hs2
        have HN1 := Lib.hid hn1
        have HN2 := Lib.hid hn2
        clear hx1 hx2 hs1 hs2 hx hy hn1 hn2 hT hT2 ha hb
        go_wp2_with fail
        refine (HN1.out _).mono ?_
        rintro e w2 ⟨rfl, hb2⟩
        replace hR := hR.newB hb2
        replace hA := hA.newB hb2
        replace hfar := hfar.trans (hb2.mono (by omega))
        replace hsz := Nat.le_trans hsz hb2.size
        have c1 := (hA.cell k).trans (arr_get (l := T) (by rw [LT.out]; omega))
        have f1 := hA.frozen k
        go_upto_region 8 with (fail)
        refine wp_gen (fun W => Blk W (B) (arrV (zs 38)) 25 ∧ Blk W (B + 1) (arrV (T.set k x)) 25 ∧ Below (B) w W ∧ B + 2 ≤ W.heap.size) ⟨bk_, bk_, bl_, sz_⟩ ?_
        clear hR hA hfar hsz
        rintro w3 ⟨hR, hA, hfar, hsz⟩
        rw [HS1.out] at hA
        go_wp2_with fail
        refine (HN2.out _).mono ?_
        rintro e w4 ⟨rfl, hb4⟩
        replace hR := hR.newB hb4
        replace hA := hA.newB hb4
        replace hfar := hfar.trans (hb4.mono (by omega))
        replace hsz := Nat.le_trans hsz hb4.size
        have c2 := (hA.cell (21 + k)).trans (arr_get (l := T2) (by rw [LT2.out]; omega))
        have f2 := hA.frozen (21 + k)
        go_wp2_with fail
        go_roundw
        case rel => exact ⟨k + 1, hlt, by go_num, by exact bk_, by rw [← HS2.out]; exact bk_, by exact bl_, by exact sz_⟩
        case measure => simp [intOf]; omega
      · obtain rfl : k = 16 := by omega
        have hn3 := fun w => RNumber_any s 64 (by omega) (by omega) w
        have hs3 := selL_set (F := Z) (p := p1 16) (q := p2 0) (j := 16) (by omega) HG1.out (fun i _ => by unfold p1 p2; rw [Bool.eq_iff_iff]; simp; omega)
        have LT := selL_len Z (p1 16)
        obtain ⟨T, hT⟩ : ∃ T, selL Z (p1 16) = T := ⟨_, rfl⟩
        obtain ⟨x, hx⟩ : ∃ x, wordS s 64 = x := ⟨_, rfl⟩
        rw [hx, hT] at hs3
        rw [hT] at hA LT
        simp only [hx] at hn3
        have HN3 := Lib.hid hn3
        have HS3 := Lib.hid hs3
        clear hn3 hs3 hT hx
        go_wp2_with fail
        refine (HN3.out _).mono ?_
        rintro e w2 ⟨rfl, hb2⟩
        replace hR := hR.newB hb2
        replace hA := hA.newB hb2
        replace hfar := hfar.trans (hb2.mono (by omega))
        replace hsz := Nat.le_trans hsz hb2.size
        have c1 := (hA.cell 16).trans (arr_get (l := T) (by rw [LT.out]; omega))
        have f1 := hA.frozen 16
        go_upto_region 10 with (fail)
        refine wp_gen (fun W => Blk W (B) (arrV (zs 38)) 25 ∧ Blk W (B + 1) (arrV (T.set 16 x)) 25 ∧ Below (B) w W ∧ B + 2 ≤ W.heap.size) ⟨bk_, bk_, bl_, sz_⟩ ?_
        clear hR hA hfar hsz
        rintro w3 ⟨hR, hA, hfar, hsz⟩
        rw [HS3.out] at hA
        clear c1 f1
        go_wp2_with fail
        go_loopw [6] (fun i wr => ∃ k : Nat, k ≤ 4 ∧ i = .int .i64 k ∧ Blk wr B (arrV (zs 38)) 25 ∧ Blk wr (B + 1) (arrV (selL Z (p2 k))) 25 ∧ Below B w wr ∧ B + 2 ≤ wr.heap.size) (fun i _ => 4 - (intOf i).toNat)
        case atStart => exact ⟨0, by omega, rfl, hR, hA, hfar, hsz⟩
        case round =>
          clear hR hA hfar hsz
          obtain ⟨k, hk, rfl, hR, hA, hfar, hsz⟩ := hrel
          by_cases hlt : k < 4
          · have hlti : (k : Int) < 4 := by omega
            have hs1 := selL_set (F := Z) (p := p2 k) (q := p2 (k + 1)) (j := 17 + k) (by omega) (HG2.out k hlt) (fun i _ => by unfold p2; rw [Bool.eq_iff_iff]; simp; omega)
            have hks : 68 + k < s.size := by omega
            rw [bAt_eq hks] at hs1
            have LT := selL_len Z (p2 k)
            obtain ⟨T, hT⟩ : ∃ T, selL Z (p2 k) = T := ⟨_, rfl⟩
            rw [hT] at hs1 hA LT
            have hbl : ((s[68 + k].toNat : Nat) : Int) ≤ 255 := by have := s[68 + k].toNat_lt; omega
            have HS1 := Lib.hid hs1
            clear hs1 hT
            have c1 := (hA.cell (17 + k)).trans (arr_get (l := T) (by rw [LT.out]; omega))
            have f1 := hA.frozen (17 + k)
            go_wp2_with fail
            go_roundw
            case rel => exact ⟨k + 1, hlt, by go_num, by exact bk_, by rw [← HS1.out]; exact bk_, by exact bl_, by exact sz_⟩
            case measure => simp [intOf]; omega
          · obtain rfl : k = 4 := by omega
            have hks : 136 < s.size := by omega
            have hs1 := selL_set (F := Z) (p := p2 4) (q := fun _ => true) (j := 37) (by omega) HG4.out (fun i _ => by unfold p2; rw [Bool.eq_iff_iff]; simp; omega)
            rw [bAt_eq hks, selL_all LRA.out (fun _ _ => rfl)] at hs1
            have LT := selL_len Z (p2 4)
            obtain ⟨T, hT⟩ : ∃ T, selL Z (p2 4) = T := ⟨_, rfl⟩
            rw [hT] at hs1 hA LT
            have hbl : ((s[136].toNat : Nat) : Int) ≤ 255 := by have := s[136].toNat_lt; omega
            have HS1 := Lib.hid hs1
            clear hs1 hT
            have c1 := (hA.cell 37).trans (arr_get (l := T) (by rw [LT.out]; omega))
            have f1 := hA.frozen 37
            go_upto_region 15 with (fail)
            refine wp_gen (fun W => Blk W (B) (arrV (zs 38)) 25 ∧ Blk W (B + 1) (arrV (T.set 37 (s[136].toNat : Nat))) 25 ∧ Below (B) w W ∧ B + 2 ≤ W.heap.size) ⟨bk_, bk_, bl_, sz_⟩ ?_
            clear hR hA hfar hsz
            rintro w5 ⟨hR, hA, hfar, hsz⟩
            rw [HS1.out] at hA
            clear c1 f1
            refine wp_region_held_drew (S := fun W => Blk W (B + 1) (arrV Z) 25) (by kernel_rfl) (hA.drew) (fun hH => ?_)
            refine wpAnyH_take (i := 0) (oi := { dst := some 49, op := Op.load 25 (Operand.tmp 4), type := 25, pos := "ref.go:40", after := _, guard := none }) (v := .agg (arrV Z)) rfl (by kernel_rfl) (by kernel_rfl) (by kernel_rfl) (fun _ _ _ h => h) (yieldsIf_ld (by rfl) 25 rfl w_RState rfl (fun _ hS => hS) zz_) hH ?_
            try simp only [Act.put, List.setIfInBounds_toArray, List.set_cons_zero, List.set_cons_succ]
            refine wpAnyH_take (i := 1) (oi := { dst := some 50, op := Op.load 25 (Operand.tmp 4), type := 25, pos := "ref.go:40", after := _, guard := none }) (v := .agg (arrV Z)) rfl (by kernel_rfl) (by kernel_rfl) (by kernel_rfl) (fun _ _ _ h => h) (yieldsIf_ld (by rfl) 25 rfl w_RState rfl (fun _ hS => hS) zz_) hH ?_
            try simp only [Act.put, List.setIfInBounds_toArray, List.set_cons_zero, List.set_cons_succ]
            refine wpAnyH_ready (rs := [2]) (by kernel_rfl) (by simp) ?_
            refine AllReadyH.cons (o := { dst := some 51, op := Op.call { callee := Callee.value (Operand.func 8), args := #[Operand.tmp 50], argTypes := #[25] }, type := 4, pos := "ref.go:40", after := _, guard := none }) rfl (fun K hK => ?_) AllReadyH.nil
            rw [if_pos (by rfl)]
            go_simp
            refine (HRT.out _).mono ?_
            rintro r wq ⟨rfl, hb⟩
            have hbs := hb.size
            try simp only [World.size_alloc, World.size_setCell, World.size_drew, size_setRow] at hbs
            go_wp2_with fail
            refine hK.out _ _ bk_ (fun hH => ?_)
            clear hK K
            try simp only [Act.put, List.setIfInBounds_toArray, List.set_cons_zero, List.set_cons_succ]
            refine wpAnyH_ready (rs := [3]) (by kernel_rfl) (by simp) ?_
            refine AllReadyH.cons (o := { dst := none, op := Op.store 25 (Operand.tmp 2) (Operand.tmp 49), type := 0, pos := "ref.go:40", after := _, guard := none }) rfl (fun K hK => ?_) AllReadyH.nil
            rw [if_pos (by rfl)]
            refine wp_st 25 rfl w_RState rfl rfl bk_ zz_ zz_ one_ ?_
            refine hK.out _ _ bk_ (fun hH => ?_)
            clear hK K
            try simp only [Act.put]
            refine wpAnyH_take (i := 4) (oi := { dst := some 3, op := Op.assign (Operand.tmp 51), type := 4, pos := "ref.go:40", after := _, guard := none }) (v := _) rfl (by kernel_rfl) (by kernel_rfl) (by kernel_rfl) (fun _ _ _ h => h) (.inl ⟨by rfl, fun w hS => by (go_simp; try rfl)⟩) hH ?_
            try simp only [Act.put, List.setIfInBounds_toArray, List.set_cons_zero, List.set_cons_succ]
            refine wpAnyH_done (by kernel_rfl) ?_ _
            go_wp2_with fail
            exact bodyPost_ret (v := .tuple #[.agg (arrV Z), .bool Y]) (res_ct Tryz.results71 rfl w_RState (by exact bk_) LRA.sz rfl) rfl ⟨rfl, (by (try rw [hB]); exact bl_)⟩
set_option maxRecDepth 100000 in
set_option maxHeartbeats 1000000 in
theorem RERight_any (e : Ent) (w : World) : Calls Tryz.prog 62 #[.agg (entV e)] w fun r w' => r = .returned (.bool (rightE e)) ∧ Below w.heap.size w w' := by
  obtain ⟨k, sp, s⟩ := e
  have hst := fun w => RState_any s w
  have LR := rawSt_len s
  have hR : rightE ⟨k, sp, s⟩ = if k = 1 then decide (10 ≤ s.size) && decide (s.size ≤ 32) else if k = 2 then decide (s.size = 0) else if k = 3 then readE s == 0 else false := rfl
  obtain ⟨R, hRR⟩ : ∃ R, rightE ⟨k, sp, s⟩ = R := ⟨_, rfl⟩
  rw [hRR] at hR ⊢
  obtain ⟨Z, hZ⟩ : ∃ Z, rawSt s = Z := ⟨_, rfl⟩
  rw [hZ] at LR
  simp only [hZ] at hst
  obtain ⟨Y, hY⟩ : ∃ Y, decide (readE s = 0) = Y := ⟨_, rfl⟩
  simp only [hY] at hst
  have hY2 : (readE s == 0) = Y := by rw [← hY]; rfl
  rw [hY2] at hR
  have HR := Lib.hid hR
  have HST := Lib.hid hst
  clear hR hst hRR hZ hY hY2
  obtain ⟨B, hB⟩ : ∃ B, w.heap.size = B := ⟨_, rfl⟩
  have hfar := Below.refl B w
  have hsz : B ≤ w.heap.size := by omega
  go_enter Tryz.func62, Tryz.ntmps62
  go_upto_region 1 with (fail)
  refine wp_gen (fun W => Blk W (B) (entV ⟨k, sp, s⟩) 58 ∧ Below (B) w W ∧ B + 1 ≤ W.heap.size) ⟨bk_, bl_, sz_⟩ ?_
  clear hfar hsz
  rintro w1 ⟨hA, hfar, hsz⟩
  have c0 : w1.cell? ⟨B, 0, none⟩ = some (.int .i64 k) := hA.cell 0
  have c2 : w1.cell? ⟨B, 2, none⟩ = some (.string s) := hA.cell 2
  by_cases h1 : k = 1
  · have hr := HR.out
    rw [if_pos h1] at hr
    by_cases ha : 10 ≤ s.size
    · by_cases hb : s.size ≤ 32
      · have h10 : (10 : Int) ≤ s.size := by omega
        have h32 : (s.size : Int) ≤ 32 := by omega
        have hR1 : R = true := by rw [hr]; simp [ha, hb]
        go_wp2_with fail
        go_ret
        exact ⟨by (try rw [hR1]) <;> first | done | rfl, (by (try rw [hB]); exact bl_)⟩
      · have h10 : (10 : Int) ≤ s.size := by omega
        have h32 : ¬ (s.size : Int) ≤ 32 := by omega
        have hR1 : R = false := by rw [hr]; simp [hb]
        go_wp2_with fail
        go_ret
        exact ⟨by (try rw [hR1]) <;> first | done | rfl, (by (try rw [hB]); exact bl_)⟩
    · have h10 : ¬ (10 : Int) ≤ s.size := by omega
      have hR1 : R = false := by rw [hr]; simp [ha]
      go_wp2_with fail
      go_ret
      exact ⟨by (try rw [hR1]) <;> first | done | rfl, (by (try rw [hB]); exact bl_)⟩
  · by_cases h2 : k = 2
    · subst h2
      have hr := HR.out
      rw [if_neg (by decide), if_pos rfl] at hr
      by_cases h0 : s.size = 0
      · obtain rfl : s = ⟨#[]⟩ := by
          apply ByteArray.ext
          exact Array.eq_empty_of_size_eq_zero h0
        have hR1 : R = true := by rw [hr]; rfl
        go_wp2_with fail
        go_ret
        exact ⟨by (try rw [hR1]) <;> first | done | rfl, (by (try rw [hB]); exact bl_)⟩
      · have hR1 : R = false := by rw [hr]; simp [h0]
        have hne : s.toList.isEmpty = false := notEmpty_str h0
        go_wp2_with fail
        go_ret
        exact ⟨by (try rw [hR1]) <;> first | done | rfl, (by (try rw [hB]); exact bl_)⟩
    · by_cases h3 : k = 3
      · subst h3
        have hR1 : R = Y := by rw [HR.out, if_neg (by decide), if_neg (by decide), if_pos rfl]
        go_wp2_with fail
        refine (HST.out _).mono ?_
        rintro e w2 ⟨rfl, hb2⟩
        replace hA := hA.newB hb2
        replace hfar := hfar.trans (hb2.mono (by omega))
        replace hsz := Nat.le_trans hsz hb2.size
        obtain ⟨g, hs_g⟩ : ∃ g, w2.heap.size = g := ⟨_, rfl⟩
        have hk_g : B + 1 ≤ g := by omega
        go_wp2_with (refine st 25 rfl (by rfl) w_RState rfl rfl bk_ lz_ lz_ one_ ?_)
        go_ret
        exact ⟨by (try rw [hR1]) <;> first | done | rfl, (by (try rw [hB]); exact bl_)⟩
      · have hR1 : R = false := by rw [HR.out, if_neg h1, if_neg h2, if_neg h3]
        have e1 : (k == 1) = false := by simpa using h1
        have e2 : (k == 2) = false := by simpa using h2
        have e3 : (k == 3) = false := by simpa using h3
        go_wp2_with fail
        go_ret
        exact ⟨by (try rw [hR1]) <;> first | done | rfl, (by (try rw [hB]); exact bl_)⟩
end Go.Proofs.YtmfihaaiddolmaaGreatDoor
