/- The walk of the range encoder's end. -/
import Derived.Test.YthpjkgpngbdhbaaGreatDoorRangR3
import Derived.Deep.RegionHeld3
set_option linter.unusedSimpArgs false
set_option linter.unusedVariables false
namespace Go.Proofs.YthpjkgpngbdhbaaGreatDoor
open Go.RowKit

def DoneS (g : Nat) (e : Sp.Enc) (v : Value) (w w' : World) : Prop := Blk w' g (encC e v) 147 ∧ Row w' 5 v (bytesV e.out) ∧ Below w.heap.size w w'
theorem DoneS.drew {g : Nat} {e : Sp.Enc} {v : Value} {w w' : World} (h : DoneS g e v w w') : DoneS g e v w w'.drew := ⟨h.1.drew, h.2.1.drew, h.2.2.drew⟩
theorem DoneS.alloc {g : Nat} {e : Sp.Enc} {v : Value} {w w' : World} (h : DoneS g e v w w') (o : Obj) : DoneS g e v w (w'.alloc o) := ⟨h.1.alloc _, h.2.1.alloc _, Below.alloc h.2.2 h.2.2.size _⟩
theorem convert4 (W : World) (a b c d : Int) :
    (convert 127 9 (.slice (some ⟨W.heap.size, 0, none⟩) 4 4)).run Tryz.prog (W.alloc (.cells #[.int .u8 a, .int .u8 b, .int .u8 c, .int .u8 d] 5)).drew = .ok (.string (strOfNums [a, b, c, d])) (W.alloc (.cells #[.int .u8 a, .int .u8 b, .int .u8 c, .int .u8 d] 5)).drew :=
  Row.str (l := [a, b, c, d]) (Row.lit W 5 (bytesV [a, b, c, d]) W.heap.size rfl (by simp [maxLen])).drew

set_option maxRecDepth 100000 in
set_option maxHeartbeats 1600000 in
theorem EncDone_any (g : Nat) {b : Int} {e : Sp.Enc} (hd : e.Ok b) (hb : b ≤ 1000000000) (n : Nat) (hn : e.size = n) (hn1 : n ≤ 4096) (v : Value) (w : World) (hB : Blk w g (encC e v) 147) (hR : Row w 5 v (bytesV e.out)) :
    Calls Tryz.prog 75 #[.pointer (some ⟨g, 0, none⟩)] w fun x w' => x = .returned (.tuple #[.string (Sp.fitS e.all n), .int .i64 (if Sp.fitOk e.all n then 0 else 5)]) ∧ Below w.heap.size w w' := by
  have hS0 : DoneS g e v w w := ⟨hB, hR, Below.refl _ _⟩
  have hS1 := hS0.drew
  have hall := Sp.Enc.all_bytes hd.bytes
  obtain ⟨A, hA⟩ : ∃ A, e.all = A := ⟨_, rfl⟩
  have hAlen : (A.length : Int) ≤ 1000000010 := by rw [← hA, Sp.Enc.all_length]; have := hd.len; omega
  rw [hA] at hall ⊢
  have hw8 : ∀ x : Int, IntKind.u8.wrap x = x % 256 := fun x => rfl
  have hA2 : strOfNums e.out ++ strOfNums [IntKind.u8.wrap (e.low / 16777216), IntKind.u8.wrap (e.low / 65536), IntKind.u8.wrap (e.low / 256), IntKind.u8.wrap e.low] = strOfNums A := by
    simp only [hw8]; rw [Sp.strOfNums_append, ← hA]; rfl
  have hA3 : ¬ 9223372036854775807 < (strOfNums e.out).size + (strOfNums [IntKind.u8.wrap (e.low / 16777216), IntKind.u8.wrap (e.low / 65536), IntKind.u8.wrap (e.low / 256), IntKind.u8.wrap e.low]).size := by
    rw [strOfNums_size, strOfNums_size]; have := hd.len; simp only [List.length_cons, List.length_nil]; omega
  have HA2 := Lib.hid hA2
  clear hA2 hw8
  clear hA
  obtain ⟨TS, hTS⟩ : ∃ TS : ByteArray, ⟨(Lib.trimRightB (strOfNums A).data.toList 0).toArray⟩ = TS := ⟨_, rfl⟩
  have htrim : ∀ w, Calls Tryz.prog 120 #[.string (strOfNums A), .string ⟨#[0]⟩] w fun e w' => e = .returned (.string TS) ∧ w = w' := by
    intro w
    refine (Tryz.strings_TrimRight_one _ 0 (by decide) _ (by rw [strOfNums_size]; omega)).mono ?_
    rintro e w' ⟨rfl, rfl⟩
    exact ⟨by rw [hTS], rfl⟩
  obtain ⟨N, hN⟩ : ∃ N, TS.size = N := ⟨_, rfl⟩
  have hN2 : (Sp.trimZ A).length = N := by rw [← hN, ← hTS, Sp.trimText_size hall]
  have hNA : N ≤ A.length := by rw [← hN2]; exact Sp.trimZ_len A
  have hl : ∀ w', DoneS g e v w w' → w'.cell? ⟨g, 1, none⟩ = some (.int .u64 e.low) := fun w' h => (h.1.cell 1).trans rfl
  have ho : ∀ w', DoneS g e v w w' → w'.cell? ⟨g, 3, none⟩ = some v := fun w' h => (h.1.cell 3).trans rfl
  have hz : ∀ w', DoneS g e v w w' → w'.cell? ⟨g, 0, none⟩ = some (.int .i64 n) := fun w' h => (h.1.cell 0).trans (by rw [← hn]; rfl)
  have hc : ∀ w', DoneS g e v w w' → (convert 127 9 v).run Tryz.prog w' = .ok (.string (strOfNums e.out)) w' := fun w' h => h.2.1.str
  have hl0 := hd.low0
  have hl1 := hd.low1
  clear hd hB hR
  go_enter Tryz.func75, Tryz.ntmps75
  go_wp2_with fail
  refine wp_region_noPanic ?_
  refine wp_region_held_drew (S := fun w' => DoneS g e v w w') (by kernel_rfl) hS1 (fun hHeld => ?_)
  refine wpAnyH_take (i := 0) (oi := Oper.mk _ _ _ _ _ _) (v := ?_) rfl (by kernel_rfl) (by kernel_rfl) (by kernel_rfl) (fun _ _ _ h => h) (Or.inl ⟨by rfl, ?_⟩) (by assumption) ?_
  rotate_left
  · intro w' hSw
    (try dsimp only at hSw)
    go_simp
    (try with_reducible rfl)
  simp only [Act.put, List.setIfInBounds_toArray, List.set_cons_zero, List.set_cons_succ]
  refine wpAnyH_take (i := 1) (oi := Oper.mk _ _ _ _ _ _) (v := ?_) rfl (by kernel_rfl) (by kernel_rfl) (by kernel_rfl) (fun _ _ _ h => h) (Or.inl ⟨by rfl, ?_⟩) (by assumption) ?_
  rotate_left
  · intro w' hSw
    (try dsimp only at hSw)
    go_simp
    (try with_reducible rfl)
  simp only [Act.put, List.setIfInBounds_toArray, List.set_cons_zero, List.set_cons_succ]
  refine wpAnyH_take (i := 2) (oi := Oper.mk _ _ _ _ _ _) (v := ?_) rfl (by kernel_rfl) (by kernel_rfl) (by kernel_rfl) (fun _ _ _ h => h) (Or.inl ⟨by rfl, ?_⟩) (by assumption) ?_
  rotate_left
  · intro w' hSw
    (try dsimp only at hSw)
    go_simp
    (try with_reducible rfl)
  simp only [Act.put, List.setIfInBounds_toArray, List.set_cons_zero, List.set_cons_succ]
  refine wpAnyH_take (i := 3) (oi := Oper.mk _ _ _ _ _ _) (v := ?_) rfl (by kernel_rfl) (by kernel_rfl) (by kernel_rfl) (fun _ _ _ h => h) (Or.inl ⟨by rfl, ?_⟩) (by assumption) ?_
  rotate_left
  · intro w' hSw
    (try dsimp only at hSw)
    go_simp
    (try with_reducible rfl)
  simp only [Act.put, List.setIfInBounds_toArray, List.set_cons_zero, List.set_cons_succ]
  refine wpAnyH_take (i := 4) (oi := Oper.mk _ _ _ _ _ _) (v := ?_) rfl (by kernel_rfl) (by kernel_rfl) (by kernel_rfl) (fun _ _ _ h => h) (Or.inl ⟨by rfl, ?_⟩) (by assumption) ?_
  rotate_left
  · intro w' hSw
    (try dsimp only at hSw)
    go_simp
    (try with_reducible rfl)
  simp only [Act.put, List.setIfInBounds_toArray, List.set_cons_zero, List.set_cons_succ]
  refine wpAnyH_take (i := 5) (oi := Oper.mk _ _ _ _ _ _) (v := ?_) rfl (by kernel_rfl) (by kernel_rfl) (by kernel_rfl) (fun _ _ _ h => h) (Or.inl ⟨by rfl, ?_⟩) (by assumption) ?_
  rotate_left
  · intro w' hSw
    (try dsimp only at hSw)
    go_simp
    (try with_reducible rfl)
  simp only [Act.put, List.setIfInBounds_toArray, List.set_cons_zero, List.set_cons_succ]
  refine wpAnyH_take (i := 6) (oi := Oper.mk _ _ _ _ _ _) (v := ?_) rfl (by kernel_rfl) (by kernel_rfl) (by kernel_rfl) (fun _ _ _ h => h) (Or.inl ⟨by rfl, ?_⟩) (by assumption) ?_
  rotate_left
  · intro w' hSw
    (try dsimp only at hSw)
    go_simp
    (try with_reducible rfl)
  simp only [Act.put, List.setIfInBounds_toArray, List.set_cons_zero, List.set_cons_succ]
  refine wpAnyH_take (i := 7) (oi := Oper.mk _ _ _ _ _ _) (v := ?_) rfl (by kernel_rfl) (by kernel_rfl) (by kernel_rfl) (fun _ _ _ h => h) (Or.inl ⟨by rfl, ?_⟩) (by assumption) ?_
  rotate_left
  · intro w' hSw
    (try dsimp only at hSw)
    go_simp
    (try with_reducible rfl)
  simp only [Act.put, List.setIfInBounds_toArray, List.set_cons_zero, List.set_cons_succ]
  refine wpAnyH_take (i := 8) (oi := Oper.mk _ _ _ _ _ _) (v := ?_) rfl (by kernel_rfl) (by kernel_rfl) (by kernel_rfl) (fun _ _ _ h => h) (Or.inl ⟨by rfl, ?_⟩) (by assumption) ?_
  rotate_left
  · intro w' hSw
    (try dsimp only at hSw)
    go_simp
    (try with_reducible rfl)
  simp only [Act.put, List.setIfInBounds_toArray, List.set_cons_zero, List.set_cons_succ]
  refine wpAnyH_take (i := 9) (oi := Oper.mk _ _ _ _ _ _) (v := ?_) rfl (by kernel_rfl) (by kernel_rfl) (by kernel_rfl) (fun _ _ _ h => h) (Or.inl ⟨by rfl, ?_⟩) (by assumption) ?_
  rotate_left
  · intro w' hSw
    (try dsimp only at hSw)
    go_simp
    (try with_reducible rfl)
  simp only [Act.put, List.setIfInBounds_toArray, List.set_cons_zero, List.set_cons_succ]
  refine wpAnyH_take (i := 10) (oi := Oper.mk _ _ _ _ _ _) (v := ?_) rfl (by kernel_rfl) (by kernel_rfl) (by kernel_rfl) (fun _ _ _ h => h) (Or.inl ⟨by rfl, ?_⟩) (by assumption) ?_
  rotate_left
  · intro w' hSw
    (try dsimp only at hSw)
    go_simp
    (try with_reducible rfl)
  simp only [Act.put, List.setIfInBounds_toArray, List.set_cons_zero, List.set_cons_succ]
  refine wpAnyH_take (i := 11) (oi := Oper.mk _ _ _ _ _ _) (v := ?_) rfl (by kernel_rfl) (by kernel_rfl) (by kernel_rfl) (fun _ _ _ h => h) (Or.inl ⟨by rfl, ?_⟩) (by assumption) ?_
  rotate_left
  · intro w' hSw
    (try dsimp only at hSw)
    go_simp
    (try with_reducible rfl)
  simp only [Act.put, List.setIfInBounds_toArray, List.set_cons_zero, List.set_cons_succ]
  refine wpAnyH_take (i := 12) (oi := Oper.mk _ _ _ _ _ _) (v := ?_) rfl (by kernel_rfl) (by kernel_rfl) (by kernel_rfl) (fun _ _ _ h => h) (Or.inl ⟨by rfl, ?_⟩) (by assumption) ?_
  rotate_left
  · intro w' hSw
    (try dsimp only at hSw)
    go_simp
    (try with_reducible rfl)
  simp only [Act.put, List.setIfInBounds_toArray, List.set_cons_zero, List.set_cons_succ]
  refine wpAnyH_take (i := 13) (oi := Oper.mk _ _ _ _ _ _) (v := ?_) rfl (by kernel_rfl) (by kernel_rfl) (by kernel_rfl) (fun _ _ _ h => h) (Or.inl ⟨by rfl, ?_⟩) (by assumption) ?_
  rotate_left
  · intro w' hSw
    (try dsimp only at hSw)
    go_simp
    (try with_reducible rfl)
  simp only [Act.put, List.setIfInBounds_toArray, List.set_cons_zero, List.set_cons_succ]
  refine wpAnyH_take (i := 14) (oi := Oper.mk _ _ _ _ _ _) (v := ?_) rfl (by kernel_rfl) (by kernel_rfl) (by kernel_rfl) (fun _ _ _ h => h) (Or.inl ⟨by rfl, ?_⟩) (by assumption) ?_
  rotate_left
  · intro w' hSw
    (try dsimp only at hSw)
    go_simp
    (try with_reducible rfl)
  simp only [Act.put, List.setIfInBounds_toArray, List.set_cons_zero, List.set_cons_succ]
  refine wpAnyH_take (i := 15) (oi := Oper.mk _ _ _ _ _ _) (v := ?_) rfl (by kernel_rfl) (by kernel_rfl) (by kernel_rfl) (fun _ _ _ h => h) (Or.inl ⟨by rfl, ?_⟩) (by assumption) ?_
  rotate_left
  · intro w' hSw
    (try dsimp only at hSw)
    go_simp
    (try with_reducible rfl)
  simp only [Act.put, List.setIfInBounds_toArray, List.set_cons_zero, List.set_cons_succ]
  refine wpAnyH_take (i := 16) (oi := Oper.mk _ _ _ _ _ _) (v := ?_) rfl (by kernel_rfl) (by kernel_rfl) (by kernel_rfl) (fun _ _ _ h => h) (Or.inl ⟨by rfl, ?_⟩) (by assumption) ?_
  rotate_left
  · intro w' hSw
    (try dsimp only at hSw)
    go_simp
    (try with_reducible rfl)
  simp only [Act.put, List.setIfInBounds_toArray, List.set_cons_zero, List.set_cons_succ]
  refine wpAnyH_take (i := 17) (oi := Oper.mk _ _ _ _ _ _) (v := ?_) rfl (by kernel_rfl) (by kernel_rfl) (by kernel_rfl) (fun _ _ _ h => h) (Or.inl ⟨by rfl, ?_⟩) (by assumption) ?_
  rotate_left
  · intro w' hSw
    (try dsimp only at hSw)
    go_simp
    (try with_reducible rfl)
  simp only [Act.put, List.setIfInBounds_toArray, List.set_cons_zero, List.set_cons_succ]
  refine wpAnyH_take (i := 18) (oi := Oper.mk _ _ _ _ _ _) (v := ?_) rfl (by kernel_rfl) (by kernel_rfl) (by kernel_rfl) (fun _ _ _ h => h) (Or.inl ⟨by rfl, ?_⟩) (by assumption) ?_
  rotate_left
  · intro w' hSw
    (try dsimp only at hSw)
    go_simp
    (try with_reducible rfl)
  simp only [Act.put, List.setIfInBounds_toArray, List.set_cons_zero, List.set_cons_succ]
  refine wpAnyH_take (i := 19) (oi := Oper.mk _ _ _ _ _ _) (v := ?_) rfl (by kernel_rfl) (by kernel_rfl) (by kernel_rfl) (fun _ _ _ h => h) (Or.inl ⟨by rfl, ?_⟩) (by assumption) ?_
  rotate_left
  · intro w' hSw
    (try dsimp only at hSw)
    go_simp
    (try with_reducible rfl)
  simp only [Act.put, List.setIfInBounds_toArray, List.set_cons_zero, List.set_cons_succ]
  refine wpAnyH_take (i := 20) (oi := Oper.mk _ _ _ _ _ _) (v := ?_) rfl (by kernel_rfl) (by kernel_rfl) (by kernel_rfl) (fun _ _ _ h => h) (Or.inl ⟨by rfl, ?_⟩) (by assumption) ?_
  rotate_left
  · intro w' hSw
    (try dsimp only at hSw)
    go_simp
    (try with_reducible rfl)
  simp only [Act.put, List.setIfInBounds_toArray, List.set_cons_zero, List.set_cons_succ]
  refine wpAnyH_take (i := 21) (oi := Oper.mk _ _ _ _ _ _) (v := ?_) rfl (by kernel_rfl) (by kernel_rfl) (by kernel_rfl) (fun _ _ _ h => h) (Or.inl ⟨by rfl, ?_⟩) (by assumption) ?_
  rotate_left
  · intro w' hSw
    (try dsimp only at hSw)
    go_simp
    (try with_reducible rfl)
  simp only [Act.put, List.setIfInBounds_toArray, List.set_cons_zero, List.set_cons_succ]
  refine wpAnyH_take (i := 22) (oi := Oper.mk _ _ _ _ _ _) (v := ?_) rfl (by kernel_rfl) (by kernel_rfl) (by kernel_rfl) (fun _ _ _ h => h) (Or.inl ⟨by rfl, ?_⟩) (by assumption) ?_
  rotate_left
  · intro w' hSw
    (try dsimp only at hSw)
    go_simp
    (try with_reducible rfl)
  simp only [Act.put, List.setIfInBounds_toArray, List.set_cons_zero, List.set_cons_succ]
  refine wpAnyH_take (i := 23) (oi := Oper.mk _ _ _ _ _ _) (v := ?_) rfl (by kernel_rfl) (by kernel_rfl) (by kernel_rfl) (fun _ _ _ h => h) (Or.inl ⟨by rfl, ?_⟩) (by assumption) ?_
  rotate_left
  · intro w' hSw
    (try dsimp only at hSw)
    go_simp
    (try with_reducible rfl)
  simp only [Act.put, List.setIfInBounds_toArray, List.set_cons_zero, List.set_cons_succ]
  refine wpAnyH_take (i := 24) (oi := Oper.mk _ _ _ _ _ _) (v := ?_) rfl (by kernel_rfl) (by kernel_rfl) (by kernel_rfl) (fun _ _ _ h => h) (Or.inl ⟨by rfl, ?_⟩) (by assumption) ?_
  rotate_left
  · intro w' hSw
    (try dsimp only at hSw)
    go_simp
    (try with_reducible rfl)
  simp only [Act.put, List.setIfInBounds_toArray, List.set_cons_zero, List.set_cons_succ]
  refine wpAnyH_take (i := 25) (oi := Oper.mk _ _ _ _ _ _) (v := ?_) rfl (by kernel_rfl) (by kernel_rfl) (by kernel_rfl) (fun _ _ _ h => h) (Or.inl ⟨by rfl, ?_⟩) (by assumption) ?_
  rotate_left
  · intro w' hSw
    (try dsimp only at hSw)
    go_simp
    (try with_reducible rfl)
  simp only [Act.put, List.setIfInBounds_toArray, List.set_cons_zero, List.set_cons_succ]
  refine wpAnyH_take (i := 26) (oi := Oper.mk _ _ _ _ _ _) (v := ?_) rfl (by kernel_rfl) (by kernel_rfl) (by kernel_rfl) (fun _ _ _ h => h) (Or.inl ⟨by rfl, ?_⟩) (by assumption) ?_
  rotate_left
  · intro w' hSw
    (try dsimp only at hSw)
    go_simp
    (try with_reducible rfl)
  simp only [Act.put, List.setIfInBounds_toArray, List.set_cons_zero, List.set_cons_succ]
  refine wpAnyH_take (i := 27) (oi := Oper.mk _ _ _ _ _ _) (v := ?_) rfl (by kernel_rfl) (by kernel_rfl) (by kernel_rfl) (fun _ _ _ h => h) (Or.inl ⟨by rfl, ?_⟩) (by assumption) ?_
  rotate_left
  · intro w' hSw
    (try dsimp only at hSw)
    go_simp
    (try with_reducible rfl)
  simp only [Act.put, List.setIfInBounds_toArray, List.set_cons_zero, List.set_cons_succ]
  have h4 := convert4 w
  have hS2 : ∀ o, DoneS g e v w (w.alloc o).drew := fun o => (hS0.alloc o).drew
  refine wpAnyH_ready (rs := [28]) (by kernel_rfl) (by simp) ?_
  refine AllReadyH.cons (o := Oper.mk _ _ _ _ _ _) rfl (fun K hK => ?_) AllReadyH.nil
  go_simp
  refine hK.out _ _ (hS2 _) (fun hHeld => ?_)
  clear hK K
  refine wpAnyH_ready (rs := [29]) (by kernel_rfl) (by simp) ?_
  refine AllReadyH.cons (o := Oper.mk _ _ _ _ _ _) rfl (fun K hK => ?_) AllReadyH.nil
  go_simp
  refine hK.out _ _ (hS2 _) (fun hHeld => ?_)
  clear hK K
  refine wpAnyH_take (i := 30) (oi := Oper.mk _ _ _ _ _ _) (v := ?_) rfl (by kernel_rfl) (by kernel_rfl) (by kernel_rfl) (fun _ _ _ h => h) (Or.inl ⟨by rfl, ?_⟩) (by assumption) ?_
  rotate_left
  · intro w' hSw
    (try dsimp only at hSw)
    go_simp
    (try with_reducible rfl)
  simp only [Act.put, List.setIfInBounds_toArray, List.set_cons_zero, List.set_cons_succ]
  refine wpAnyH_take (i := 31) (oi := Oper.mk _ _ _ _ _ _) (v := ?_) rfl (by kernel_rfl) (by kernel_rfl) (by kernel_rfl) (fun _ _ _ h => h) (Or.inl ⟨by rfl, ?_⟩) (by assumption) ?_
  rotate_left
  · intro w' hSw
    (try dsimp only at hSw)
    go_simp
    (try with_reducible rfl)
  simp only [Act.put, List.setIfInBounds_toArray, List.set_cons_zero, List.set_cons_succ]
  refine wpAnyH_done (by kernel_rfl) (NoPanic.normal ?_) _
  rw [HA2.out]
  have hz0 := hz _ (hS2 (.cells #[.int .u8 (IntKind.u8.wrap (e.low / 16777216)), .int .u8 (IntKind.u8.wrap (e.low / 65536)), .int .u8 (IntKind.u8.wrap (e.low / 256)), .int .u8 (IntKind.u8.wrap e.low)] 5))
  have hb0 := (hS2 (.cells #[.int .u8 (IntKind.u8.wrap (e.low / 16777216)), .int .u8 (IntKind.u8.wrap (e.low / 65536)), .int .u8 (IntKind.u8.wrap (e.low / 256)), .int .u8 (IntKind.u8.wrap e.low)] 5)).2.2
  generalize (w.alloc (.cells #[.int .u8 (IntKind.u8.wrap (e.low / 16777216)), .int .u8 (IntKind.u8.wrap (e.low / 65536)), .int .u8 (IntKind.u8.wrap (e.low / 256)), .int .u8 (IntKind.u8.wrap e.low)] 5)).drew = w2 at hz0 hb0 ⊢
  clear hHeld hS2 h4 hc hz ho hl hA3 HA2 hS1 hS0
  by_cases hfit : N ≤ n
  · have hrep : ∀ w, Calls Tryz.prog 121 #[.string ⟨#[0]⟩, .int .i64 ((n : Int) - N)] w fun e w' => e = .returned (.string ⟨(Lib.repeatL [0] (n - N)).toArray⟩) ∧ Below w.heap.size w w' := by
      intro w
      have h := Tryz.strings_Repeat ⟨#[0]⟩ (n - N) w (by omega) (by simp [ByteArray.size]; omega)
      rw [show ((n - N : Nat) : Int) = (n : Int) - N from by omega] at h
      exact h
    have hsz : ¬ 9223372036854775807 < TS.size + (⟨(Lib.repeatL [0] (n - N)).toArray⟩ : ByteArray).size := by
      rw [hN]; simp only [ByteArray.size, List.size_toArray, Lib.repeatL_length]; simp; omega
    have hfin : TS ++ ⟨(Lib.repeatL [0] (n - N)).toArray⟩ = Sp.fitS A n := by
      rw [← hTS, ← hN2]; exact Sp.fitS_text hall (by omega)
    have hok : Sp.fitOk A n = true := by rw [Sp.fitOk, decide_eq_true (by omega)]
    go_wp2_with (first | (go_at_call 120; refine (htrim _).mono ?_; rintro e w' ⟨rfl, rfl⟩) | (go_at_call 121; refine (hrep _).mono ?_; rintro e w' ⟨rfl, hrb⟩))
    all_goals
      go_ret2
      exact ⟨rfl, hb0.trans (hrb.mono (by have := hb0.size; omega))⟩
  · have hok : Sp.fitOk A n = false := by rw [Sp.fitOk, decide_eq_false (by omega)]
    have hno : Sp.fitS A n = ⟨#[]⟩ := Sp.fitS_no (by omega)
    go_wp2_with (first | (go_at_call 120; refine (htrim _).mono ?_; rintro e w' ⟨rfl, rfl⟩))
    all_goals
      go_ret2
      exact ⟨rfl, hb0⟩
end Go.Proofs.YthpjkgpngbdhbaaGreatDoor
