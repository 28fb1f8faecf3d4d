/- The walks of package mdct: the kernel, sums, the way back. -/
import Derived.Test.YtnohjidoelohkaaDoorAng2
namespace Go.Proofs.YtnohjidoelohkaaDoor
open Go.RowKit

/-- Numbers written into a row, one by one. -/
theorem putL_cons (l : List Int) (p : Nat) (x : Int) (c : List Int) (h : p < l.length) : putL (l.set p x) (p + 1) c = putL l p (x :: c) := by
  unfold putL
  rw [List.take_add_one, List.take_set, List.set_eq_of_length_le (by simp; omega), List.getElem?_set_self h, List.drop_set, if_pos (by omega)]
  simp only [Option.toList_some, List.length_cons, List.append_assoc, List.cons_append, List.nil_append]
  rw [show p + 1 + c.length = p + (c.length + 1) by omega]
theorem putL_nil (l : List Int) (p : Nat) : putL l p [] = l := by simp [putL]
theorem put_fold : ∀ (c l : List Int) (off s : Nat), off + s + c.length ≤ l.length → ((intsV c).zipIdx s).foldl (fun cs (p : Value × Nat) => cs.setIfInBounds (off + p.2) p.1) (arrV l) = arrV (putL l (off + s) c) := by
  intro c
  induction c with
  | nil => intro l off s _; rw [putL_nil]; rfl
  | cons x c ih =>
    intro l off s h
    simp only [List.length_cons] at h
    simp only [intsV, List.map_cons, List.zipIdx_cons, List.foldl_cons]
    rw [arr_set, ih _ off (s + 1) (by rw [List.length_set]; omega), ← putL_cons _ _ _ _ (by omega)]
    rfl
/-- A part of a struct or an array: numbers. -/
theorem fill_ints {place : Nat → Option (Nat × Nat)} {l c : List Int} {rest : List (Nat × Value)} {i off size : Nat} (hp : place i = some (off, size)) (hs : c.length = size) (hl : off + size ≤ l.length) :
    Instr.fill place (arrV l) ((i, .agg (arrV c)) :: rest) = Instr.fill place (arrV (putL l off c)) rest := by
  have h := put_fold c l off 0 (by omega)
  simp only [Nat.add_zero] at h
  have hz : (arrV c).size = size := by rw [arr_size, hs]
  have e : ((arrV c).zipIdx.foldl (fun (cs : Array Value) (p : Value × Nat) => cs.setIfInBounds (off + p.2) p.1) (arrV l)) = arrV (putL l off c) := by
    rw [← h, ← Array.foldl_toList]
    simp [arrV]
  have hn : ¬ (c.length ≠ size ∨ off + c.length > l.length) := by omega
  simp only [Instr.fill, hp, Value.cells]
  rw [← e]
  simp [hs]
  omega
theorem fill_int {place : Nat → Option (Nat × Nat)} {l : List Int} {x : Int} {rest : List (Nat × Value)} {i off : Nat} (hp : place i = some (off, 1)) (hl : off + 1 ≤ l.length) :
    Instr.fill place (arrV l) ((i, .int .i64 x) :: rest) = Instr.fill place (arrV (putL l off [x])) rest := by
  rw [← fill_ints (rest := rest) hp (c := [x]) rfl hl]
  simp [Instr.fill, hp, Value.cells]
theorem built_struct {t : TypeId} {it : TypeInfo} {z : Value} {fs : Array Field} {places : List (Nat × Nat)} (hi : Tryd.prog.info? t = some it) (hu : Tryd.prog.underlying t = some (.struct fs)) (hz : it.zero = some z)
    (hp : fs.toList.mapM (fun f => (Tryd.prog.info? f.type).map fun i => (f.offset, i.size)) = some places) (parts : List (Nat × Value)) : Tryd.prog.built t parts = Instr.fill (places.toArray[·]?) z.cells parts := by
  unfold Program.built
  simp only [hi, hu, hz, hp]
theorem wpList_build_l {ops : Array Oper} {rest : List Oper} {op : Oper} {a : Act} {w : World} {Q : Exit → Act → World → Prop} (hgd : op.guard = none) (t : TypeId) (parts : Array (Nat × Operand)) (ho : op.op = .build t parts)
    (vs : List (Nat × Value)) (hv : parts.toList.map (fun p => (p.1, a.eval p.2)) = vs) (cells : Array Value) (hb : Tryd.prog.built t vs = some cells)
    (h : wpList Tryd.prog ops Q rest (a.put op.dst (.agg cells)) w) : wpList Tryd.prog ops Q (op :: rest) a w :=
  wpList_plain hgd fun _ hK => by
    have hv2 : (parts.map fun (i, x) => (i, a.eval x)).toList = vs := by rw [Array.toList_map]; exact hv
    subst hv2
    unfold Oper.wp execOp
    simp only [ho, Sem.run_bind, run_build w t _ cells hb, Result.andThen_ok]
    exact hK _ _ h
/-- The kernel's cells: cosines, then the window. -/
def kerL : List Int := cosTab ++ winTab
theorem kerL_len : kerL.length = 160 := by simp [kerL, cosTab_len, winTab_len]
set_option maxRecDepth 100000 in
theorem kernel_built : Tryd.prog.built 87 [(0, .agg (arrV cosTab)), (1, .agg (arrV winTab))] = some (arrV kerL) := by
  obtain ⟨it, hi, z, hz, hzc, fs, hu, hp⟩ : ∃ it, Tryd.prog.info? 87 = some it ∧ ∃ z, it.zero = some z ∧ z.cells = arrV (List.replicate 160 0) ∧ ∃ fs, Tryd.prog.underlying 87 = some (.struct fs) ∧ fs.toList.mapM (fun f => (Tryd.prog.info? f.type).map fun i => (f.offset, i.size)) = some [(0, 128), (128, 32)] :=
    ⟨_, rfl, _, rfl, by kernel_rfl, _, Tryd.underlying87, by kernel_rfl⟩
  rw [built_struct hi hu hz hp, hzc, fill_ints (off := 0) (size := 128) rfl cosTab_len (by simp), fill_ints (off := 128) (size := 32) rfl winTab_len (by rw [putL_len] <;> simp [cosTab_len])]
  simp only [Instr.fill]
  congr 2
set_option maxRecDepth 100000 in
set_option maxHeartbeats 800000 in
theorem made_any (w : World) : Calls Tryd.prog 43 #[] w fun e w' => ∃ g, w.heap.size ≤ g ∧ e = .returned (.pointer (some ⟨g, 0, none⟩)) ∧ Blk w' g (arrV kerL) 87 ∧ Below w.heap.size w w' := by
  have HKB := Lib.hid kernel_built
  go_enter Tryd.func43, Tryd.ntmps43
  go_wp2_with fail
  refine (Table_any _).mono ?_
  rintro e w1 ⟨rfl, hb1⟩
  go_wp2_with fail
  refine (Window_any _).mono ?_
  rintro e w2 ⟨rfl, hb2⟩
  have hb := hb1.trans (hb2.mono hb1.size)
  have hs := hb.size
  go_wp2_with (first | (refine wpList_build_l rfl 87 #[(0, .tmp 1), (1, .tmp 2)] rfl [(0, .agg (arrV cosTab)), (1, .agg (arrV winTab))] rfl (arrV kerL) HKB.out ?_))
  go_ret
  exact ⟨_, hs, rfl, Blk.new _ _ _, hb.alloc hs _⟩
theorem kerL_cos {u : Nat} (h : u < 128) : (arrV kerL)[u]? = some (.int .i64 (cosTab.getD u 0)) := by
  rw [arr_get (by rw [kerL_len]; omega)]
  congr 2
  unfold kerL
  rw [List.getD_eq_getElem?_getD, List.getElem?_append_left (by rw [cosTab_len]; exact h), List.getD_eq_getElem?_getD]
theorem kerL_win {u : Nat} (h : u < 32) : (arrV kerL)[128 + u]? = some (.int .i64 (winTab.getD u 0)) := by
  rw [arr_get (by rw [kerL_len]; omega)]
  congr 2
  unfold kerL
  rw [List.getD_eq_getElem?_getD, List.getElem?_append_right (by rw [cosTab_len]; omega), List.getD_eq_getElem?_getD, cosTab_len, Nat.add_sub_cancel_left]
set_option maxHeartbeats 800000 in
theorem at_any (g n k : Nat) (hn : n < 32) (hk : k < 16) (w : World) (hB : Blk w g (arrV kerL) 87) : Calls Tryd.prog 46 #[.pointer (some ⟨g, 0, none⟩), .int .i64 n, .int .i64 k] w fun e w' => e = .returned (.int .i64 (kerAt n k)) ∧ w = w' := by
  obtain ⟨u, hu⟩ : ∃ u, (2 * n + 17) * (2 * k + 1) % 128 = u := ⟨_, rfl⟩
  have hu128 : u < 128 := by omega
  have hprod : (2 * (n : Int) + 17) * (2 * k + 1) = (((2 * n + 17) * (2 * k + 1) : Nat) : Int) := by push_cast; rfl
  have hpb : (2 * n + 17) * (2 * k + 1) ≤ 100 * 100 := Nat.mul_le_mul (by omega) (by omega)
  have hm : ((2 * (n : Int) + 1 + 16) * (2 * k + 1)).tmod 128 = (u : Int) := by
    rw [show 2 * (n : Int) + 1 + 16 = 2 * n + 17 by omega, hprod, Int.tmod_eq_emod_of_nonneg (by omega), ← hu]; omega
  have hp0 : (0 : Int) ≤ (2 * (n : Int) + 1 + 16) * (2 * k + 1) := by rw [show 2 * (n : Int) + 1 + 16 = 2 * n + 17 by omega, hprod]; omega
  have hp1 : (2 * (n : Int) + 1 + 16) * (2 * k + 1) ≤ 10000 := by rw [show 2 * (n : Int) + 1 + 16 = 2 * n + 17 by omega, hprod]; omega
  have c0 := (hB.cell u).trans (kerL_cos hu128)
  have hK : kerAt n k = cosTab.getD u 0 := by unfold kerAt; rw [hu]
  rw [hK]
  obtain ⟨x, hx⟩ : ∃ x, cosTab.getD u 0 = x := ⟨_, rfl⟩
  rw [hx] at c0 ⊢
  clear hx hK hprod hpb hu
  go_enter Tryd.func46, Tryd.ntmps46
  go_wp2
  go_ret
  exact ⟨rfl, rfl⟩
set_option maxHeartbeats 1600000 in
theorem msum_any (f : FuncId) (p1 p2 p3 : Value) (n : Nat) (hn : n ≤ 1000) (F : Nat → Int) (hF : ∀ k, -1125899906842624 ≤ F k ∧ F k ≤ 1125899906842624) (I : World → Prop) (hI : ∀ w w', I w → Below w.heap.size w w' → I w') (w : World) (hw : I w)
    (hcf : ∀ (x : Int) (w : World), (callFunc f #[.int .i64 x, p1, p2, p3]).run Tryd.prog w = .ok (.enter f #[.int .i64 x, p1, p2, p3]) w)
    (hf : ∀ k < n, ∀ w, I w → Calls Tryd.prog f #[.int .i64 (k : Nat), p1, p2, p3] w fun e w' => e = .returned (.int .i64 (F k)) ∧ Below w.heap.size w w') :
    Calls Tryd.prog 44 #[.int .i64 n, .func (.func f) #[] #[p1, p2, p3]] w fun e w' => e = .returned (.int .i64 (sumF F n)) ∧ Below w.heap.size w w' := by
  have hbd := fun m => sumF_bd hF m
  have HF := Lib.hid hf
  have HB := Lib.hid hbd
  have HI := Lib.hid hI
  clear hf hF hbd hI
  go_enter Tryd.func44, Tryd.ntmps44
  go_wp2_with fail
  go_loopw [5, 8] (fun o i wr => ∃ k : Nat, k ≤ n ∧ i = .int .i64 k ∧ o = .int .i64 (sumF F k) ∧ I wr ∧ Below w.heap.size w wr) (fun o i _ => n - (intOf i).toNat)
  case atStart => exact ⟨0, by omega, rfl, rfl, hw, Below.refl _ _⟩
  case round =>
    obtain ⟨k, hk, rfl, rfl, hIw, hb⟩ := hrel
    by_cases hlt : k < n
    · have hcall := HF.out k hlt _ hIw
      have h1 := HB.out k
      have h2 := HB.out (k + 1)
      have hs : sumF F (k + 1) = sumF F k + F k := rfl
      rw [hs] at h2
      have HS := Lib.hid hs
      obtain ⟨S, hS⟩ : ∃ S, sumF F k = S := ⟨_, rfl⟩
      obtain ⟨y, hy⟩ : ∃ y, F k = y := ⟨_, rfl⟩
      rw [hS] at h1 h2 HS
      rw [hy] at h2 hcall HS
      rw [hS]
      have hk1 : ((k + 1 : Nat) : Int) ≤ 1000 := by omega
      have hkk : (k : Int) ≤ 1000 := by omega
      have s0 : -1125899906842624000 ≤ S := by omega
      have s1 : S ≤ 1125899906842624000 := by omega
      have s2 : -1125899906842624000 ≤ S + y := by omega
      have s3 : S + y ≤ 1125899906842624000 := by omega
      clear hs hS hy h1 h2
      go_wp2_with fail
      refine hcall.mono ?_
      rintro e w1 ⟨rfl, hb1⟩
      have hIw1 := HI.out _ _ hIw hb1
      have hbb := hb.trans (hb1.mono hb.size)
      go_wp2_with fail
      go_roundw
      case rel => exact ⟨k + 1, hlt, by go_num, by rw [HS.out], hIw1, hbb⟩
      case measure => simp [intOf]; omega
    · obtain rfl : k = n := by omega
      go_wp2_with fail
      go_ret
      exact ⟨rfl, hb⟩
end Go.Proofs.YtnohjidoelohkaaDoor
