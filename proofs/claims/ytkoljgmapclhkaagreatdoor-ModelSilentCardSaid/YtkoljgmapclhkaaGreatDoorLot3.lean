/- The walks of angle.Table and angle.Window: tables of cosines. The walks of package mdct: the kernel, sums, the way back. The walk of mdct.Back: the way back. The walks of package tilt: samples one by one, laid down, cut to sound. The walks of tilt.Lay and tilt.Sound. -/
import Derived.Test.YtkoljgmapclhkaaGreatDoorLot1
import Derived.Test.YtkoljgmapclhkaaGreatDoorLot2
import Derived.Deep.Cut
set_option linter.unusedSimpArgs false
set_option linter.unusedVariables false
namespace Go.Proofs.YtkoljgmapclhkaaGreatDoor
open Go.RowKit

/-- The first k of n numbers are F's, the others 0. -/
def filled (F : Nat → Int) (n k : Nat) : List Int := (List.range n).map fun i => if i < k then F i else 0
theorem filled_len (F : Nat → Int) (n k : Nat) : (filled F n k).length = n := by simp [filled]
theorem filled_zero (F : Nat → Int) (n : Nat) : filled F n 0 = List.replicate n 0 := by
  apply List.ext_getElem
  · simp [filled]
  · intro i h1 h2; simp [filled]
theorem filled_all (F : Nat → Int) (n : Nat) : filled F n n = (List.range n).map F := by
  apply List.ext_getElem
  · simp [filled]
  · intro i h1 h2
    simp [filled] at h1 ⊢
    omega
theorem filled_set (F : Nat → Int) (n k : Nat) : (filled F n k).set k (F k) = filled F n (k + 1) := by
  apply List.ext_getElem
  · simp [filled]
  · intro i h1 h2
    simp only [filled, List.getElem_set, List.getElem_map, List.getElem_range]
    split
    · subst_vars; simp
    · rename_i h
      by_cases hi : i < k
      · rw [if_pos hi, if_pos (by omega)]
      · rw [if_neg hi, if_neg (by omega)]
theorem filled_get (F : Nat → Int) (n k : Nat) (h : k < n) : ∃ v : Value, (arrV (filled F n k))[k]? = some v := ⟨_, arr_get (by rw [filled_len]; exact h)⟩
/-- A row of numbers of which some are filled, and a result that isn't yet. -/
structure FillW (w wr : World) (B : Nat) (t : TypeId) (F : Nat → Int) (n k : Nat) : Prop where
  res : Blk wr B (arrV (List.replicate n 0)) t
  out : Blk wr (B + 1) (arrV (filled F n k)) t
  far : Below w.heap.size w wr
theorem FillW.put {w wr : World} {B : Nat} {t : TypeId} {F : Nat → Int} {n k : Nat} (h : FillW w wr B t F n k) (hB : w.heap.size ≤ B) (x : Int) (hx : x = F k) : FillW w (wr.setCell ⟨B + 1, k, none⟩ (.int .i64 x)) B t F n (k + 1) :=
  ⟨h.res.other (by simp only []; omega) _, by subst hx; rw [← filled_set, ← arr_set]; exact h.out.set k _, h.far.setCell (by show w.heap.size ≤ B + 1; omega) _⟩
theorem zero128 : Tryz.zeroCells149 = arrV (List.replicate 128 0) := by kernel_rfl
theorem zero32 : (#[.int .i64 0, .int .i64 0, .int .i64 0, .int .i64 0, .int .i64 0, .int .i64 0, .int .i64 0, .int .i64 0, .int .i64 0, .int .i64 0, .int .i64 0, .int .i64 0, .int .i64 0, .int .i64 0, .int .i64 0, .int .i64 0, .int .i64 0, .int .i64 0, .int .i64 0, .int .i64 0, .int .i64 0, .int .i64 0, .int .i64 0, .int .i64 0, .int .i64 0, .int .i64 0, .int .i64 0, .int .i64 0, .int .i64 0, .int .i64 0, .int .i64 0, .int .i64 0] : Array Value) = arrV (List.replicate 32 0) := by kernel_rfl
theorem a128Info : (Tryz.prog.info? 149).map (·.size) = some 128 := by kernel_rfl
theorem a32Info : (Tryz.prog.info? 150).map (·.size) = some 32 := by kernel_rfl
set_option maxRecDepth 100000 in
set_option maxHeartbeats 1600000 in
theorem Table_any (w : World) : Calls Tryz.prog 143 #[] w fun e w' => e = .returned (.agg (arrV cosTab)) ∧ Below w.heap.size w w' := by
  have h0 : FillW w ((w.alloc (.cells Tryz.zeroCells149 149)).alloc (.cells Tryz.zeroCells149 149)) w.heap.size 149 (fun u => Sp.cosV (u : Nat)) 128 0 := by
    refine ⟨?_, ?_, ((Below.refl _ _).alloc (Nat.le_refl _) _).alloc (by simp) _⟩
    · rw [← zero128]; exact (Blk.new _ _ _).alloc _
    · rw [filled_zero, ← zero128]
      have h := Blk.new (w.alloc (.cells Tryz.zeroCells149 149)) Tryz.zeroCells149 149
      rw [World.size_alloc] at h
      exact h
  have hcos := fun (k : Nat) w => Cos_any (k : Nat) w
  obtain ⟨F, hF⟩ : ∃ F : Nat → Int, (fun u : Nat => Sp.cosV (u : Nat)) = F := ⟨_, rfl⟩
  rw [hF] at h0
  have hFk : ∀ k : Nat, Sp.cosV (k : Nat) = F k := fun k => by rw [← hF]
  simp only [hFk] at hcos
  have HT := Lib.hid (show cosTab = (List.range 128).map F by rw [← hF]; rfl)
  have HC := Lib.hid hcos
  clear hcos hFk hF
  obtain ⟨B, hB⟩ : ∃ B, w.heap.size = B := ⟨_, rfl⟩
  go_enter Tryz.func143, Tryz.ntmps143
  go_upto_region 2 with (fail)
  revert h0
  simp only [hB]
  generalize ((w.alloc (.cells Tryz.zeroCells149 149)).alloc (.cells Tryz.zeroCells149 149)) = w0
  intro h0
  go_wp2_with fail
  go_loopw [3] (fun i wr => ∃ k : Nat, k ≤ 128 ∧ i = .int .i64 k ∧ FillW w wr B 149 F 128 k) (fun i _ => 128 - (intOf i).toNat)
  case atStart => exact ⟨0, by omega, rfl, h0⟩
  case round =>
    obtain ⟨k, hk, rfl, hW⟩ := hrel
    by_cases hlt : k < 128
    · obtain ⟨v0, hv0⟩ := filled_get F 128 k hlt
      have c1 := (hW.out.cell k).trans hv0
      have f1 := hW.out.frozen k
      have hcall := HC.out k
      have hP := hW.put (by omega) (F k) rfl
      go_wp2_with fail
      refine (hcall _).mono ?_
      rintro e w1 ⟨rfl, rfl⟩
      go_wp2_with fail
      go_roundw
      case rel => exact ⟨k + 1, hlt, by go_num, hP⟩
      case measure => simp [intOf]; omega
    · obtain rfl : k = 128 := by omega
      have ho := hW.out
      rw [filled_all, ← HT.out] at ho
      have hr := hW.res
      have hsz : (Tryz.prog.info? 149).map (·.size) = some (arrV cosTab).size := by rw [arr_size, cosTab_len]; exact a128Info
      have hsz2 : (arrV (List.replicate 128 0)).size = (arrV cosTab).size := by rw [arr_size, arr_size, cosTab_len]; simp
      have hfar := Below.setRow hW.far (g := B) (by omega) (arrV cosTab)
      go_wp2_with (first | (refine wpList_load_blk rfl 149 (.tmp 1) rfl (B + 1) rfl (arrV cosTab) 149 ho Tryz.underlying149 hsz ?_) | (refine wpList_store_blk rfl 149 (.tmp 0) (.tmp 11) rfl B _ (arrV cosTab) rfl rfl 149 hr hsz hsz2 (arr_one _) ?_))
      (try rw [Exit.noGoto_ret])
      exact bodyPost_ret (v := .agg (arrV cosTab)) (results_cell_row Tryz.results143 _ _ B 149 _ (0, 0) (.array 128 3) rfl (hr.setRow (new := arrV cosTab)) Tryz.underlying149 rfl hsz) rfl ⟨rfl, hB ▸ hfar⟩
set_option maxRecDepth 100000 in
set_option maxHeartbeats 1600000 in
theorem Window_any (w : World) : Calls Tryz.prog 144 #[] w fun e w' => e = .returned (.agg (arrV winTab)) ∧ Below w.heap.size w w' := by
  have h0 : FillW w ((w.alloc (.cells #[.int .i64 0, .int .i64 0, .int .i64 0, .int .i64 0, .int .i64 0, .int .i64 0, .int .i64 0, .int .i64 0, .int .i64 0, .int .i64 0, .int .i64 0, .int .i64 0, .int .i64 0, .int .i64 0, .int .i64 0, .int .i64 0, .int .i64 0, .int .i64 0, .int .i64 0, .int .i64 0, .int .i64 0, .int .i64 0, .int .i64 0, .int .i64 0, .int .i64 0, .int .i64 0, .int .i64 0, .int .i64 0, .int .i64 0, .int .i64 0, .int .i64 0, .int .i64 0] 150)).alloc (.cells #[.int .i64 0, .int .i64 0, .int .i64 0, .int .i64 0, .int .i64 0, .int .i64 0, .int .i64 0, .int .i64 0, .int .i64 0, .int .i64 0, .int .i64 0, .int .i64 0, .int .i64 0, .int .i64 0, .int .i64 0, .int .i64 0, .int .i64 0, .int .i64 0, .int .i64 0, .int .i64 0, .int .i64 0, .int .i64 0, .int .i64 0, .int .i64 0, .int .i64 0, .int .i64 0, .int .i64 0, .int .i64 0, .int .i64 0, .int .i64 0, .int .i64 0, .int .i64 0] 150)) w.heap.size 150 (fun u => Sp.sinV (2 * (u : Nat) + 1)) 32 0 := by
    refine ⟨?_, ?_, ((Below.refl _ _).alloc (Nat.le_refl _) _).alloc (by simp) _⟩
    · rw [← zero32]; exact (Blk.new _ _ _).alloc _
    · rw [filled_zero, ← zero32]
      have h := Blk.new (w.alloc (.cells #[.int .i64 0, .int .i64 0, .int .i64 0, .int .i64 0, .int .i64 0, .int .i64 0, .int .i64 0, .int .i64 0, .int .i64 0, .int .i64 0, .int .i64 0, .int .i64 0, .int .i64 0, .int .i64 0, .int .i64 0, .int .i64 0, .int .i64 0, .int .i64 0, .int .i64 0, .int .i64 0, .int .i64 0, .int .i64 0, .int .i64 0, .int .i64 0, .int .i64 0, .int .i64 0, .int .i64 0, .int .i64 0, .int .i64 0, .int .i64 0, .int .i64 0, .int .i64 0] 150)) #[.int .i64 0, .int .i64 0, .int .i64 0, .int .i64 0, .int .i64 0, .int .i64 0, .int .i64 0, .int .i64 0, .int .i64 0, .int .i64 0, .int .i64 0, .int .i64 0, .int .i64 0, .int .i64 0, .int .i64 0, .int .i64 0, .int .i64 0, .int .i64 0, .int .i64 0, .int .i64 0, .int .i64 0, .int .i64 0, .int .i64 0, .int .i64 0, .int .i64 0, .int .i64 0, .int .i64 0, .int .i64 0, .int .i64 0, .int .i64 0, .int .i64 0, .int .i64 0] 150
      rw [World.size_alloc] at h
      exact h
  have hcos := fun (k : Nat) w => Sin_any (2 * (k : Nat) + 1) w
  obtain ⟨F, hF⟩ : ∃ F : Nat → Int, (fun u : Nat => Sp.sinV (2 * (u : Nat) + 1)) = F := ⟨_, rfl⟩
  rw [hF] at h0
  have hFk : ∀ k : Nat, Sp.sinV (2 * (k : Nat) + 1) = F k := fun k => by rw [← hF]
  simp only [hFk] at hcos
  have HT := Lib.hid (show winTab = (List.range 32).map F by rw [← hF]; rfl)
  have HC := Lib.hid hcos
  clear hcos hFk hF
  obtain ⟨B, hB⟩ : ∃ B, w.heap.size = B := ⟨_, rfl⟩
  go_enter Tryz.func144, Tryz.ntmps144
  go_upto_region 2 with (fail)
  revert h0
  simp only [hB]
  generalize ((w.alloc (.cells #[.int .i64 0, .int .i64 0, .int .i64 0, .int .i64 0, .int .i64 0, .int .i64 0, .int .i64 0, .int .i64 0, .int .i64 0, .int .i64 0, .int .i64 0, .int .i64 0, .int .i64 0, .int .i64 0, .int .i64 0, .int .i64 0, .int .i64 0, .int .i64 0, .int .i64 0, .int .i64 0, .int .i64 0, .int .i64 0, .int .i64 0, .int .i64 0, .int .i64 0, .int .i64 0, .int .i64 0, .int .i64 0, .int .i64 0, .int .i64 0, .int .i64 0, .int .i64 0] 150)).alloc (.cells #[.int .i64 0, .int .i64 0, .int .i64 0, .int .i64 0, .int .i64 0, .int .i64 0, .int .i64 0, .int .i64 0, .int .i64 0, .int .i64 0, .int .i64 0, .int .i64 0, .int .i64 0, .int .i64 0, .int .i64 0, .int .i64 0, .int .i64 0, .int .i64 0, .int .i64 0, .int .i64 0, .int .i64 0, .int .i64 0, .int .i64 0, .int .i64 0, .int .i64 0, .int .i64 0, .int .i64 0, .int .i64 0, .int .i64 0, .int .i64 0, .int .i64 0, .int .i64 0] 150)) = w0
  intro h0
  go_wp2_with fail
  go_loopw [3] (fun i wr => ∃ k : Nat, k ≤ 32 ∧ i = .int .i64 k ∧ FillW w wr B 150 F 32 k) (fun i _ => 32 - (intOf i).toNat)
  case atStart => exact ⟨0, by omega, rfl, h0⟩
  case round =>
    obtain ⟨k, hk, rfl, hW⟩ := hrel
    by_cases hlt : k < 32
    · obtain ⟨v0, hv0⟩ := filled_get F 32 k hlt
      have c1 := (hW.out.cell k).trans hv0
      have f1 := hW.out.frozen k
      have hcall := HC.out k
      have hP := hW.put (by omega) (F k) rfl
      go_wp2_with fail
      refine (hcall _).mono ?_
      rintro e w1 ⟨rfl, rfl⟩
      go_wp2_with fail
      go_roundw
      case rel => exact ⟨k + 1, hlt, by go_num, hP⟩
      case measure => simp [intOf]; omega
    · obtain rfl : k = 32 := by omega
      have ho := hW.out
      rw [filled_all, ← HT.out] at ho
      have hr := hW.res
      have hsz : (Tryz.prog.info? 150).map (·.size) = some (arrV winTab).size := by rw [arr_size, winTab_len]; exact a32Info
      have hsz2 : (arrV (List.replicate 32 0)).size = (arrV winTab).size := by rw [arr_size, arr_size, winTab_len]; simp
      have hfar := Below.setRow hW.far (g := B) (by omega) (arrV winTab)
      go_wp2_with (first | (refine wpList_load_blk rfl 150 (.tmp 1) rfl (B + 1) rfl (arrV winTab) 150 ho Tryz.underlying150 hsz ?_) | (refine wpList_store_blk rfl 150 (.tmp 0) (.tmp 13) rfl B _ (arrV winTab) rfl rfl 150 hr hsz hsz2 (arr_one _) ?_))
      (try rw [Exit.noGoto_ret])
      exact bodyPost_ret (v := .agg (arrV winTab)) (results_cell_row Tryz.results144 _ _ B 150 _ (0, 0) (.array 32 3) rfl (hr.setRow (new := arrV winTab)) Tryz.underlying150 rfl hsz) rfl ⟨rfl, hB ▸ hfar⟩
end Go.Proofs.YtkoljgmapclhkaaGreatDoor

namespace Go.Proofs.YtkoljgmapclhkaaGreatDoor
open Go.RowKit

/-- Numbers written into a row, one by one. -/
theorem putL_cons (l : List Int) (p : Nat) (x : Int) (c : List Int) (h : p < l.length) : putL (l.set p x) (p + 1) c = putL l p (x :: c) := by
  unfold putL
  rw [List.take_add_one, List.take_set, List.set_eq_of_length_le (by simp; omega), List.getElem?_set_self h, List.drop_set, if_pos (by omega)]
  simp only [Option.toList_some, List.length_cons, List.append_assoc, List.cons_append, List.nil_append]
  rw [show p + 1 + c.length = p + (c.length + 1) by omega]
theorem putL_nil (l : List Int) (p : Nat) : putL l p [] = l := by simp [putL]
theorem put_fold : ∀ (c l : List Int) (off s : Nat), off + s + c.length ≤ l.length → ((intsV c).zipIdx s).foldl (fun cs (p : Value × Nat) => cs.setIfInBounds (off + p.2) p.1) (arrV l) = arrV (putL l (off + s) c) := by
  intro c
  induction c with
  | nil => intro l off s _; rw [putL_nil]; rfl
  | cons x c ih =>
    intro l off s h
    simp only [List.length_cons] at h
    simp only [intsV, List.map_cons, List.zipIdx_cons, List.foldl_cons]
    rw [arr_set, ih _ off (s + 1) (by rw [List.length_set]; omega), ← putL_cons _ _ _ _ (by omega)]
    rfl
/-- A part of a struct or an array: numbers. -/
theorem fill_ints {place : Nat → Option (Nat × Nat)} {l c : List Int} {rest : List (Nat × Value)} {i off size : Nat} (hp : place i = some (off, size)) (hs : c.length = size) (hl : off + size ≤ l.length) :
    Instr.fill place (arrV l) ((i, .agg (arrV c)) :: rest) = Instr.fill place (arrV (putL l off c)) rest := by
  have h := put_fold c l off 0 (by omega)
  simp only [Nat.add_zero] at h
  have hz : (arrV c).size = size := by rw [arr_size, hs]
  have e : ((arrV c).zipIdx.foldl (fun (cs : Array Value) (p : Value × Nat) => cs.setIfInBounds (off + p.2) p.1) (arrV l)) = arrV (putL l off c) := by
    rw [← h, ← Array.foldl_toList]
    simp [arrV]
  have hn : ¬ (c.length ≠ size ∨ off + c.length > l.length) := by omega
  simp only [Instr.fill, hp, Value.cells]
  rw [← e]
  simp [hs]
  omega
theorem fill_int {place : Nat → Option (Nat × Nat)} {l : List Int} {x : Int} {rest : List (Nat × Value)} {i off : Nat} (hp : place i = some (off, 1)) (hl : off + 1 ≤ l.length) :
    Instr.fill place (arrV l) ((i, .int .i64 x) :: rest) = Instr.fill place (arrV (putL l off [x])) rest := by
  rw [← fill_ints (rest := rest) hp (c := [x]) rfl hl]
  simp [Instr.fill, hp, Value.cells]
theorem built_struct {t : TypeId} {it : TypeInfo} {z : Value} {fs : Array Field} {places : List (Nat × Nat)} (hi : Tryz.prog.info? t = some it) (hu : Tryz.prog.underlying t = some (.struct fs)) (hz : it.zero = some z)
    (hp : fs.toList.mapM (fun f => (Tryz.prog.info? f.type).map fun i => (f.offset, i.size)) = some places) (parts : List (Nat × Value)) : Tryz.prog.built t parts = Instr.fill (places.toArray[·]?) z.cells parts := by
  unfold Program.built
  simp only [hi, hu, hz, hp]
theorem wpList_build_l {ops : Array Oper} {rest : List Oper} {op : Oper} {a : Act} {w : World} {Q : Exit → Act → World → Prop} (hgd : op.guard = none) (t : TypeId) (parts : Array (Nat × Operand)) (ho : op.op = .build t parts)
    (vs : List (Nat × Value)) (hv : parts.toList.map (fun p => (p.1, a.eval p.2)) = vs) (cells : Array Value) (hb : Tryz.prog.built t vs = some cells)
    (h : wpList Tryz.prog ops Q rest (a.put op.dst (.agg cells)) w) : wpList Tryz.prog ops Q (op :: rest) a w :=
  wpList_plain hgd fun _ hK => by
    have hv2 : (parts.map fun (i, x) => (i, a.eval x)).toList = vs := by rw [Array.toList_map]; exact hv
    subst hv2
    unfold Oper.wp execOp
    simp only [ho, Sem.run_bind, run_build w t _ cells hb, Result.andThen_ok]
    exact hK _ _ h
/-- The kernel's cells: cosines, then the window. -/
def kerL : List Int := cosTab ++ winTab
theorem kerL_len : kerL.length = 160 := by simp [kerL, cosTab_len, winTab_len]
set_option maxRecDepth 100000 in
theorem kernel_built : Tryz.prog.built 152 [(0, .agg (arrV cosTab)), (1, .agg (arrV winTab))] = some (arrV kerL) := by
  obtain ⟨it, hi, z, hz, hzc, fs, hu, hp⟩ : ∃ it, Tryz.prog.info? 152 = some it ∧ ∃ z, it.zero = some z ∧ z.cells = arrV (List.replicate 160 0) ∧ ∃ fs, Tryz.prog.underlying 152 = some (.struct fs) ∧ fs.toList.mapM (fun f => (Tryz.prog.info? f.type).map fun i => (f.offset, i.size)) = some [(0, 128), (128, 32)] :=
    ⟨_, rfl, _, rfl, by kernel_rfl, _, Tryz.underlying152, by kernel_rfl⟩
  rw [built_struct hi hu hz hp, hzc, fill_ints (off := 0) (size := 128) rfl cosTab_len (by simp), fill_ints (off := 128) (size := 32) rfl winTab_len (by rw [putL_len] <;> simp [cosTab_len])]
  simp only [Instr.fill]
  congr 2
set_option maxRecDepth 100000 in
set_option maxHeartbeats 800000 in
theorem made_any (w : World) : Calls Tryz.prog 100 #[] w fun e w' => ∃ g, w.heap.size ≤ g ∧ e = .returned (.pointer (some ⟨g, 0, none⟩)) ∧ Blk w' g (arrV kerL) 152 ∧ Below w.heap.size w w' := by
  have HKB := Lib.hid kernel_built
  go_enter Tryz.func100, Tryz.ntmps100
  go_wp2_with fail
  refine (Table_any _).mono ?_
  rintro e w1 ⟨rfl, hb1⟩
  go_wp2_with fail
  refine (Window_any _).mono ?_
  rintro e w2 ⟨rfl, hb2⟩
  have hb := hb1.trans (hb2.mono hb1.size)
  have hs := hb.size
  go_wp2_with (first | (refine wpList_build_l rfl 152 #[(0, .tmp 1), (1, .tmp 2)] rfl [(0, .agg (arrV cosTab)), (1, .agg (arrV winTab))] rfl (arrV kerL) HKB.out ?_))
  go_ret
  exact ⟨_, hs, rfl, Blk.new _ _ _, hb.alloc hs _⟩
theorem kerL_cos {u : Nat} (h : u < 128) : (arrV kerL)[u]? = some (.int .i64 (cosTab.getD u 0)) := by
  rw [arr_get (by rw [kerL_len]; omega)]
  congr 2
  unfold kerL
  rw [List.getD_eq_getElem?_getD, List.getElem?_append_left (by rw [cosTab_len]; exact h), List.getD_eq_getElem?_getD]
theorem kerL_win {u : Nat} (h : u < 32) : (arrV kerL)[128 + u]? = some (.int .i64 (winTab.getD u 0)) := by
  rw [arr_get (by rw [kerL_len]; omega)]
  congr 2
  unfold kerL
  rw [List.getD_eq_getElem?_getD, List.getElem?_append_right (by rw [cosTab_len]; omega), List.getD_eq_getElem?_getD, cosTab_len, Nat.add_sub_cancel_left]
set_option maxHeartbeats 800000 in
theorem at_any (g n k : Nat) (hn : n < 32) (hk : k < 16) (w : World) (hB : Blk w g (arrV kerL) 152) : Calls Tryz.prog 105 #[.pointer (some ⟨g, 0, none⟩), .int .i64 n, .int .i64 k] w fun e w' => e = .returned (.int .i64 (kerAt n k)) ∧ w = w' := by
  obtain ⟨u, hu⟩ : ∃ u, (2 * n + 17) * (2 * k + 1) % 128 = u := ⟨_, rfl⟩
  have hu128 : u < 128 := by omega
  have hprod : (2 * (n : Int) + 17) * (2 * k + 1) = (((2 * n + 17) * (2 * k + 1) : Nat) : Int) := by push_cast; rfl
  have hpb : (2 * n + 17) * (2 * k + 1) ≤ 100 * 100 := Nat.mul_le_mul (by omega) (by omega)
  have hm : ((2 * (n : Int) + 1 + 16) * (2 * k + 1)).tmod 128 = (u : Int) := by
    rw [show 2 * (n : Int) + 1 + 16 = 2 * n + 17 by omega, hprod, Int.tmod_eq_emod_of_nonneg (by omega), ← hu]; omega
  have hp0 : (0 : Int) ≤ (2 * (n : Int) + 1 + 16) * (2 * k + 1) := by rw [show 2 * (n : Int) + 1 + 16 = 2 * n + 17 by omega, hprod]; omega
  have hp1 : (2 * (n : Int) + 1 + 16) * (2 * k + 1) ≤ 10000 := by rw [show 2 * (n : Int) + 1 + 16 = 2 * n + 17 by omega, hprod]; omega
  have c0 := (hB.cell u).trans (kerL_cos hu128)
  have hK : kerAt n k = cosTab.getD u 0 := by unfold kerAt; rw [hu]
  rw [hK]
  obtain ⟨x, hx⟩ : ∃ x, cosTab.getD u 0 = x := ⟨_, rfl⟩
  rw [hx] at c0 ⊢
  clear hx hK hprod hpb hu
  go_enter Tryz.func105, Tryz.ntmps105
  go_wp2
  go_ret
  exact ⟨rfl, rfl⟩
set_option maxHeartbeats 1600000 in
theorem msum_any (f : FuncId) (p1 p2 p3 : Value) (n : Nat) (hn : n ≤ 1000) (F : Nat → Int) (hF : ∀ k, -1125899906842624 ≤ F k ∧ F k ≤ 1125899906842624) (I : World → Prop) (hI : ∀ w w', I w → Below w.heap.size w w' → I w') (w : World) (hw : I w)
    (hcf : ∀ (x : Int) (w : World), (callFunc f #[.int .i64 x, p1, p2, p3]).run Tryz.prog w = .ok (.enter f #[.int .i64 x, p1, p2, p3]) w)
    (hf : ∀ k < n, ∀ w, I w → Calls Tryz.prog f #[.int .i64 (k : Nat), p1, p2, p3] w fun e w' => e = .returned (.int .i64 (F k)) ∧ Below w.heap.size w w') :
    Calls Tryz.prog 102 #[.int .i64 n, .func (.func f) #[] #[p1, p2, p3]] w fun e w' => e = .returned (.int .i64 (sumF F n)) ∧ Below w.heap.size w w' := by
  have hbd := fun m => sumF_bd hF m
  have HF := Lib.hid hf
  have HB := Lib.hid hbd
  have HI := Lib.hid hI
  clear hf hF hbd hI
  go_enter Tryz.func102, Tryz.ntmps102
  go_wp2_with fail
  go_loopw [5, 8] (fun o i wr => ∃ k : Nat, k ≤ n ∧ i = .int .i64 k ∧ o = .int .i64 (sumF F k) ∧ I wr ∧ Below w.heap.size w wr) (fun o i _ => n - (intOf i).toNat)
  case atStart => exact ⟨0, by omega, rfl, rfl, hw, Below.refl _ _⟩
  case round =>
    obtain ⟨k, hk, rfl, rfl, hIw, hb⟩ := hrel
    by_cases hlt : k < n
    · have hcall := HF.out k hlt _ hIw
      have h1 := HB.out k
      have h2 := HB.out (k + 1)
      have hs : sumF F (k + 1) = sumF F k + F k := rfl
      rw [hs] at h2
      have HS := Lib.hid hs
      obtain ⟨S, hS⟩ : ∃ S, sumF F k = S := ⟨_, rfl⟩
      obtain ⟨y, hy⟩ : ∃ y, F k = y := ⟨_, rfl⟩
      rw [hS] at h1 h2 HS
      rw [hy] at h2 hcall HS
      rw [hS]
      have hk1 : ((k + 1 : Nat) : Int) ≤ 1000 := by omega
      have hkk : (k : Int) ≤ 1000 := by omega
      have s0 : -1125899906842624000 ≤ S := by omega
      have s1 : S ≤ 1125899906842624000 := by omega
      have s2 : -1125899906842624000 ≤ S + y := by omega
      have s3 : S + y ≤ 1125899906842624000 := by omega
      clear hs hS hy h1 h2
      go_wp2_with fail
      refine hcall.mono ?_
      rintro e w1 ⟨rfl, hb1⟩
      have hIw1 := HI.out _ _ hIw hb1
      have hbb := hb.trans (hb1.mono hb.size)
      go_wp2_with fail
      go_roundw
      case rel => exact ⟨k + 1, hlt, by go_num, by rw [HS.out], hIw1, hbb⟩
      case measure => simp [intOf]; omega
    · obtain rfl : k = n := by omega
      go_wp2_with fail
      go_ret
      exact ⟨rfl, hb⟩
end Go.Proofs.YtkoljgmapclhkaaGreatDoor

namespace Go.Proofs.YtkoljgmapclhkaaGreatDoor
open Go.RowKit

theorem Shift16 (x : Int) (w : World) : Calls Tryz.prog 104 #[.int .i64 x, .int .i64 16] w fun e w' => e = .returned (.int .i64 (Sp.shiftN 16 x)) ∧ w = w' := by
  unfold Sp.shiftN
  by_cases h1 : x < -1099511627776
  · rw [if_pos (.inl h1)]
    go_enter Tryz.func104, Tryz.ntmps104
    go_wp2
    go_ret
    exact ⟨rfl, rfl⟩
  by_cases h2 : 1099511627776 < x
  · rw [if_pos (.inr h2)]
    go_enter Tryz.func104, Tryz.ntmps104
    go_wp2
    go_ret
    exact ⟨rfl, rfl⟩
  rw [if_neg (by omega)]
  go_enter Tryz.func104, Tryz.ntmps104
  go_wp2
  go_ret
  exact ⟨rfl, rfl⟩
theorem wide_no {l : List Int} (h : l.any wideP = false) (k : Nat) : -1048576 ≤ l.getD k 0 ∧ l.getD k 0 ≤ 1048576 := by
  rw [List.getD_eq_getElem?_getD]
  cases hk : l[k]? with
  | none => simp
  | some x =>
    have := List.any_eq_false.1 h x (List.mem_of_getElem? hk)
    simp [wideP] at this
    simp; omega
theorem mul_bd {a b A B : Int} (ha0 : -A ≤ a) (ha1 : a ≤ A) (hb0 : -B ≤ b) (hb1 : b ≤ B) : -(A * B) ≤ a * b ∧ a * b ≤ A * B := by
  have h1 := Int.mul_nonneg (show 0 ≤ A - a by omega) (show 0 ≤ B - b by omega)
  have h2 := Int.mul_nonneg (show 0 ≤ A + a by omega) (show 0 ≤ B + b by omega)
  have h3 := Int.mul_nonneg (show 0 ≤ A - a by omega) (show 0 ≤ B + b by omega)
  have h4 := Int.mul_nonneg (show 0 ≤ A + a by omega) (show 0 ≤ B - b by omega)
  simp only [Int.sub_mul, Int.mul_sub, Int.add_mul, Int.mul_add] at h1 h2 h3 h4
  omega
theorem wk_bd {l : List Int} (h : l.any wideP = false) (n k : Nat) : -34359738368 ≤ l.getD k 0 * kerAt n k ∧ l.getD k 0 * kerAt n k ≤ 34359738368 := by
  have h1 := wide_no h k
  have h2 := kerAt_bd n k
  exact mul_bd h1.1 h1.2 h2.1 h2.2
set_option maxHeartbeats 800000 in
theorem Back1_any (wv : List Int) (hl : wv.length = 16) (hw : wv.any wideP = false) (bw bt bn bk n k : Nat) (hn : n < 32) (hk : k < 16) (w : World) (hB : Blk w bw (arrV wv) 26) (hT : Blk w bt #[.pointer (some ⟨bk, 0, none⟩)] 145) (hN : Blk w bn #[.int .i64 n] 3) (hK : Blk w bk (arrV kerL) 152) :
    Calls Tryz.prog 120 #[.int .i64 k, .pointer (some ⟨bw, 0, none⟩), .pointer (some ⟨bt, 0, none⟩), .pointer (some ⟨bn, 0, none⟩)] w fun e w' => e = .returned (.int .i64 (wv.getD k 0 * kerAt n k)) ∧ Below w.heap.size w w' := by
  have c0 := (hB.cell k).trans (arr_get (by rw [hl]; exact hk))
  have c1 := hT.cell 0
  have c2 := hN.cell 0
  simp only [List.getElem?_toArray, List.getElem?_cons_zero] at c1 c2
  have hat := fun m => at_any bk n k hn hk (w.drewN m) (hK.drewN m)
  have hp := wk_bd hw n k
  obtain ⟨x, hx⟩ : ∃ x, wv.getD k 0 = x := ⟨_, rfl⟩
  obtain ⟨y, hy⟩ : ∃ y, kerAt n k = y := ⟨_, rfl⟩
  rw [hx] at c0
  rw [hx, hy] at hp ⊢
  simp only [hy] at hat
  clear hx hy
  go_enter Tryz.func120, Tryz.ntmps120
  go_wp2_with fail
  go_quiet ((go_at_call 105; exact quiet_same (hat _)))
  go_wp2_with fail
  go_ret
  exact ⟨rfl, belowNN (Below.refl _ _) _⟩
theorem Blk.loadVar {W : World} {b : Nat} {cs : Array Value} {t : TypeId} (h : Blk W b cs t) (ty : TypeId) {d : TypeDesc} (hu : Tryz.prog.underlying ty = some d) (hd : d.isRow = true) (hi : (Tryz.prog.info? ty).map (·.size) = some cs.size) :
    (Go.loadVar ty ⟨b, 0, none⟩).run Tryz.prog W = .ok (.agg cs) W := by
  have hc : W.rangeAt b 0 cs.toList := fun j v hv => by rw [Nat.zero_add, h.cell j, ← hv]; simp
  have := run_loadVar_mid (P := Tryz.prog) W b 0 ty cs.toList d hc hu hd (by simpa using hi)
  simpa using this
theorem results_cc {fn : Func} {p q : Tmp} {ty ty2 : TypeId} (h : fn.results = #[.cell p ty, .cell q ty2]) (tmps : Array Value) (w : World) (g g2 : Nat) (t t2 : TypeId) (cs cs2 : Array Value) (d d2 : TypeDesc)
    (hp : tmps.getD p undef = .pointer (some ⟨g, 0, none⟩)) (hg : Blk w g cs t) (hu : Tryz.prog.underlying ty = some d) (hd : d.isRow = true) (hi : (Tryz.prog.info? ty).map (·.size) = some cs.size)
    (hp2 : tmps.getD q undef = .pointer (some ⟨g2, 0, none⟩)) (hg2 : Blk w g2 cs2 t2) (hu2 : Tryz.prog.underlying ty2 = some d2) (hd2 : d2.isRow = true) (hi2 : (Tryz.prog.info? ty2).map (·.size) = some cs2.size) :
    (results fn tmps).run Tryz.prog w = .ok (.tuple #[.agg cs, .agg cs2]) w := by
  have hp' : tmps[p]?.getD undef = .pointer (some ⟨g, 0, none⟩) := by simpa using hp
  have hp2' : tmps[q]?.getD undef = .pointer (some ⟨g2, 0, none⟩) := by simpa using hp2
  simp [results, h, hp', hp2', asAddr, hg.loadVar ty hu hd hi, hg2.loadVar ty2 hu2 hd2 hi2]
theorem results_cct {fn : Func} {p q r : Tmp} {ty ty2 : TypeId} (h : fn.results = #[.cell p ty, .cell q ty2, .tmp r]) (tmps : Array Value) (w : World) (g g2 : Nat) (t t2 : TypeId) (cs cs2 : Array Value) (d d2 : TypeDesc) (v : Value)
    (hp : tmps.getD p undef = .pointer (some ⟨g, 0, none⟩)) (hg : Blk w g cs t) (hu : Tryz.prog.underlying ty = some d) (hd : d.isRow = true) (hi : (Tryz.prog.info? ty).map (·.size) = some cs.size)
    (hp2 : tmps.getD q undef = .pointer (some ⟨g2, 0, none⟩)) (hg2 : Blk w g2 cs2 t2) (hu2 : Tryz.prog.underlying ty2 = some d2) (hd2 : d2.isRow = true) (hi2 : (Tryz.prog.info? ty2).map (·.size) = some cs2.size) (hr : tmps.getD r undef = v) :
    (results fn tmps).run Tryz.prog w = .ok (.tuple #[.agg cs, .agg cs2, v]) w := by
  have hp' : tmps[p]?.getD undef = .pointer (some ⟨g, 0, none⟩) := by simpa using hp
  have hp2' : tmps[q]?.getD undef = .pointer (some ⟨g2, 0, none⟩) := by simpa using hp2
  have hr' : tmps[r]?.getD undef = v := by simpa using hr
  simp [results, h, hp', hp2', hr', asAddr, hg.loadVar ty hu hd hi, hg2.loadVar ty2 hu2 hd2 hi2]
theorem results_ct {fn : Func} {p r : Tmp} {ty : TypeId} (h : fn.results = #[.cell p ty, .tmp r]) (tmps : Array Value) (w : World) (g : Nat) (t : TypeId) (cs : Array Value) (d : TypeDesc) (v : Value)
    (hp : tmps.getD p undef = .pointer (some ⟨g, 0, none⟩)) (hg : Blk w g cs t) (hu : Tryz.prog.underlying ty = some d) (hd : d.isRow = true) (hi : (Tryz.prog.info? ty).map (·.size) = some cs.size) (hr : tmps.getD r undef = v) :
    (results fn tmps).run Tryz.prog w = .ok (.tuple #[.agg cs, v]) w := by
  have hp' : tmps[p]?.getD undef = .pointer (some ⟨g, 0, none⟩) := by simpa using hp
  have hr' : tmps[r]?.getD undef = v := by simpa using hr
  simp [results, h, hp', hr', asAddr, hg.loadVar ty hu hd hi]
/-- Memory while the way back is gone. -/
structure BackW (w wr : World) (B tb bk : Nat) (wv : List Int) (F : Nat → Int) (k : Nat) : Prop where
  wav : Blk wr B (arrV wv) 26
  r1 : Blk wr (B + 1) (arrV (List.replicate 16 0)) 26
  r2 : Blk wr (B + 2) (arrV (List.replicate 16 0)) 26
  out : Blk wr (B + 3) (arrV (filled F 32 k)) 150
  ptr : Blk wr tb #[.pointer (some ⟨bk, 0, none⟩)] 145
  ker : Blk wr bk (arrV kerL) 152
  far : Below w.heap.size w wr
theorem BackW.below {w wr w' : World} {B tb bk : Nat} {wv : List Int} {F : Nat → Int} {k : Nat} (h : BackW w wr B tb bk wv F k) (hb : Below wr.heap.size wr w') : BackW w w' B tb bk wv F k :=
  ⟨h.wav.newB hb, h.r1.newB hb, h.r2.newB hb, h.out.newB hb, h.ptr.newB hb, h.ker.newB hb, h.far.trans (hb.mono h.far.size)⟩
theorem BackW.alloc {w wr : World} {B tb bk : Nat} {wv : List Int} {F : Nat → Int} {k : Nat} (h : BackW w wr B tb bk wv F k) (o : Obj) : BackW w (wr.alloc o) B tb bk wv F k :=
  h.below ((Below.refl _ _).alloc (Nat.le_refl _) _)
theorem BackW.set {w wr : World} {B tb bk : Nat} {wv : List Int} {F : Nat → Int} {k : Nat} (h : BackW w wr B tb bk wv F k) (hB : w.heap.size ≤ B) (htb : B + 3 < tb) (hbk : B + 3 < bk) (x : Int) (hx : x = F k) : BackW w (wr.setCell ⟨B + 3, k, none⟩ (.int .i64 x)) B tb bk wv F (k + 1) :=
  ⟨h.wav.other (by simp only []; omega) _, h.r1.other (by simp only []; omega) _, h.r2.other (by simp only []; omega) _, by subst hx; rw [← filled_set, ← arr_set]; exact h.out.set k _, h.ptr.other (by simp only []; omega) _, h.ker.other (by simp only []; omega) _, h.far.setCell (by show w.heap.size ≤ B + 3; omega) _⟩
theorem BackW.setVar {w wr : World} {B tb bk : Nat} {wv : List Int} {F : Nat → Int} {k : Nat} (h : BackW w wr B tb bk wv F k) {g : Nat} (hg : w.heap.size ≤ g) (h3 : B + 3 < g) (hgt : g ≠ tb) (hgk : g ≠ bk) (x : Value) : BackW w (wr.setCell ⟨g, 0, none⟩ x) B tb bk wv F k :=
  ⟨h.wav.other (by simp only []; omega) _, h.r1.other (by simp only []; omega) _, h.r2.other (by simp only []; omega) _, h.out.other (by simp only []; omega) _, h.ptr.other (by simp only []; omega) _, h.ker.other (by simp only []; omega) _, h.far.setCell hg _⟩
theorem BackW.drew {w wr : World} {B tb bk : Nat} {wv : List Int} {F : Nat → Int} {k : Nat} (h : BackW w wr B tb bk wv F k) : BackW w wr.drew B tb bk wv F k :=
  ⟨h.wav.drew, h.r1.drew, h.r2.drew, h.out.drew, h.ptr.drew, h.ker.drew, h.far.drew⟩
theorem range_setRow {W : World} {b o g : Nat} {cs : List Value} {new : Array Value} (h : W.rangeAt b o cs) (hne : b ≠ g) : (W.setRow g new).rangeAt b o cs := fun j v hv => by
  rw [← h j v hv]
  simp only [World.cell?]
  rw [show (W.setRow g new).heap[b]? = W.heap[b]? from setRow_other W g b new hne]
theorem wp_store_blk {op : Oper} {a : Act} {w : World} {K : Act → World → Prop} {Q : Exit → Act → World → Prop} (ty : TypeId) (x y : Operand) (ho : op.op = .store ty x y)
    (b : Nat) (cs new : Array Value) (hx : a.eval x = .pointer (some ⟨b, 0, none⟩)) (hy : a.eval y = .agg new) (t : TypeId) (hb : Blk w b cs t) (hi : (Tryz.prog.info? ty).map (·.size) = some new.size) (hs : cs.size = new.size) (h1 : new.all (·.oneCell') = true)
    (h : K (a.put op.dst undef) (w.setRow b new)) : op.wp Tryz.prog a w K Q := by
  unfold Oper.wp execOp
  simp only [ho, hx, hy, Instr.storeAt, Instr.sureAddr, Sem.run_bind, Sem.run_pure, Result.andThen_ok, run_storeVar_row w b t ty cs new hb hi hs h1]
  exact h
theorem run_arrayAt (t : TypeId) {n len cap : Nat} {e : TypeId} (hu : Tryz.prog.underlying t = some (.array n e)) (hn : n ≤ len) (a : Addr) (w : World) :
    (Instr.arrayAt t (.slice (some a) len cap)).run Tryz.prog w = .ok (.pointer (some a)) w := by
  simp [Instr.arrayAt, run_underlying hu]
  omega
theorem zero16 : (#[.int .i64 0, .int .i64 0, .int .i64 0, .int .i64 0, .int .i64 0, .int .i64 0, .int .i64 0, .int .i64 0, .int .i64 0, .int .i64 0, .int .i64 0, .int .i64 0, .int .i64 0, .int .i64 0, .int .i64 0, .int .i64 0] : Array Value) = arrV (List.replicate 16 0) := by kernel_rfl
/-- Four blocks, one behind the other. -/
theorem four_new (w : World) (c0 c1 c2 c3 : Array Value) (t0 t1 t2 t3 : TypeId) : Blk ((((w.alloc (.cells c0 t0)).alloc (.cells c1 t1)).alloc (.cells c2 t2)).alloc (.cells c3 t3)) w.heap.size c0 t0 ∧ Blk ((((w.alloc (.cells c0 t0)).alloc (.cells c1 t1)).alloc (.cells c2 t2)).alloc (.cells c3 t3)) (w.heap.size + 1) c1 t1 ∧
    Blk ((((w.alloc (.cells c0 t0)).alloc (.cells c1 t1)).alloc (.cells c2 t2)).alloc (.cells c3 t3)) (w.heap.size + 2) c2 t2 ∧ Blk ((((w.alloc (.cells c0 t0)).alloc (.cells c1 t1)).alloc (.cells c2 t2)).alloc (.cells c3 t3)) (w.heap.size + 3) c3 t3 ∧
    Below w.heap.size w ((((w.alloc (.cells c0 t0)).alloc (.cells c1 t1)).alloc (.cells c2 t2)).alloc (.cells c3 t3)) ∧ ((((w.alloc (.cells c0 t0)).alloc (.cells c1 t1)).alloc (.cells c2 t2)).alloc (.cells c3 t3)).heap.size = w.heap.size + 4 := by
  have h0 := Blk.new w c0 t0
  have h1 := Blk.new (w.alloc (.cells c0 t0)) c1 t1
  have h2 := Blk.new ((w.alloc (.cells c0 t0)).alloc (.cells c1 t1)) c2 t2
  have h3 := Blk.new (((w.alloc (.cells c0 t0)).alloc (.cells c1 t1)).alloc (.cells c2 t2)) c3 t3
  simp only [World.size_alloc] at h1 h2 h3
  refine ⟨((h0.alloc _).alloc _).alloc _, (h1.alloc _).alloc _, h2.alloc _, h3, ((((Below.refl _ _).alloc (Nat.le_refl _) _).alloc (by simp) _).alloc (by simp; omega) _).alloc (by simp; omega) _, by simp⟩
set_option maxRecDepth 100000 in
set_option maxHeartbeats 1600000 in
theorem Back_any (wv : List Int) (hl : wv.length = 16) (w : World) : Calls Tryz.prog 68 #[.agg (arrV wv)] w fun e w' => e = .returned (.tuple #[.agg (arrV ((backL wv).take 16)), .agg (arrV ((backL wv).drop 16))]) ∧ Below w.heap.size w w' := by
  obtain ⟨hA, hR1, hR2, hO0, hb0, hs0⟩ := four_new w (arrV wv) #[.int .i64 0, .int .i64 0, .int .i64 0, .int .i64 0, .int .i64 0, .int .i64 0, .int .i64 0, .int .i64 0, .int .i64 0, .int .i64 0, .int .i64 0, .int .i64 0, .int .i64 0, .int .i64 0, .int .i64 0, .int .i64 0] #[.int .i64 0, .int .i64 0, .int .i64 0, .int .i64 0, .int .i64 0, .int .i64 0, .int .i64 0, .int .i64 0, .int .i64 0, .int .i64 0, .int .i64 0, .int .i64 0, .int .i64 0, .int .i64 0, .int .i64 0, .int .i64 0] #[.int .i64 0, .int .i64 0, .int .i64 0, .int .i64 0, .int .i64 0, .int .i64 0, .int .i64 0, .int .i64 0, .int .i64 0, .int .i64 0, .int .i64 0, .int .i64 0, .int .i64 0, .int .i64 0, .int .i64 0, .int .i64 0, .int .i64 0, .int .i64 0, .int .i64 0, .int .i64 0, .int .i64 0, .int .i64 0, .int .i64 0, .int .i64 0, .int .i64 0, .int .i64 0, .int .i64 0, .int .i64 0, .int .i64 0, .int .i64 0, .int .i64 0, .int .i64 0] 26 26 26 150
  obtain ⟨B, hB⟩ : ∃ B, w.heap.size = B := ⟨_, rfl⟩
  have hsz : (Tryz.prog.info? 26).map (·.size) = some (arrV wv).size := by rw [arr_size, hl]; exact blockInfo
  have hheld := fun w => Held_any wv hl w
  cases hw : wv.any wideP with
  | true =>
    rw [hw] at hheld
    obtain ⟨O, hO⟩ : ∃ O, List.replicate 32 (0 : Int) = O := ⟨_, rfl⟩
    have hBL : backL wv = O := by unfold backL; rw [hw, ← hO]; rfl
    have HO := Lib.hid hBL
    have hol : O.length = 32 := by rw [← hO]; rfl
    clear hBL
    go_enter Tryz.func68, Tryz.ntmps68
    go_upto_region 2 with (fail)
    simp only [hB] at hA hR1 hR2 hO0 hb0 hs0 ⊢
    revert hA hR1 hR2 hO0 hb0 hs0
    generalize ((((w.alloc (.cells (arrV wv) 26)).alloc (.cells #[.int .i64 0, .int .i64 0, .int .i64 0, .int .i64 0, .int .i64 0, .int .i64 0, .int .i64 0, .int .i64 0, .int .i64 0, .int .i64 0, .int .i64 0, .int .i64 0, .int .i64 0, .int .i64 0, .int .i64 0, .int .i64 0] 26)).alloc (.cells #[.int .i64 0, .int .i64 0, .int .i64 0, .int .i64 0, .int .i64 0, .int .i64 0, .int .i64 0, .int .i64 0, .int .i64 0, .int .i64 0, .int .i64 0, .int .i64 0, .int .i64 0, .int .i64 0, .int .i64 0, .int .i64 0] 26)).alloc (.cells #[.int .i64 0, .int .i64 0, .int .i64 0, .int .i64 0, .int .i64 0, .int .i64 0, .int .i64 0, .int .i64 0, .int .i64 0, .int .i64 0, .int .i64 0, .int .i64 0, .int .i64 0, .int .i64 0, .int .i64 0, .int .i64 0, .int .i64 0, .int .i64 0, .int .i64 0, .int .i64 0, .int .i64 0, .int .i64 0, .int .i64 0, .int .i64 0, .int .i64 0, .int .i64 0, .int .i64 0, .int .i64 0, .int .i64 0, .int .i64 0, .int .i64 0, .int .i64 0] 150)) = w0
    intro hA hR1 hR2 hO0 hb0 hs0
    rw [zero16] at hR1 hR2
    rw [zero32, hO] at hO0
    go_wp2_with (first | (refine wpList_load_blk rfl 26 (.tmp 1) rfl B rfl (arrV wv) 26 hA Tryz.underlying26 hsz ?_))
    refine (hheld _).mono ?_
    rintro e wr ⟨rfl, hb1⟩
    have hr1 := hR1.newB hb1
    have hr2 := hR2.newB hb1
    have ho := hO0.newB hb1
    have hfar : Below B w wr := hb0.trans (hb1.mono (by omega))
    clear hO
    have hl1 : (O.take 16).length = 16 := by rw [List.length_take, hol]; rfl
    have hl2 : (O.drop 16).length = 16 := by rw [List.length_drop, hol]
    have e1 : wr.rangeAt (B + 3) 0 (intsV (O.take 16)) := by have h := ho.range 0 16 (by omega); simpa using h
    have e2 : wr.rangeAt (B + 3) 16 (intsV (O.drop 16)) := by have h := ho.range 16 16 (by omega); rwa [List.take_of_length_le (by omega)] at h
    obtain ⟨l1, hl1e⟩ : ∃ l1, O.take 16 = l1 := ⟨_, rfl⟩
    obtain ⟨l2, hl2e⟩ : ∃ l2, O.drop 16 = l2 := ⟨_, rfl⟩
    rw [hl1e] at e1 hl1
    rw [hl2e] at e2 hl2
    have i1 : (Tryz.prog.info? 26).map (·.size) = some (intsV l1).length := by rw [List.length_map, hl1]; exact blockInfo
    have i2 : (Tryz.prog.info? 26).map (·.size) = some (intsV l2).length := by rw [List.length_map, hl2]; exact blockInfo
    have j1 : (Tryz.prog.info? 26).map (·.size) = some (arrV l1).size := by rw [arr_size, hl1]; exact blockInfo
    have j2 : (Tryz.prog.info? 26).map (·.size) = some (arrV l2).size := by rw [arr_size, hl2]; exact blockInfo
    have k1 : (arrV (List.replicate 16 0)).size = (arrV l1).size := by rw [arr_size, arr_size, hl1]; rfl
    have k2 : (arrV (List.replicate 16 0)).size = (arrV l2).size := by rw [arr_size, arr_size, hl2]; rfl
    have y0 : wr.rangeAt (B + 1 + 1 + 1) 0 (intsV l1) ∧ wr.rangeAt (B + 1 + 1 + 1) 16 (intsV l2) := ⟨e1, e2⟩
    have yd : wr.drew.rangeAt (B + 1 + 1 + 1) 0 (intsV l1) ∧ wr.drew.rangeAt (B + 1 + 1 + 1) 16 (intsV l2) := ⟨e1, e2⟩
    have A1 := fun W => run_arrayAt 26 (cap := 32) Tryz.underlying26 (Nat.le_refl 16) ⟨B + 1 + 1 + 1, 0, none⟩ W
    have A2 := fun W => run_arrayAt 26 (cap := 16) Tryz.underlying26 (Nat.le_refl 16) ⟨B + 1 + 1 + 1, 16, none⟩ W
    have L1 : ∀ W : World, (W.rangeAt (B + 1 + 1 + 1) 0 (intsV l1) ∧ W.rangeAt (B + 1 + 1 + 1) 16 (intsV l2)) → (Instr.loadAt 26 (.pointer (some ⟨B + 1 + 1 + 1, 0, none⟩))).run Tryz.prog W = .ok (.agg (arrV l1)) W := fun W h => run_loadAt_mid W _ 0 26 _ (.array 16 3) h.1 Tryz.underlying26 rfl i1
    have L2 : ∀ W : World, (W.rangeAt (B + 1 + 1 + 1) 0 (intsV l1) ∧ W.rangeAt (B + 1 + 1 + 1) 16 (intsV l2)) → (Instr.loadAt 26 (.pointer (some ⟨B + 1 + 1 + 1, 16, none⟩))).run Tryz.prog W = .ok (.agg (arrV l2)) W := fun W h => run_loadAt_mid W _ 16 26 _ (.array 16 3) h.2 Tryz.underlying26 rfl i2
    have hu16 := Tryz.underlying26
    have HA1 := Lib.hid hl1e
    have HA2 := Lib.hid hl2e
    clear L1 L2 e1 e2 hl1e hl2e ho
    go_wp2_with fail
    refine wp_region_held_drew (S := (fun W => W.rangeAt (B + 1 + 1 + 1) 0 (intsV l1) ∧ W.rangeAt (B + 1 + 1 + 1) 16 (intsV l2))) (by kernel_rfl) yd (fun hH => ?_)
    refine tk 0 hH (v := .slice (some ⟨B + 1 + 1 + 1, 0, none⟩) 16 32) (y := .inl ⟨by rfl, fun w _ => by go_simp⟩) (k := ?_)
    refine tk 1 hH (v := .pointer (some ⟨B + 1 + 1 + 1, 0, none⟩)) (y := .inl ⟨by rfl, fun w _ => by go_simp⟩) (k := ?_)
    refine tk 2 hH (v := .agg (arrV l1)) (y := (yieldsIf_load_mid (by rfl) 26 (.tmp 30) rfl (B + 1 + 1 + 1) 0 rfl (intsV l1) (.array 16 3) (fun _ h => h.1) hu16 rfl i1)) (k := ?_)
    refine tk 3 hH (v := .slice (some ⟨B + 1 + 1 + 1, 16, none⟩) 16 16) (y := .inl ⟨by rfl, fun w _ => by go_simp⟩) (k := ?_)
    refine tk 4 hH (v := .pointer (some ⟨B + 1 + 1 + 1, 16, none⟩)) (y := .inl ⟨by rfl, fun w _ => by go_simp⟩) (k := ?_)
    refine tk 5 hH (v := .agg (arrV l2)) (y := (yieldsIf_load_mid (by rfl) 26 (.tmp 33) rfl (B + 1 + 1 + 1) 16 rfl (intsV l2) (.array 16 3) (fun _ h => h.2) hu16 rfl i2)) (k := ?_)
    refine wpAnyH_ready (rs := [6]) (by kernel_rfl) (by simp) ?_
    refine rc (h := fun K hK => ?_) (r := AllReadyH.nil)
    refine wp_store_blk 26 (.tmp 2) (.tmp 31) rfl (B + 1) _ (arrV l1) rfl rfl 26 hr1.drew j1 k1 (arr_one _) ?_
    refine hK.out _ _ ⟨range_setRow yd.1 (by omega), range_setRow yd.2 (by omega)⟩ (fun hH => ?_)
    clear hK K
    try simp only [Act.put, sa, List.set_cons_zero, List.set_cons_succ]
    refine wpAnyH_ready (rs := [7]) (by kernel_rfl) (by simp) ?_
    refine rc (h := fun K hK => ?_) (r := AllReadyH.nil)
    refine wp_store_blk 26 (.tmp 3) (.tmp 34) rfl (B + 2) _ (arrV l2) rfl rfl 26 (hr2.drew.setRowOther (by omega)) j2 k2 (arr_one _) ?_
    refine hK.out _ _ ⟨range_setRow (range_setRow yd.1 (by omega)) (by omega), range_setRow (range_setRow yd.2 (by omega)) (by omega)⟩ (fun hH => ?_)
    clear hK K
    try simp only [Act.put, sa, List.set_cons_zero, List.set_cons_succ]
    refine wpAnyH_done (by kernel_rfl) ?_ _
    go_wp2_with fail
    exact bodyPost_ret (v := .tuple #[.agg (arrV l1), .agg (arrV l2)]) (results_cc Tryz.results68 _ _ (B + 1) (B + 2) 26 26 _ _ (.array 16 3) (.array 16 3) rfl (hr1.drew.setRow.setRowOther (by omega)) Tryz.underlying26 rfl j1 rfl (hr2.drew.setRowOther (by omega)).setRow Tryz.underlying26 rfl j2) rfl ⟨by rw [HO.out, HA1.out, HA2.out], by have h : Below B w _ := Below.setRow (Below.setRow hfar.drew (g := B + 1) (by omega) (arrV l1)) (g := B + 2) (by omega) (arrV l2); rw [hB]; exact h⟩
  | false =>
    rw [hw] at hheld
    obtain ⟨F, hF⟩ : ∃ F, back1 wv = F := ⟨_, rfl⟩
    have hBL : backL wv = filled F 32 32 := by unfold backL; rw [hw, filled_all, hF]; rfl
    have hFn : ∀ n, Sp.shiftN 16 (Sp.shiftN 15 (sumF (fun k => wv.getD k 0 * kerAt n k) 16) * winTab.getD n 0) = F n := fun n => by rw [← hF]; rfl
    have HBL := Lib.hid hBL
    have HFN := Lib.hid hFn
    clear hBL hFn hF
    go_enter Tryz.func68, Tryz.ntmps68
    go_upto_region 2 with (fail)
    simp only [hB] at hA hR1 hR2 hO0 hb0 hs0 ⊢
    revert hA hR1 hR2 hO0 hb0 hs0
    generalize ((((w.alloc (.cells (arrV wv) 26)).alloc (.cells #[.int .i64 0, .int .i64 0, .int .i64 0, .int .i64 0, .int .i64 0, .int .i64 0, .int .i64 0, .int .i64 0, .int .i64 0, .int .i64 0, .int .i64 0, .int .i64 0, .int .i64 0, .int .i64 0, .int .i64 0, .int .i64 0] 26)).alloc (.cells #[.int .i64 0, .int .i64 0, .int .i64 0, .int .i64 0, .int .i64 0, .int .i64 0, .int .i64 0, .int .i64 0, .int .i64 0, .int .i64 0, .int .i64 0, .int .i64 0, .int .i64 0, .int .i64 0, .int .i64 0, .int .i64 0] 26)).alloc (.cells #[.int .i64 0, .int .i64 0, .int .i64 0, .int .i64 0, .int .i64 0, .int .i64 0, .int .i64 0, .int .i64 0, .int .i64 0, .int .i64 0, .int .i64 0, .int .i64 0, .int .i64 0, .int .i64 0, .int .i64 0, .int .i64 0, .int .i64 0, .int .i64 0, .int .i64 0, .int .i64 0, .int .i64 0, .int .i64 0, .int .i64 0, .int .i64 0, .int .i64 0, .int .i64 0, .int .i64 0, .int .i64 0, .int .i64 0, .int .i64 0, .int .i64 0, .int .i64 0] 150)) = w0
    intro hA hR1 hR2 hO0 hb0 hs0
    rw [zero16] at hR1 hR2
    rw [zero32, ← filled_zero F] at hO0
    go_wp2_with (first | (refine wpList_load_blk rfl 26 (.tmp 1) rfl B rfl (arrV wv) 26 hA Tryz.underlying26 hsz ?_))
    refine (hheld _).mono ?_
    rintro e w1 ⟨rfl, hb1⟩
    go_wp2_with fail
    refine (made_any _).mono ?_
    rintro e w2 ⟨bk, hbk, rfl, hK2, hb2⟩
    have hb02 := hb1.trans (hb2.mono hb1.size)
    have hs2 := hb02.size
    have hBk : B + 3 < bk := by have := hb1.size; omega
    have hbkl := hK2.lt
    have hW0 : BackW w (w2.alloc (.cells #[.pointer (some ⟨bk, 0, none⟩)] 145)) B w2.heap.size bk wv F 0 := by
      have h1 := hb0.trans (hb02.mono (by omega))
      exact ⟨(hA.newB hb02).alloc _, (hR1.newB hb02).alloc _, (hR2.newB hb02).alloc _, (hO0.newB hb02).alloc _, Blk.new _ _ _, hK2.alloc _, (by rw [← hB] at h1; exact h1.alloc (by have := h1.size; omega) _)⟩
    obtain ⟨tb, htb⟩ : ∃ tb, w2.heap.size = tb := ⟨_, rfl⟩
    rw [htb] at hW0
    go_wp2_with fail
    go_loopw [11] (fun i wr => ∃ k : Nat, k ≤ 32 ∧ i = .int .i64 k ∧ BackW w wr B tb bk wv F k) (fun i _ => 32 - (intOf i).toNat)
    case atStart => exact ⟨0, by omega, rfl, hW0⟩
    case round =>
      obtain ⟨k, hk, rfl, hW⟩ := hrel
      by_cases hlt : k < 32
      · have hs3 := hW.far.size
        have hpl := hW.ptr.lt
        have hkl := hW.ker.lt
        have hol := hW.out.lt
        have hWn := hW.alloc (.cells #[.int .i64 k] 3)
        have hNb := Blk.new wr #[.int .i64 k] 3
        obtain ⟨nb, hnb⟩ : ∃ nb, wr.heap.size = nb := ⟨_, rfl⟩
        rw [hnb] at hNb
        have hsum := msum_any 120 (.pointer (some ⟨B, 0, none⟩)) (.pointer (some ⟨tb, 0, none⟩)) (.pointer (some ⟨nb, 0, none⟩)) 16 (by omega) (fun i => wv.getD i 0 * kerAt k i) (fun i => by have := wk_bd hw k i; omega)
          (fun W => Blk W B (arrV wv) 26 ∧ Blk W tb #[.pointer (some ⟨bk, 0, none⟩)] 145 ∧ Blk W nb #[.int .i64 k] 3 ∧ Blk W bk (arrV kerL) 152)
          (fun _ _ h hb => ⟨h.1.newB hb, h.2.1.newB hb, h.2.2.1.newB hb, h.2.2.2.newB hb⟩) _ ⟨hWn.wav, hWn.ptr, hNb, hWn.ker⟩ (fun _ _ => by kernel_rfl)
          (fun i hi W h => Back1_any wv hl hw B tb nb bk k i hlt hi W h.1 h.2.1 h.2.2.1 h.2.2.2)
        have hfk := HFN.out k
        obtain ⟨S, hS⟩ : ∃ S, sumF (fun i => wv.getD i 0 * kerAt k i) 16 = S := ⟨_, rfl⟩
        rw [hS] at hsum hfk
        have hp1 := shift_bd S
        have hsh1 := fun w => Shift15 S w
        obtain ⟨p, hp⟩ : ∃ p, Sp.shiftN 15 S = p := ⟨_, rfl⟩
        rw [hp] at hp1 hfk
        simp only [hp] at hsh1
        have hy1 := winTab_bd k hlt
        have hwin := kerL_win hlt
        obtain ⟨y, hy⟩ : ∃ y, winTab.getD k 0 = y := ⟨_, rfl⟩
        rw [hy] at hy1 hwin hfk
        have hpy := mul_bd hp1.1 hp1.2 hy1.1 hy1.2
        have hsh2 := fun w => Shift16 (p * y) w
        obtain ⟨z, hz⟩ : ∃ z, Sp.shiftN 16 (p * y) = z := ⟨_, rfl⟩
        rw [hz] at hfk
        simp only [hz] at hsh2
        have hwr : IntKind.i64.wrap (p * y) = p * y := IntWalk.i64_in _ (by omega)
        have HSUM := Lib.hid hsum
        clear hsum hS hp hy hz hp1 hy1 hWn
        have HFK := Lib.hid hfk
        clear hfk
        go_wp2_with fail
        refine (HSUM.out).mono ?_
        rintro e w3 ⟨rfl, hb3⟩
        have hW3 := (hW.alloc _).below hb3
        have hN3 := hNb.newB hb3
        have c1 := hW3.ptr.cell 0
        have c2 := hN3.cell 0
        have c3 := (hW3.ker.cell (128 + k)).trans hwin
        simp only [List.getElem?_toArray, List.getElem?_cons_zero] at c1 c2
        obtain ⟨v0, hv0⟩ := filled_get F 32 k hlt
        have c4 := (hW3.out.cell k).trans hv0
        have f4 := hW3.out.frozen k
        have hP := hW3.set (by omega) (by omega) hBk z HFK.out
        have y0 : w3.cell? ⟨nb, 0, none⟩ = some (.int .i64 k) ∧ w3.cell? ⟨tb, 0, none⟩ = some (.pointer (some ⟨bk, 0, none⟩)) ∧ w3.cell? ⟨bk, 128 + k, none⟩ = some (.int .i64 y) := ⟨c2, c1, c3⟩
        go_wp2_with fail
        first | go_region_held3 (fun w' => w'.cell? ⟨nb, 0, none⟩ = some (.int .i64 k) ∧ w'.cell? ⟨tb, 0, none⟩ = some (.pointer (some ⟨bk, 0, none⟩)) ∧ w'.cell? ⟨bk, 128 + k, none⟩ = some (.int .i64 y)) (first | (with_reducible exact y0) | (simp only [World.cell?_drew, World.cell?_drewN]; with_reducible exact y0) | (simp only [World.cell?_drew, World.cell?_drewN]; refine ⟨?_, ?_, ?_⟩ <;> (rw [World.cell?_setCell_far _ _ _ _ (by dsimp only; omega)]; first | (with_reducible exact y0.1) | (with_reducible exact y0.2.1) | (with_reducible exact y0.2.2)))) (first | (go_at_call_of 104 ((15 : Int)); refine (hsh1 _).mono ?_; rintro r5 w5 ⟨rfl, rfl⟩) | (go_at_call_of 104 ((16 : Int)); refine (hsh2 _).mono ?_; rintro r5 w5 ⟨rfl, rfl⟩))
        go_wp2_with fail
        go_roundw
        case rel => exact ⟨k + 1, hlt, by go_num, hP.drew⟩
        case measure => simp [intOf]; omega
      · obtain rfl : k = 32 := by omega
        obtain ⟨O, hO⟩ : ∃ O, filled F 32 32 = O := ⟨_, rfl⟩
        have HO := Lib.hid (HBL.out.trans hO)
        have hol : O.length = 32 := by rw [← hO, filled_len]
        have ho := hW.out
        rw [hO] at ho
        have hr1 := hW.r1
        have hr2 := hW.r2
        have hfar : Below B w wr := by have h := hW.far; rwa [hB] at h
        clear hW hO
        have hl1 : (O.take 16).length = 16 := by rw [List.length_take, hol]; rfl
        have hl2 : (O.drop 16).length = 16 := by rw [List.length_drop, hol]
        have e1 : wr.rangeAt (B + 3) 0 (intsV (O.take 16)) := by have h := ho.range 0 16 (by omega); simpa using h
        have e2 : wr.rangeAt (B + 3) 16 (intsV (O.drop 16)) := by have h := ho.range 16 16 (by omega); rwa [List.take_of_length_le (by omega)] at h
        obtain ⟨l1, hl1e⟩ : ∃ l1, O.take 16 = l1 := ⟨_, rfl⟩
        obtain ⟨l2, hl2e⟩ : ∃ l2, O.drop 16 = l2 := ⟨_, rfl⟩
        rw [hl1e] at e1 hl1
        rw [hl2e] at e2 hl2
        have i1 : (Tryz.prog.info? 26).map (·.size) = some (intsV l1).length := by rw [List.length_map, hl1]; exact blockInfo
        have i2 : (Tryz.prog.info? 26).map (·.size) = some (intsV l2).length := by rw [List.length_map, hl2]; exact blockInfo
        have j1 : (Tryz.prog.info? 26).map (·.size) = some (arrV l1).size := by rw [arr_size, hl1]; exact blockInfo
        have j2 : (Tryz.prog.info? 26).map (·.size) = some (arrV l2).size := by rw [arr_size, hl2]; exact blockInfo
        have k1 : (arrV (List.replicate 16 0)).size = (arrV l1).size := by rw [arr_size, arr_size, hl1]; rfl
        have k2 : (arrV (List.replicate 16 0)).size = (arrV l2).size := by rw [arr_size, arr_size, hl2]; rfl
        have y0 : wr.rangeAt (B + 1 + 1 + 1) 0 (intsV l1) ∧ wr.rangeAt (B + 1 + 1 + 1) 16 (intsV l2) := ⟨e1, e2⟩
        have yd : wr.drew.rangeAt (B + 1 + 1 + 1) 0 (intsV l1) ∧ wr.drew.rangeAt (B + 1 + 1 + 1) 16 (intsV l2) := ⟨e1, e2⟩
        have A1 := fun W => run_arrayAt 26 (cap := 32) Tryz.underlying26 (Nat.le_refl 16) ⟨B + 1 + 1 + 1, 0, none⟩ W
        have A2 := fun W => run_arrayAt 26 (cap := 16) Tryz.underlying26 (Nat.le_refl 16) ⟨B + 1 + 1 + 1, 16, none⟩ W
        have L1 : ∀ W : World, (W.rangeAt (B + 1 + 1 + 1) 0 (intsV l1) ∧ W.rangeAt (B + 1 + 1 + 1) 16 (intsV l2)) → (Instr.loadAt 26 (.pointer (some ⟨B + 1 + 1 + 1, 0, none⟩))).run Tryz.prog W = .ok (.agg (arrV l1)) W := fun W h => run_loadAt_mid W _ 0 26 _ (.array 16 3) h.1 Tryz.underlying26 rfl i1
        have L2 : ∀ W : World, (W.rangeAt (B + 1 + 1 + 1) 0 (intsV l1) ∧ W.rangeAt (B + 1 + 1 + 1) 16 (intsV l2)) → (Instr.loadAt 26 (.pointer (some ⟨B + 1 + 1 + 1, 16, none⟩))).run Tryz.prog W = .ok (.agg (arrV l2)) W := fun W h => run_loadAt_mid W _ 16 26 _ (.array 16 3) h.2 Tryz.underlying26 rfl i2
        have hu16 := Tryz.underlying26
        have HA1 := Lib.hid hl1e
        have HA2 := Lib.hid hl2e
        clear L1 L2 e1 e2 hl1e hl2e ho
        go_wp2_with fail
        refine wp_region_held_drew (S := (fun W => W.rangeAt (B + 1 + 1 + 1) 0 (intsV l1) ∧ W.rangeAt (B + 1 + 1 + 1) 16 (intsV l2))) (by kernel_rfl) yd (fun hH => ?_)
        refine tk 0 hH (v := .slice (some ⟨B + 1 + 1 + 1, 0, none⟩) 16 32) (y := .inl ⟨by rfl, fun w _ => by go_simp⟩) (k := ?_)
        refine tk 1 hH (v := .pointer (some ⟨B + 1 + 1 + 1, 0, none⟩)) (y := .inl ⟨by rfl, fun w _ => by go_simp⟩) (k := ?_)
        refine tk 2 hH (v := .agg (arrV l1)) (y := (yieldsIf_load_mid (by rfl) 26 (.tmp 30) rfl (B + 1 + 1 + 1) 0 rfl (intsV l1) (.array 16 3) (fun _ h => h.1) hu16 rfl i1)) (k := ?_)
        refine tk 3 hH (v := .slice (some ⟨B + 1 + 1 + 1, 16, none⟩) 16 16) (y := .inl ⟨by rfl, fun w _ => by go_simp⟩) (k := ?_)
        refine tk 4 hH (v := .pointer (some ⟨B + 1 + 1 + 1, 16, none⟩)) (y := .inl ⟨by rfl, fun w _ => by go_simp⟩) (k := ?_)
        refine tk 5 hH (v := .agg (arrV l2)) (y := (yieldsIf_load_mid (by rfl) 26 (.tmp 33) rfl (B + 1 + 1 + 1) 16 rfl (intsV l2) (.array 16 3) (fun _ h => h.2) hu16 rfl i2)) (k := ?_)
        refine wpAnyH_ready (rs := [6]) (by kernel_rfl) (by simp) ?_
        refine rc (h := fun K hK => ?_) (r := AllReadyH.nil)
        refine wp_store_blk 26 (.tmp 2) (.tmp 31) rfl (B + 1) _ (arrV l1) rfl rfl 26 hr1.drew j1 k1 (arr_one _) ?_
        refine hK.out _ _ ⟨range_setRow yd.1 (by omega), range_setRow yd.2 (by omega)⟩ (fun hH => ?_)
        clear hK K
        try simp only [Act.put, sa, List.set_cons_zero, List.set_cons_succ]
        refine wpAnyH_ready (rs := [7]) (by kernel_rfl) (by simp) ?_
        refine rc (h := fun K hK => ?_) (r := AllReadyH.nil)
        refine wp_store_blk 26 (.tmp 3) (.tmp 34) rfl (B + 2) _ (arrV l2) rfl rfl 26 (hr2.drew.setRowOther (by omega)) j2 k2 (arr_one _) ?_
        refine hK.out _ _ ⟨range_setRow (range_setRow yd.1 (by omega)) (by omega), range_setRow (range_setRow yd.2 (by omega)) (by omega)⟩ (fun hH => ?_)
        clear hK K
        try simp only [Act.put, sa, List.set_cons_zero, List.set_cons_succ]
        refine wpAnyH_done (by kernel_rfl) ?_ _
        go_wp2_with fail
        exact bodyPost_ret (v := .tuple #[.agg (arrV l1), .agg (arrV l2)]) (results_cc Tryz.results68 _ _ (B + 1) (B + 2) 26 26 _ _ (.array 16 3) (.array 16 3) rfl (hr1.drew.setRow.setRowOther (by omega)) Tryz.underlying26 rfl j1 rfl (hr2.drew.setRowOther (by omega)).setRow Tryz.underlying26 rfl j2) rfl ⟨by rw [HO.out, HA1.out, HA2.out], by have h : Below B w _ := Below.setRow (Below.setRow hfar.drew (g := B + 1) (by omega) (arrV l1)) (g := B + 2) (by omega) (arrV l2); rw [hB]; exact h⟩
end Go.Proofs.YtkoljgmapclhkaaGreatDoor

namespace Go.Proofs.YtkoljgmapclhkaaGreatDoor
open Go.RowKit

theorem two_new (T : Nat → Prop) (w : World) (c0 c1 : Array Value) (t0 t1 : TypeId) : Blk ((w.alloc (.cells c0 t0)).alloc (.cells c1 t1)) w.heap.size c0 t0 ∧ Blk ((w.alloc (.cells c0 t0)).alloc (.cells c1 t1)) (w.heap.size + 1) c1 t1 ∧
    Kept T w ((w.alloc (.cells c0 t0)).alloc (.cells c1 t1)) ∧ ((w.alloc (.cells c0 t0)).alloc (.cells c1 t1)).heap.size = w.heap.size + 2 := by
  have h1 := Blk.new (w.alloc (.cells c0 t0)) c1 t1
  simp only [World.size_alloc] at h1
  exact ⟨(Blk.new w c0 t0).alloc _, h1, ((Kept.refl _ _).alloc _).alloc _, by simp⟩
/-- Samples made one by one, each out of the one ahead. -/
def scanL (stp : Int → Int → Int) : Int → List Int → List Int
  | _, [] => []
  | s, x :: r => stp s x :: scanL stp (stp s x) r
theorem scan_len (stp : Int → Int → Int) : ∀ (l : List Int) (s : Int), (scanL stp s l).length = l.length := by
  intro l
  induction l with
  | nil => intro _; rfl
  | cons x r ih => intro s; simp [scanL, ih]
theorem scan_append (stp : Int → Int → Int) (x : Int) : ∀ (l : List Int) (s : Int), scanL stp s (l ++ [x]) = scanL stp s l ++ [stp (l.foldl stp s) x] := by
  intro l
  induction l with
  | nil => intro _; rfl
  | cons y r ih => intro s; simp [scanL, ih]
theorem scan_step (stp : Int → Int → Int) {l : List Int} {k : Nat} {x : Int} (hx : l[k]? = some x) (s : Int) : (scanL stp s (l.take k) ++ l.drop k).set k (stp ((l.take k).foldl stp s) x) = scanL stp s (l.take (k + 1)) ++ l.drop (k + 1) := by
  have hk : k < l.length := (List.getElem?_eq_some_iff.1 hx).1
  have hlen : (scanL stp s (l.take k)).length = k := by rw [scan_len, List.length_take]; omega
  have hd : l.drop k = x :: l.drop (k + 1) := by
    rw [List.drop_eq_getElem_cons hk]
    congr 1
    exact (List.getElem?_eq_some_iff.1 hx).2
  rw [List.take_add_one, hx, Option.toList_some, scan_append, hd, List.set_append, if_neg (by omega), hlen, Nat.sub_self]
  simp
theorem lay_scan : ∀ (l : List Int) (s : Int), layG s l = scanL lay1 s l := by
  intro l
  induction l with
  | nil => intro _; rfl
  | cons x r ih => intro s; simp [layG, scanL, ih]
theorem map_scan (f : Int → Int) : ∀ (l : List Int) (s : Int), scanL (fun _ x => f x) s l = l.map f := by
  intro l
  induction l with
  | nil => intro _; rfl
  | cons x r ih => intro s; simp [scanL, ih]
set_option maxRecDepth 100000 in
set_option maxHeartbeats 1600000 in
theorem each1_any (f : FuncId) (p : Value) (T : Nat → Prop) (St : Int → World → Prop) (hst : ∀ s W W', St s W → (∀ k, T k → W'.heap[k]? = W.heap[k]?) → St s W') (stp : Int → Int → Int) (l : List Int) (hl : l.length = 16) (s : Int) (w : World) (hT : ∀ k, T k → k < w.heap.size) (hs : St s w)
    (hcf : ∀ (x : Int) (w : World), (callFunc f #[.int .i64 x, p]).run Tryz.prog w = .ok (.enter f #[.int .i64 x, p]) w)
    (hf : ∀ s x W, St s W → Calls Tryz.prog f #[.int .i64 x, p] W fun e W' => e = .returned (.int .i64 (stp s x)) ∧ St (stp s x) W' ∧ Kept T W W') :
    Calls Tryz.prog 86 #[.agg (arrV l), .func (.func f) #[] #[p]] w fun e w' => e = .returned (.agg (arrV (scanL stp s l))) ∧ St (l.foldl stp s) w' ∧ Kept T w w' := by
  obtain ⟨hA, hR, hk0, hs0⟩ := two_new T w (arrV l) #[.int .i64 0, .int .i64 0, .int .i64 0, .int .i64 0, .int .i64 0, .int .i64 0, .int .i64 0, .int .i64 0, .int .i64 0, .int .i64 0, .int .i64 0, .int .i64 0, .int .i64 0, .int .i64 0, .int .i64 0, .int .i64 0] 26 26
  obtain ⟨B, hB⟩ : ∃ B, w.heap.size = B := ⟨_, rfl⟩
  have hTB : ∀ k, T k → k < B := fun k hk => by have := hT k hk; omega
  have hidx := fun k (hk : k < 16) (w : World) => run_index_arr 26 16 l hl Tryz.underlying26 k hk w
  have HI := Lib.hid hidx
  have HF := Lib.hid hf
  have HST := Lib.hid hst
  have hsz : (Tryz.prog.info? 26).map (·.size) = some (arrV l).size := by rw [arr_size, hl]; exact blockInfo
  have hz : (arrV (List.replicate 16 0)).size = 16 := by rw [arr_size]; rfl
  have hSt0 : St s ((w.alloc (.cells (arrV l) 26)).alloc (.cells #[.int .i64 0, .int .i64 0, .int .i64 0, .int .i64 0, .int .i64 0, .int .i64 0, .int .i64 0, .int .i64 0, .int .i64 0, .int .i64 0, .int .i64 0, .int .i64 0, .int .i64 0, .int .i64 0, .int .i64 0, .int .i64 0] 26)) := hst _ _ _ hs (fun k hk => by
    rw [Below.heap_alloc _ _ _ (by have := hT k hk; simp; omega), Below.heap_alloc _ _ _ (hT k hk)])
  clear hidx hf hst hs hT
  go_enter Tryz.func86, Tryz.ntmps86
  go_upto_region 1 with (fail)
  simp only [hB] at hA hR hs0 ⊢
  revert hA hR hk0 hs0 hSt0
  generalize ((w.alloc (.cells (arrV l) 26)).alloc (.cells #[.int .i64 0, .int .i64 0, .int .i64 0, .int .i64 0, .int .i64 0, .int .i64 0, .int .i64 0, .int .i64 0, .int .i64 0, .int .i64 0, .int .i64 0, .int .i64 0, .int .i64 0, .int .i64 0, .int .i64 0, .int .i64 0] 26)) = w0
  intro hk0 hSt0 hA hR hs0
  rw [zero16] at hR
  go_wp2_with (first | (refine wpList_load_blk rfl 26 (.tmp 2) rfl B rfl (arrV l) 26 hA Tryz.underlying26 hsz ?_))
  go_loopw [8] (fun i wr => ∃ k : Nat, k ≤ 16 ∧ i = .int .i64 k ∧ Blk wr B (arrV (scanL stp s (l.take k) ++ l.drop k)) 26 ∧ Blk wr (B + 1) (arrV (List.replicate 16 0)) 26 ∧ St ((l.take k).foldl stp s) wr ∧ Kept T w wr) (fun i _ => 16 - (intOf i).toNat)
  case atStart => exact ⟨0, by omega, rfl, hA, hR, hSt0, hk0⟩
  case round =>
    obtain ⟨k, hk, rfl, hA, hR, hS, hK⟩ := hrel
    by_cases hlt : k < 16
    · have hi := HI.out k hlt
      have hx : l[k]? = some (l.getD k 0) := by rw [List.getD_eq_getElem?_getD, List.getElem?_eq_getElem (by omega)]; rfl
      obtain ⟨x, hxe⟩ : ∃ x, l.getD k 0 = x := ⟨_, rfl⟩
      rw [hxe] at hi hx
      obtain ⟨S, hSe⟩ : ∃ S, (l.take k).foldl stp s = S := ⟨_, rfl⟩
      rw [hSe] at hS
      have hcall := HF.out S x wr hS
      have hfold : (l.take (k + 1)).foldl stp s = stp S x := by rw [List.take_add_one, hx]; simp [hSe]
      have hrow : (scanL stp s (l.take k) ++ l.drop k).set k (stp S x) = scanL stp s (l.take (k + 1)) ++ l.drop (k + 1) := by have h := scan_step stp hx s; rwa [hSe] at h
      have HFO := Lib.hid hfold
      have HRO := Lib.hid hrow
      obtain ⟨y, hy⟩ : ∃ y, stp S x = y := ⟨_, rfl⟩
      rw [hy] at hcall HFO HRO
      have hlen : (scanL stp s (l.take k) ++ l.drop k).length = 16 := by rw [List.length_append, scan_len, List.length_take, List.length_drop, hl]; omega
      obtain ⟨L, hL⟩ : ∃ L, scanL stp s (l.take k) ++ l.drop k = L := ⟨_, rfl⟩
      rw [hL] at hA HRO hlen
      clear hxe hx hSe hfold hrow hy hL
      go_wp2_with fail
      refine hcall.mono ?_
      rintro e w1 ⟨rfl, hS1, hK1⟩
      have hA1 := hA.keep hK1 (fun h => by have := hTB _ h; omega)
      have hR1 := hR.keep hK1 (fun h => by have := hTB _ h; omega)
      have hKK := hK.trans hK1
      have c1 := (hA1.cell k).trans (arr_get (by rw [hlen]; exact hlt))
      have f1 := hA1.frozen k
      have hA2 := hA1.set k (.int .i64 y)
      rw [arr_set, HRO.out] at hA2
      have hR2 := hR1.other (a := ⟨B, k, none⟩) (by simp only []; omega) (.int .i64 y)
      have hS2 : St y (w1.setCell ⟨B, k, none⟩ (.int .i64 y)) := HST.out _ _ _ hS1 (fun j hj => Below.heap_setCell _ _ _ _ (fun e => by have := hTB _ hj; simp only at e; omega))
      have hK2 := hKK.setCell (p := ⟨B, k, none⟩) (Or.inr (by show w.heap.size ≤ B; omega)) (.int .i64 y)
      go_wp2_with fail
      go_roundw
      case rel => exact ⟨k + 1, hlt, by go_num, hA2, hR2, by rw [HFO.out]; exact hS2, hK2⟩
      case measure => simp [intOf]; omega
    · obtain rfl : k = 16 := by omega
      have et : l.take 16 = l := List.take_of_length_le (by omega)
      have ed : l.drop 16 = [] := List.drop_of_length_le (by omega)
      rw [et, ed, List.append_nil] at hA
      rw [et] at hS
      have hlen : (scanL stp s l).length = 16 := by rw [scan_len, hl]
      obtain ⟨L, hL⟩ : ∃ L, scanL stp s l = L := ⟨_, rfl⟩
      have HL := Lib.hid hL
      rw [hL] at hA hlen
      have hsz2 : (Tryz.prog.info? 26).map (·.size) = some (arrV L).size := by rw [arr_size, hlen]; exact blockInfo
      have hsz3 : (arrV (List.replicate 16 0)).size = (arrV L).size := by rw [hz, arr_size, hlen]
      have hR3 := hR.setRow (new := arrV L)
      have hS3 : St (l.foldl stp s) (wr.setRow (B + 1) (arrV L)) := HST.out _ _ _ hS (fun j hj => setRow_other wr (B + 1) j _ (by have := hTB _ hj; omega))
      have hK3 := hK.setRow (g := B + 1) (Or.inr (by omega)) (arrV L)
      clear hL et ed hsz hS hK
      go_wp2_with (first | (refine wpList_load_blk rfl 26 (.tmp 2) rfl B rfl (arrV L) 26 hA Tryz.underlying26 hsz2 ?_) | (refine wpList_store_blk rfl 26 (.tmp 4) (.tmp 18) rfl (B + 1) _ (arrV L) rfl rfl 26 hR hsz2 hsz3 (arr_one _) ?_))
      exact bodyPost_ret (v := .agg (arrV L)) (results_cell_row Tryz.results86 _ _ (B + 1) 26 _ (0, 0) (.array 16 3) rfl hR3 Tryz.underlying26 rfl hsz2) rfl ⟨by rw [HL.out], hS3, hK3⟩
set_option maxRecDepth 100000 in
set_option maxHeartbeats 1600000 in
theorem each0_any (f : FuncId) (T : Nat → Prop) (St : Int → World → Prop) (hst : ∀ s W W', St s W → (∀ k, T k → W'.heap[k]? = W.heap[k]?) → St s W') (stp : Int → Int → Int) (l : List Int) (hl : l.length = 16) (s : Int) (w : World) (hT : ∀ k, T k → k < w.heap.size) (hs : St s w)
    (hcf : ∀ (x : Int) (w : World), (callFunc f #[.int .i64 x]).run Tryz.prog w = .ok (.enter f #[.int .i64 x]) w)
    (hf : ∀ s x W, St s W → Calls Tryz.prog f #[.int .i64 x] W fun e W' => e = .returned (.int .i64 (stp s x)) ∧ St (stp s x) W' ∧ Kept T W W') :
    Calls Tryz.prog 86 #[.agg (arrV l), .func (.func f) #[] #[]] w fun e w' => e = .returned (.agg (arrV (scanL stp s l))) ∧ St (l.foldl stp s) w' ∧ Kept T w w' := by
  obtain ⟨hA, hR, hk0, hs0⟩ := two_new T w (arrV l) #[.int .i64 0, .int .i64 0, .int .i64 0, .int .i64 0, .int .i64 0, .int .i64 0, .int .i64 0, .int .i64 0, .int .i64 0, .int .i64 0, .int .i64 0, .int .i64 0, .int .i64 0, .int .i64 0, .int .i64 0, .int .i64 0] 26 26
  obtain ⟨B, hB⟩ : ∃ B, w.heap.size = B := ⟨_, rfl⟩
  have hTB : ∀ k, T k → k < B := fun k hk => by have := hT k hk; omega
  have hidx := fun k (hk : k < 16) (w : World) => run_index_arr 26 16 l hl Tryz.underlying26 k hk w
  have HI := Lib.hid hidx
  have HF := Lib.hid hf
  have HST := Lib.hid hst
  have hsz : (Tryz.prog.info? 26).map (·.size) = some (arrV l).size := by rw [arr_size, hl]; exact blockInfo
  have hz : (arrV (List.replicate 16 0)).size = 16 := by rw [arr_size]; rfl
  have hSt0 : St s ((w.alloc (.cells (arrV l) 26)).alloc (.cells #[.int .i64 0, .int .i64 0, .int .i64 0, .int .i64 0, .int .i64 0, .int .i64 0, .int .i64 0, .int .i64 0, .int .i64 0, .int .i64 0, .int .i64 0, .int .i64 0, .int .i64 0, .int .i64 0, .int .i64 0, .int .i64 0] 26)) := hst _ _ _ hs (fun k hk => by
    rw [Below.heap_alloc _ _ _ (by have := hT k hk; simp; omega), Below.heap_alloc _ _ _ (hT k hk)])
  clear hidx hf hst hs hT
  go_enter Tryz.func86, Tryz.ntmps86
  go_upto_region 1 with (fail)
  simp only [hB] at hA hR hs0 ⊢
  revert hA hR hk0 hs0 hSt0
  generalize ((w.alloc (.cells (arrV l) 26)).alloc (.cells #[.int .i64 0, .int .i64 0, .int .i64 0, .int .i64 0, .int .i64 0, .int .i64 0, .int .i64 0, .int .i64 0, .int .i64 0, .int .i64 0, .int .i64 0, .int .i64 0, .int .i64 0, .int .i64 0, .int .i64 0, .int .i64 0] 26)) = w0
  intro hk0 hSt0 hA hR hs0
  rw [zero16] at hR
  go_wp2_with (first | (refine wpList_load_blk rfl 26 (.tmp 2) rfl B rfl (arrV l) 26 hA Tryz.underlying26 hsz ?_))
  go_loopw [8] (fun i wr => ∃ k : Nat, k ≤ 16 ∧ i = .int .i64 k ∧ Blk wr B (arrV (scanL stp s (l.take k) ++ l.drop k)) 26 ∧ Blk wr (B + 1) (arrV (List.replicate 16 0)) 26 ∧ St ((l.take k).foldl stp s) wr ∧ Kept T w wr) (fun i _ => 16 - (intOf i).toNat)
  case atStart => exact ⟨0, by omega, rfl, hA, hR, hSt0, hk0⟩
  case round =>
    obtain ⟨k, hk, rfl, hA, hR, hS, hK⟩ := hrel
    by_cases hlt : k < 16
    · have hi := HI.out k hlt
      have hx : l[k]? = some (l.getD k 0) := by rw [List.getD_eq_getElem?_getD, List.getElem?_eq_getElem (by omega)]; rfl
      obtain ⟨x, hxe⟩ : ∃ x, l.getD k 0 = x := ⟨_, rfl⟩
      rw [hxe] at hi hx
      obtain ⟨S, hSe⟩ : ∃ S, (l.take k).foldl stp s = S := ⟨_, rfl⟩
      rw [hSe] at hS
      have hcall := HF.out S x wr hS
      have hfold : (l.take (k + 1)).foldl stp s = stp S x := by rw [List.take_add_one, hx]; simp [hSe]
      have hrow : (scanL stp s (l.take k) ++ l.drop k).set k (stp S x) = scanL stp s (l.take (k + 1)) ++ l.drop (k + 1) := by have h := scan_step stp hx s; rwa [hSe] at h
      have HFO := Lib.hid hfold
      have HRO := Lib.hid hrow
      obtain ⟨y, hy⟩ : ∃ y, stp S x = y := ⟨_, rfl⟩
      rw [hy] at hcall HFO HRO
      have hlen : (scanL stp s (l.take k) ++ l.drop k).length = 16 := by rw [List.length_append, scan_len, List.length_take, List.length_drop, hl]; omega
      obtain ⟨L, hL⟩ : ∃ L, scanL stp s (l.take k) ++ l.drop k = L := ⟨_, rfl⟩
      rw [hL] at hA HRO hlen
      clear hxe hx hSe hfold hrow hy hL
      go_wp2_with fail
      refine hcall.mono ?_
      rintro e w1 ⟨rfl, hS1, hK1⟩
      have hA1 := hA.keep hK1 (fun h => by have := hTB _ h; omega)
      have hR1 := hR.keep hK1 (fun h => by have := hTB _ h; omega)
      have hKK := hK.trans hK1
      have c1 := (hA1.cell k).trans (arr_get (by rw [hlen]; exact hlt))
      have f1 := hA1.frozen k
      have hA2 := hA1.set k (.int .i64 y)
      rw [arr_set, HRO.out] at hA2
      have hR2 := hR1.other (a := ⟨B, k, none⟩) (by simp only []; omega) (.int .i64 y)
      have hS2 : St y (w1.setCell ⟨B, k, none⟩ (.int .i64 y)) := HST.out _ _ _ hS1 (fun j hj => Below.heap_setCell _ _ _ _ (fun e => by have := hTB _ hj; simp only at e; omega))
      have hK2 := hKK.setCell (p := ⟨B, k, none⟩) (Or.inr (by show w.heap.size ≤ B; omega)) (.int .i64 y)
      go_wp2_with fail
      go_roundw
      case rel => exact ⟨k + 1, hlt, by go_num, hA2, hR2, by rw [HFO.out]; exact hS2, hK2⟩
      case measure => simp [intOf]; omega
    · obtain rfl : k = 16 := by omega
      have et : l.take 16 = l := List.take_of_length_le (by omega)
      have ed : l.drop 16 = [] := List.drop_of_length_le (by omega)
      rw [et, ed, List.append_nil] at hA
      rw [et] at hS
      have hlen : (scanL stp s l).length = 16 := by rw [scan_len, hl]
      obtain ⟨L, hL⟩ : ∃ L, scanL stp s l = L := ⟨_, rfl⟩
      have HL := Lib.hid hL
      rw [hL] at hA hlen
      have hsz2 : (Tryz.prog.info? 26).map (·.size) = some (arrV L).size := by rw [arr_size, hlen]; exact blockInfo
      have hsz3 : (arrV (List.replicate 16 0)).size = (arrV L).size := by rw [hz, arr_size, hlen]
      have hR3 := hR.setRow (new := arrV L)
      have hS3 : St (l.foldl stp s) (wr.setRow (B + 1) (arrV L)) := HST.out _ _ _ hS (fun j hj => setRow_other wr (B + 1) j _ (by have := hTB _ hj; omega))
      have hK3 := hK.setRow (g := B + 1) (Or.inr (by omega)) (arrV L)
      clear hL et ed hsz hS hK
      go_wp2_with (first | (refine wpList_load_blk rfl 26 (.tmp 2) rfl B rfl (arrV L) 26 hA Tryz.underlying26 hsz2 ?_) | (refine wpList_store_blk rfl 26 (.tmp 4) (.tmp 18) rfl (B + 1) _ (arrV L) rfl rfl 26 hR hsz2 hsz3 (arr_one _) ?_))
      exact bodyPost_ret (v := .agg (arrV L)) (results_cell_row Tryz.results86 _ _ (B + 1) 26 _ (0, 0) (.array 16 3) rfl hR3 Tryz.underlying26 rfl hsz2) rfl ⟨by rw [HL.out], hS3, hK3⟩
theorem tcut_any (x : Int) (w : World) : Calls Tryz.prog 85 #[.int .i64 x] w fun e w' => e = .returned (.int .i64 (Sp.cut 22 x)) ∧ w = w' := by
  go_enter Tryz.func85, Tryz.ntmps85
  go_wp2_with fail
  refine (Cut22 x _).mono ?_
  rintro e w1 ⟨rfl, rfl⟩
  go_wp2_with fail
  go_ret
  exact ⟨rfl, rfl⟩
theorem cut22_bd (x : Int) : -2097152 ≤ Sp.cut 22 x ∧ Sp.cut 22 x ≤ 2097151 := by
  have e : Sp.cut 22 x = max (min x 2097151) (-2097152) := rfl
  rw [e]; omega
theorem td_bd (a A : Int) (h0 : -A ≤ a) (h1 : a ≤ A) : -A ≤ a.tdiv 32768 ∧ a.tdiv 32768 ≤ A := by
  rcases Int.le_total 0 a with h | h
  · rw [Int.tdiv_eq_ediv_of_nonneg h]; omega
  · have e : a.tdiv 32768 = -((-a) / 32768) := by
      have h2 := Int.neg_tdiv (-a) 32768
      rw [Int.neg_neg] at h2
      rw [h2, Int.tdiv_eq_ediv_of_nonneg (by omega)]
    rw [e]; omega
set_option maxHeartbeats 800000 in
theorem Lay1_any (g : Nat) (s x : Int) (h0 : -2097152 ≤ s) (h1 : s ≤ 2097151) (w : World) (hB : Blk w g #[.int .i64 s] 3) :
    Calls Tryz.prog 121 #[.int .i64 x, .pointer (some ⟨g, 0, none⟩)] w fun e w' => e = .returned (.int .i64 (lay1 s x)) ∧ Blk w' g #[.int .i64 (lay1 s x)] 3 ∧ Kept (· = g) w w' := by
  have c0 := hB.cell 0
  simp only [List.getElem?_toArray, List.getElem?_cons_zero] at c0
  have f0 := hB.frozen 0
  have q1 := td_bd (27853 * s) 58412449792 (by omega) (by omega)
  have hl : lay1 s x = Sp.cut 22 (Sp.cut 22 x + (27853 * s).tdiv 32768) := rfl
  obtain ⟨q, hq⟩ : ∃ q, (27853 * s).tdiv 32768 = q := ⟨_, rfl⟩
  have hc1 := fun w => tcut_any x w
  have b1 := cut22_bd x
  obtain ⟨c, hc⟩ : ∃ c, Sp.cut 22 x = c := ⟨_, rfl⟩
  rw [hq] at q1 hl
  rw [hc] at b1 hl
  simp only [hc] at hc1
  have w1 : IntKind.i64.wrap (27853 * s) = 27853 * s := IntWalk.i64_in _ (by omega)
  have w3 : IntKind.i64.wrap (c + q) = c + q := IntWalk.i64_in _ (by omega)
  have w2 : IntKind.i64.wrap q = q := IntWalk.i64_in _ (by omega)
  have hc2 := fun w => tcut_any (c + q) w
  rw [← hl] at hc2
  have HL := Lib.hid hl
  obtain ⟨y, hy⟩ : ∃ y, lay1 s x = y := ⟨_, rfl⟩
  rw [hy]
  simp only [hy] at hc2
  clear hl hc hy
  go_enter Tryz.func121, Tryz.ntmps121
  go_wp2_with fail
  go_region_with (first | (go_at_call_of 85 x; refine (hc1 _).mono ?_; rintro r5 w5 ⟨rfl, rfl⟩) | (go_at_call_of 85 (c + q); refine (hc2 _).mono ?_; rintro r5 w5 ⟨rfl, rfl⟩))
  all_goals
    go_wp2_with fail
    go_ret
    refine ⟨rfl, ?_, ?_⟩
    · repeat' (first | (with_reducible assumption) | (with_reducible refine Blk.drew ?_) | (with_reducible refine Blk.drewN ?_ _) | (with_reducible apply Blk.set1) | ((with_reducible refine Blk.other ?_ ?ne _); case ne => (first | (simp only []; omega) | omega)) | (with_reducible refine Blk.alloc ?_ _))
    · repeat (first | (with_reducible exact Kept.refl _ _) | (with_reducible assumption) | (with_reducible refine Kept.drew ?_) | (with_reducible refine Kept.drewN ?_ _) | ((with_reducible refine Kept.setCell ?_ ?hp _); case hp => (first | exact Or.inl rfl | (left; simp; done) | (right; simp only [World.size_alloc, World.size_setCell, World.size_drew]; omega))) | (with_reducible refine Kept.alloc ?_ _))
set_option maxHeartbeats 800000 in
theorem Sound1_any (x : Int) (w : World) : Calls Tryz.prog 122 #[.int .i64 x] w fun e w' => e = .returned (.int .i64 (Sp.cut 16 x)) ∧ w = w' := by
  go_enter Tryz.func122, Tryz.ntmps122
  go_wp2_with fail
  refine (Cut16 x _).mono ?_
  rintro e w1 ⟨rfl, rfl⟩
  go_wp2_with fail
  go_ret
  exact ⟨rfl, rfl⟩
end Go.Proofs.YtkoljgmapclhkaaGreatDoor

namespace Go.Proofs.YtkoljgmapclhkaaGreatDoor
open Go.RowKit

set_option maxRecDepth 100000 in
set_option maxHeartbeats 1600000 in
theorem Sound_any (l : List Int) (hl : l.length = 16) (w : World) : Calls Tryz.prog 72 #[.agg (arrV l)] w fun e w' => e = .returned (.agg (arrV (soundL l))) ∧ Below w.heap.size w w' := by
  obtain ⟨hA, hR, hk0, hs0⟩ := two_new (fun _ => False) w (arrV l) #[.int .i64 0, .int .i64 0, .int .i64 0, .int .i64 0, .int .i64 0, .int .i64 0, .int .i64 0, .int .i64 0, .int .i64 0, .int .i64 0, .int .i64 0, .int .i64 0, .int .i64 0, .int .i64 0, .int .i64 0, .int .i64 0] 26 26
  obtain ⟨B, hB⟩ : ∃ B, w.heap.size = B := ⟨_, rfl⟩
  have hsz : (Tryz.prog.info? 26).map (·.size) = some (arrV l).size := by rw [arr_size, hl]; exact blockInfo
  have hcall := fun W => each0_any 122 (fun _ => False) (fun _ _ => True) (fun _ _ _ _ _ => trivial) (fun _ x => Sp.cut 16 x) l hl 0 W (fun _ h => h.elim) trivial (fun _ _ => by kernel_rfl) (fun _ x W _ => (Sound1_any x W).mono fun e W' ⟨h1, h2⟩ => ⟨h1, trivial, h2 ▸ Kept.refl _ _⟩)
  simp only [map_scan] at hcall
  have hol : (soundL l).length = 16 := by unfold soundL; rw [List.length_map, hl]
  obtain ⟨L, hL⟩ : ∃ L, soundL l = L := ⟨_, rfl⟩
  have HL := Lib.hid hL
  rw [hL] at hol
  rw [show l.map (fun x => Sp.cut 16 x) = L from hL] at hcall
  have j1 : (Tryz.prog.info? 26).map (·.size) = some (arrV L).size := by rw [arr_size, hol]; exact blockInfo
  have k1 : (arrV (List.replicate 16 0)).size = (arrV L).size := by rw [arr_size, arr_size, hol]; rfl
  have HC := Lib.hid hcall
  clear hcall hL
  go_enter Tryz.func72, Tryz.ntmps72
  go_upto_region 1 with (fail)
  simp only [hB] at hA hR hs0 ⊢
  revert hA hR hk0 hs0
  generalize ((w.alloc (.cells (arrV l) 26)).alloc (.cells #[.int .i64 0, .int .i64 0, .int .i64 0, .int .i64 0, .int .i64 0, .int .i64 0, .int .i64 0, .int .i64 0, .int .i64 0, .int .i64 0, .int .i64 0, .int .i64 0, .int .i64 0, .int .i64 0, .int .i64 0, .int .i64 0] 26)) = w0
  intro hk0 hA hR hs0
  rw [zero16] at hR
  go_wp2_with (first | (refine wpList_load_blk rfl 26 (.tmp 1) rfl B rfl (arrV l) 26 hA Tryz.underlying26 hsz ?_))
  refine (HC.out _).mono ?_
  rintro e w1 ⟨rfl, -, hK1⟩
  have hR1 := hR.keep hK1 (fun h => h)
  have hKK := hk0.trans hK1
  have hR2 := hR1.setRow (new := arrV L)
  have hK2 := hKK.setRow (g := B + 1) (Or.inr (by omega)) (arrV L)
  go_wp2_with (first | (refine wpList_store_blk rfl 26 (.tmp 2) (.tmp 4) rfl (B + 1) _ (arrV L) rfl rfl 26 hR1 j1 k1 (arr_one _) ?_))
  exact bodyPost_ret (v := .agg (arrV L)) (results_cell_row Tryz.results72 _ _ (B + 1) 26 _ (0, 0) (.array 16 3) rfl hR2 Tryz.underlying26 rfl j1) rfl ⟨by rw [HL.out], hK2.below (fun _ h => h.elim) (Nat.le_refl _)⟩
theorem three_new (w : World) (c0 c1 c2 : Array Value) (t0 t1 t2 : TypeId) : Blk (((w.alloc (.cells c0 t0)).alloc (.cells c1 t1)).alloc (.cells c2 t2)) w.heap.size c0 t0 ∧ Blk (((w.alloc (.cells c0 t0)).alloc (.cells c1 t1)).alloc (.cells c2 t2)) (w.heap.size + 1) c1 t1 ∧
    Blk (((w.alloc (.cells c0 t0)).alloc (.cells c1 t1)).alloc (.cells c2 t2)) (w.heap.size + 2) c2 t2 ∧ Below w.heap.size w (((w.alloc (.cells c0 t0)).alloc (.cells c1 t1)).alloc (.cells c2 t2)) ∧ (((w.alloc (.cells c0 t0)).alloc (.cells c1 t1)).alloc (.cells c2 t2)).heap.size = w.heap.size + 3 := by
  have h0 := Blk.new w c0 t0
  have h1 := Blk.new (w.alloc (.cells c0 t0)) c1 t1
  have h2 := Blk.new ((w.alloc (.cells c0 t0)).alloc (.cells c1 t1)) c2 t2
  simp only [World.size_alloc] at h1 h2
  exact ⟨(h0.alloc _).alloc _, h1.alloc _, h2, (((Below.refl _ _).alloc (Nat.le_refl _) _).alloc (by simp) _).alloc (by simp; omega) _, by simp⟩
theorem lay1_bd (s x : Int) : -2097152 ≤ lay1 s x ∧ lay1 s x ≤ 2097151 := cut22_bd _
set_option maxRecDepth 100000 in
set_option maxHeartbeats 1600000 in
theorem Lay_any (last : Int) (l : List Int) (hl : l.length = 16) (w : World) : Calls Tryz.prog 69 #[.int .i64 last, .agg (arrV l)] w fun e w' => e = .returned (.tuple #[.agg (arrV (layL last l)), .int .i64 (layN last l)]) ∧ Below w.heap.size w w' := by
  obtain ⟨hA, hB1, hR, hb0, hs0⟩ := three_new w #[.int .i64 last] (arrV l) #[.int .i64 0, .int .i64 0, .int .i64 0, .int .i64 0, .int .i64 0, .int .i64 0, .int .i64 0, .int .i64 0, .int .i64 0, .int .i64 0, .int .i64 0, .int .i64 0, .int .i64 0, .int .i64 0, .int .i64 0, .int .i64 0] 3 26 26
  obtain ⟨B, hB⟩ : ∃ B, w.heap.size = B := ⟨_, rfl⟩
  have hsz : (Tryz.prog.info? 26).map (·.size) = some (arrV l).size := by rw [arr_size, hl]; exact blockInfo
  have hcall := fun W h1 h2 => each1_any 121 (.pointer (some ⟨B, 0, none⟩)) (· = B) (fun s W => Blk W B #[.int .i64 s] 3 ∧ -2097152 ≤ s ∧ s ≤ 2097151) (fun s W W' h hk => ⟨(hk B rfl).trans h.1, h.2⟩) lay1 l hl (Sp.cut 22 last) W h1 h2 (fun _ _ => by kernel_rfl)
    (fun s x W h => (Lay1_any B s x h.2.1 h.2.2 W h.1).mono fun e W' ⟨e1, e2, e3⟩ => ⟨e1, ⟨e2, lay1_bd s x⟩, e3⟩)
  simp only [← lay_scan] at hcall
  have hol : (layL last l).length = 16 := by unfold layL; rw [layG_len, hl]
  have hLL : layG (Sp.cut 22 last) l = layL last l := rfl
  have hNN : l.foldl lay1 (Sp.cut 22 last) = layN last l := rfl
  simp only [hLL, hNN] at hcall
  obtain ⟨L, hL⟩ : ∃ L, layL last l = L := ⟨_, rfl⟩
  obtain ⟨n, hn⟩ : ∃ n, layN last l = n := ⟨_, rfl⟩
  have HL := Lib.hid hL
  have HN := Lib.hid hn
  rw [hL] at hol
  simp only [hL, hn] at hcall
  have i1 : (Tryz.prog.info? 26).map (·.size) = some (intsV L).length := by rw [List.length_map, hol]; exact blockInfo
  have j1 : (Tryz.prog.info? 26).map (·.size) = some (arrV L).size := by rw [arr_size, hol]; exact blockInfo
  have k1 : (arrV (List.replicate 16 0)).size = (arrV L).size := by rw [arr_size, arr_size, hol]; rfl
  have HC := Lib.hid hcall
  have hcut := fun w => tcut_any last w
  have hcb := cut22_bd last
  obtain ⟨c, hc⟩ : ∃ c, Sp.cut 22 last = c := ⟨_, rfl⟩
  rw [hc] at hcb HC
  simp only [hc] at hcut
  clear hcall hL hn hLL hNN hc
  go_enter Tryz.func69, Tryz.ntmps69
  go_upto_region 1 with (fail)
  simp only [hB] at hA hB1 hR hb0 hs0 ⊢
  revert hA hB1 hR hb0 hs0
  generalize (((w.alloc (.cells #[.int .i64 last] 3)).alloc (.cells (arrV l) 26)).alloc (.cells #[.int .i64 0, .int .i64 0, .int .i64 0, .int .i64 0, .int .i64 0, .int .i64 0, .int .i64 0, .int .i64 0, .int .i64 0, .int .i64 0, .int .i64 0, .int .i64 0, .int .i64 0, .int .i64 0, .int .i64 0, .int .i64 0] 26)) = w0
  intro hA hB1 hR hb0 hs0
  rw [zero16] at hR
  have c0 := hA.cell 0
  simp only [List.getElem?_toArray, List.getElem?_cons_zero] at c0
  have f0 := hA.frozen 0
  have hA1 := hA.set1 (.int .i64 c)
  have hB2 := hB1.other (a := ⟨B, 0, none⟩) (by simp only []; omega) (.int .i64 c)
  have hR1 := hR.other (a := ⟨B, 0, none⟩) (by simp only []; omega) (.int .i64 c)
  have hb1 := hb0.setCell (p := ⟨B, 0, none⟩) (Nat.le_refl _) (.int .i64 c)
  have hs1 : (w0.setCell ⟨B, 0, none⟩ (.int .i64 c)).heap.size = B + 3 := by simp [hs0]
  go_wp2_with fail
  refine (hcut _).mono ?_
  rintro e w1 ⟨rfl, rfl⟩
  go_upto_region 2 with (fail)
  revert hA1 hB2 hR1 hb1 hs1
  clear hA hB1 hR hb0 hs0 c0 f0
  generalize (w0.setCell ⟨B, 0, none⟩ (.int .i64 c)) = w2
  intro hA hB1 hR hb0 hs0
  go_wp2_with (first | (refine wpList_load_blk rfl 26 (.tmp 3) rfl (B + 1) rfl (arrV l) 26 hB1 Tryz.underlying26 hsz ?_))
  refine (HC.out _ (fun k hk => by subst hk; omega) ⟨hA, hcb⟩).mono ?_
  rintro e w3 ⟨rfl, ⟨hA3, hn0, hn1⟩, hK3⟩
  have hR3 := hR.keep hK3 (by omega)
  have hb3 : Below B w w3 := hb0.trans (hK3.below (fun k hk => by have h : k = B := hk; omega) (by omega))
  have hs3 := hb3.size
  have hs3' := hK3.size
  obtain ⟨g6, hg6⟩ : ∃ g, w3.heap.size = g := ⟨_, rfl⟩
  have hg7 : B + 3 ≤ g6 := by omega
  have hN := Blk.new w3 #[.int .i64 0, .int .i64 0, .int .i64 0, .int .i64 0, .int .i64 0, .int .i64 0, .int .i64 0, .int .i64 0, .int .i64 0, .int .i64 0, .int .i64 0, .int .i64 0, .int .i64 0, .int .i64 0, .int .i64 0, .int .i64 0] 26
  rw [hg6] at hN
  have hN1 := hN.setRow (new := arrV L)
  have k2 : (#[.int .i64 0, .int .i64 0, .int .i64 0, .int .i64 0, .int .i64 0, .int .i64 0, .int .i64 0, .int .i64 0, .int .i64 0, .int .i64 0, .int .i64 0, .int .i64 0, .int .i64 0, .int .i64 0, .int .i64 0, .int .i64 0] : Array Value).size = (arrV L).size := by rw [arr_size, hol]; rfl
  have hA4 : Blk ((w3.alloc (.cells #[.int .i64 0, .int .i64 0, .int .i64 0, .int .i64 0, .int .i64 0, .int .i64 0, .int .i64 0, .int .i64 0, .int .i64 0, .int .i64 0, .int .i64 0, .int .i64 0, .int .i64 0, .int .i64 0, .int .i64 0, .int .i64 0] 26)).setRow g6 (arrV L)) B #[.int .i64 n] 3 := (hA3.alloc _).setRowOther (by omega)
  have hR4 : Blk ((w3.alloc (.cells #[.int .i64 0, .int .i64 0, .int .i64 0, .int .i64 0, .int .i64 0, .int .i64 0, .int .i64 0, .int .i64 0, .int .i64 0, .int .i64 0, .int .i64 0, .int .i64 0, .int .i64 0, .int .i64 0, .int .i64 0, .int .i64 0] 26)).setRow g6 (arrV L)) (B + 2) (arrV (List.replicate 16 0)) 26 := (hR3.alloc _).setRowOther (by omega)
  have hb4 : Below B w ((w3.alloc (.cells #[.int .i64 0, .int .i64 0, .int .i64 0, .int .i64 0, .int .i64 0, .int .i64 0, .int .i64 0, .int .i64 0, .int .i64 0, .int .i64 0, .int .i64 0, .int .i64 0, .int .i64 0, .int .i64 0, .int .i64 0, .int .i64 0] 26)).setRow g6 (arrV L)) := Below.setRow (hb3.alloc (by omega) _) (by omega) _
  go_upto_region 3 with (first | (refine wpList_store_blk rfl 26 (.tmp 6) (.tmp 11) rfl g6 _ (arrV L) rfl rfl 26 hN j1 k2 (arr_one _) ?_))
  revert hN1 hA4 hR4 hb4
  clear hA hB1 hR hb0 hs0 hA3 hR3 hb3 hN
  generalize ((w3.alloc (.cells #[.int .i64 0, .int .i64 0, .int .i64 0, .int .i64 0, .int .i64 0, .int .i64 0, .int .i64 0, .int .i64 0, .int .i64 0, .int .i64 0, .int .i64 0, .int .i64 0, .int .i64 0, .int .i64 0, .int .i64 0, .int .i64 0] 26)).setRow g6 (arrV L)) = w4
  intro hO hA hR hb
  have cB : w4.cell? ⟨B, 0, none⟩ = some (.int .i64 n) := by have h := hA.cell 0; simpa using h
  have hcB : (w4.drew.setRow (B + 2) (arrV L)).cell? ⟨B, 0, none⟩ = some (.int .i64 n) := by
    have h := (hA.drew.setRowOther (g := B + 2) (new := arrV L) (by omega)).cell 0
    simpa using h
  refine wp_region_held_drew (S := (fun W => Blk W g6 (arrV L) 26 ∧ W.cell? ⟨B, 0, none⟩ = some (.int .i64 n))) (by kernel_rfl) ⟨hO.drew, cB⟩ (fun hH => ?_)
  refine tk 0 hH (v := .agg (arrV L)) (y := (yieldsIf_load_mid (by rfl) 26 (.tmp 6) rfl g6 0 rfl (intsV L) (.array 16 3) (fun _ h => by have h2 := h.1.range 0 16 (by omega); rwa [List.drop_zero, List.take_of_length_le (by omega)] at h2) Tryz.underlying26 rfl i1)) (k := ?_)
  refine tk 1 hH (v := .int .i64 n) (y := .inl ⟨by rfl, fun w hS => by have h2 := hS.2; go_simp⟩) (k := ?_)
  refine wpAnyH_ready (rs := [2]) (by kernel_rfl) (by simp) ?_
  refine rc (h := fun K hK => ?_) (r := AllReadyH.nil)
  refine wp_store_blk 26 (.tmp 4) (.tmp 12) rfl (B + 2) _ (arrV L) rfl rfl 26 hR.drew j1 k1 (arr_one _) ?_
  refine hK.out _ _ ⟨(hO.drew).setRowOther (by omega), hcB⟩ (fun hH => ?_)
  clear hK K
  try simp only [Act.put, sa, List.set_cons_zero, List.set_cons_succ]
  refine tk 3 hH (v := .int .i64 n) (y := .inl ⟨by rfl, fun w hS => by go_simp⟩) (k := ?_)
  refine wpAnyH_done (by kernel_rfl) ?_ _

  go_wp2_with fail
  exact bodyPost_ret (v := .tuple #[.agg (arrV L), .int .i64 n]) (results_ct Tryz.results69 _ _ (B + 2) 26 _ (.array 16 3) _ rfl hR.drew.setRow Tryz.underlying26 rfl j1 rfl) rfl ⟨by rw [HL.out, HN.out], by rw [hB]; exact Below.setRow hb.drew (g := B + 2) (by omega) (arrV L)⟩
end Go.Proofs.YtkoljgmapclhkaaGreatDoor
