/- Frames, levels and states compared. Plain laws of packets of zero bytes: no level changes, of no levels nothing is heard. The walks of spoollaw12.Of and spoollaw13.awake. Plain laws of what is decoded: the sound has 16 bits, the state behind is right. Slices of elements of many cells: read, cut, appended. Arms of the walk for whole arrays and structs, and a world by a new name. -/
import Derived.Test.YtkoljgmapclhkaaGreatDoorLot4
import Derived.ChangeKeysEq
import Derived.Test.YtkoljgmapclhkaaGreatDoorLot5
import Derived.Laws.BytesArg
import Derived.Test.YtkoljgmapclhkaaGreatDoorLot0
import Derived.Deep.MidRow
import Derived.Laws.OwnMore
set_option linter.unusedSimpArgs false
set_option linter.unusedVariables false
namespace Go.Proofs.YtkoljgmapclhkaaGreatDoor
open Go.RowKit

theorem run_part_int (l : List Int) (i : Nat) (h : i < l.length) (w : World) : (part 3 (arrV l) (i * 1)).run Tryz.prog w = .ok (.int .i64 (l.getD i 0)) w := by
  have h2 : (isAgg 3).run Tryz.prog w = .ok false w := by kernel_rfl
  simp [part, h2, List.getElem?_eq_getElem h]
theorem eqItems_ints (d : Nat) (xs ys : List Int) (w : World) : ∀ is : List Nat, (∀ i ∈ is, i < xs.length ∧ i < ys.length) → (Op.eqItems (d + 1) 3 1 (arrV xs) (arrV ys) is).run Tryz.prog w = .ok (is.all fun i => xs.getD i 0 == ys.getD i 0) w := by
  intro is
  induction is with
  | nil => intro _; simp [Op.eqItems]
  | cons i is ih =>
    intro h
    have hi := h i List.mem_cons_self
    have hr := ih (fun j hj => h j (List.mem_cons_of_mem _ hj))
    simp only [Op.eqItems, Sem.run_bind, run_part_int xs i hi.1 w, run_part_int ys i hi.2 w, Result.andThen_ok, run_equalIn_int w d 3 .i64 .i64 _ _ Tryz.underlying3, List.all_cons]
    cases xs.getD i 0 == ys.getD i 0 with
    | false => simp
    | true => simpa using hr
theorem all_getD {xs ys : List Int} (h : xs.length = ys.length) : ((List.range xs.length).all fun i => xs.getD i 0 == ys.getD i 0) = (xs == ys) := by
  rw [Bool.eq_iff_iff, List.all_eq_true, beq_iff_eq]
  refine ⟨fun ha => ?_, fun e => by subst e; simp⟩
  apply List.ext_getElem h
  intro i h1 h2
  have := ha i (List.mem_range.2 h1)
  simpa [List.getD_eq_getElem?_getD, List.getElem?_eq_getElem h1, List.getElem?_eq_getElem h2] using this
set_option maxRecDepth 100000 in
theorem eq_ints (d : Nat) {t : TypeId} {n : Nat} (xs ys : List Int) (hx : xs.length = n) (hy : ys.length = n) (hu : Tryz.prog.underlying t = some (.array n 3)) (w : World) :
    (Op.equalIn (d + 2) t (.agg (arrV xs)) (.agg (arrV ys))).run Tryz.prog w = .ok (xs == ys) w := by
  obtain ⟨i, hi⟩ : ∃ i, Tryz.prog.info? 3 = some i := ⟨_, rfl⟩
  have hc : Tryz.prog.cellsOf 3 = 1 := by kernel_rfl
  rw [run_equalIn_array w (d + 1) _ _ hu hi, hc, eqItems_ints d xs ys w _ (fun i hi => by have := List.mem_range.1 hi; omega), ← all_getD (by omega), hx]
set_option maxRecDepth 100000 in
theorem eq_block (xs ys : List Int) (hx : xs.length = 16) (hy : ys.length = 16) (w : World) : (Op.equalIn 10000 26 (.agg (arrV xs)) (.agg (arrV ys))).run Tryz.prog w = .ok (xs == ys) w := eq_ints 9998 xs ys hx hy Tryz.underlying26 w
set_option maxRecDepth 100000 in
theorem eq_four (xs ys : List Int) (hx : xs.length = 4) (hy : ys.length = 4) (w : World) : (Op.equalIn 10000 27 (.agg (arrV xs)) (.agg (arrV ys))).run Tryz.prog w = .ok (xs == ys) w := eq_ints 9998 xs ys hx hy Tryz.underlying27 w
set_option maxRecDepth 100000 in
theorem run_part_arr (t : TypeId) (l : List Int) (o n : Nat) (w : World) (ha : (isAgg t).run Tryz.prog w = .ok true w) (hs : (sizeOf t).run Tryz.prog w = .ok n w) : (part t (arrV l) o).run Tryz.prog w = .ok (.agg (arrV ((l.drop o).take n))) w := by
  simp only [part, Sem.run_bind, ha, hs, Result.andThen_ok, if_true, Sem.run_pure]
  congr 2
  simp [List.extract_eq_take_drop]
theorem run_part_one (l : List Int) (o : Nat) (h : o < l.length) (w : World) : (part 3 (arrV l) o).run Tryz.prog w = .ok (.int .i64 (l.getD o 0)) w := by
  have := run_part_int l o h w
  rwa [Nat.mul_one] at this
theorem eqFields_step {d : Nat} {xs ys : Array Value} {f : Field} {fs : List Field} {w : World} {a b : Value} (hn : f.name ≠ "_") (ha : (part f.type xs f.offset).run Tryz.prog w = .ok a w) (hb : (part f.type ys f.offset).run Tryz.prog w = .ok b w)
    (hr : (Op.equalIn d f.type a b).run Tryz.prog w = .ok true w) : (Op.eqFields d xs ys (f :: fs)).run Tryz.prog w = (Op.eqFields d xs ys fs).run Tryz.prog w := by
  rw [Op.eqFields, if_pos hn]
  simp only [Sem.run_bind, ha, hb, hr, Result.andThen_ok, Bool.not_true, Bool.false_eq_true, if_false]
set_option maxRecDepth 100000 in
theorem eq_state_d (d : Nat) (L : List Int) (h : L.length = 38) (w : World) : (Op.equalIn (d + 3) 29 (.agg (arrV L)) (.agg (arrV L))).run Tryz.prog w = .ok true w := by
  have ht : Tryz.prog.underlying 29 = some (.struct (Tryz.prog.fieldsOf 29)) := by kernel_rfl
  have hp : Tryz.prog.stoodInHeld 29 = false := by kernel_rfl
  have a16 : (isAgg 26).run Tryz.prog w = .ok true w := by kernel_rfl
  have a4 : (isAgg 27).run Tryz.prog w = .ok true w := by kernel_rfl
  have s16 : (sizeOf 26).run Tryz.prog w = .ok 16 w := by kernel_rfl
  have s4 : (sizeOf 27).run Tryz.prog w = .ok 4 w := by kernel_rfl
  have e0 : ((L.drop 0).take 16).length = 16 := by rw [List.length_take, List.length_drop, h]; rfl
  have e2 : ((L.drop 17).take 4).length = 4 := by rw [List.length_take, List.length_drop, h]; rfl
  have e3 : ((L.drop 21).take 16).length = 16 := by rw [List.length_take, List.length_drop, h]; rfl
  rw [run_equalIn_struct w (d + 2) _ _ _ ht hp]
  have q0 := eq_ints d _ _ e0 e0 Tryz.underlying26 w
  have q2 := eq_ints d _ _ e2 e2 Tryz.underlying27 w
  have q3 := eq_ints d _ _ e3 e3 Tryz.underlying26 w
  have p0 := run_part_arr 26 L 0 16 w a16 s16
  have p2 := run_part_arr 27 L 17 4 w a4 s4
  have p3 := run_part_arr 26 L 21 16 w a16 s16
  have p1 := run_part_one L 16 (by omega) w
  have p4 := run_part_one L 37 (by omega) w
  simp only [beq_self_eq_true] at q0 q2 q3
  have n0 : ("Mem" : String) ≠ "_" := by decide +kernel
  have n1 : ("Last" : String) ≠ "_" := by decide +kernel
  have n2 : ("Levels" : String) ≠ "_" := by decide +kernel
  have n3 : ("Waves" : String) ≠ "_" := by decide +kernel
  have n4 : ("Lost" : String) ≠ "_" := by decide +kernel
  simp only [Program.fieldsOf, Tryz.underlying29]
  have r1 := run_equalIn_int w (d + 1) 3 .i64 .i64 (L.getD 16 0) (L.getD 16 0) Tryz.underlying3
  have r4 := run_equalIn_int w (d + 1) 3 .i64 .i64 (L.getD 37 0) (L.getD 37 0) Tryz.underlying3
  rw [beq_self_eq_true] at r1 r4
  refine Eq.trans (eqFields_step (a := .agg (arrV ((L.drop 0).take 16))) (b := .agg (arrV ((L.drop 0).take 16))) ?_ ?_ ?_ ?_) ?_
  · exact n0
  · exact p0
  · exact p0
  · exact q0
  refine Eq.trans (eqFields_step (a := .int .i64 (L.getD 16 0)) (b := .int .i64 (L.getD 16 0)) ?_ ?_ ?_ ?_) ?_
  · exact n1
  · exact p1
  · exact p1
  · exact r1
  refine Eq.trans (eqFields_step (a := .agg (arrV ((L.drop 17).take 4))) (b := .agg (arrV ((L.drop 17).take 4))) ?_ ?_ ?_ ?_) ?_
  · exact n2
  · exact p2
  · exact p2
  · exact q2
  refine Eq.trans (eqFields_step (a := .agg (arrV ((L.drop 21).take 16))) (b := .agg (arrV ((L.drop 21).take 16))) ?_ ?_ ?_ ?_) ?_
  · exact n3
  · exact p3
  · exact p3
  · exact q3
  refine Eq.trans (eqFields_step (a := .int .i64 (L.getD 37 0)) (b := .int .i64 (L.getD 37 0)) ?_ ?_ ?_ ?_) ?_
  · exact n4
  · exact p4
  · exact p4
  · exact r4
  simp [Op.eqFields]
set_option maxRecDepth 100000 in
theorem eq_state (L : List Int) (h : L.length = 38) (w : World) : (Op.equalIn 10000 29 (.agg (arrV L)) (.agg (arrV L))).run Tryz.prog w = .ok true w := eq_state_d 9997 L h w
end Go.Proofs.YtkoljgmapclhkaaGreatDoor

namespace Go.Proofs.YtkoljgmapclhkaaGreatDoor

def zeroB (n : Nat) : ByteArray := ⟨(List.replicate n (0 : UInt8)).toArray⟩
theorem zeroB_size (n : Nat) : (zeroB n).size = n := by
  show (List.replicate n (0 : UInt8)).toArray.size = n
  simp
theorem zeroB_at (n : Nat) (i : Int) : Sp.byteAt (zeroB n) i = 0 := by
  unfold Sp.byteAt
  by_cases h : i.toNat < (zeroB n).size
  · rw [dif_pos h]
    show (((List.replicate n (0 : UInt8)).toArray[i.toNat]'(by have := h; rw [zeroB_size] at this; simpa using this)).toNat : Int) = 0
    simp
  · rw [dif_neg h]
/-- A decoder that has met zeros alone. -/
structure ZeroD (d : Sp.Dec) : Prop where
  code : d.code = 0
  bytes : ∀ i, Sp.byteAt d.s i = 0
theorem zero_first (s : ByteArray) (h : ∀ i, Sp.byteAt s i = 0) (k : Nat) : ZeroD (Sp.Dec.first s k) := by
  induction k with
  | zero => exact ⟨rfl, h⟩
  | succ k ih => exact ⟨by simp only [Sp.Dec.first, ih.code, h]; decide, by simpa [Sp.Dec.first] using h⟩
theorem zero_step {d : Sp.Dec} (h : ZeroD d) : ZeroD d.step := ⟨by simp only [Sp.Dec.step, h.code, h.bytes]; decide, h.bytes⟩
theorem zero_norm (k : Nat) : ∀ {d : Sp.Dec}, ZeroD d → ZeroD (d.norm k) := by
  induction k with
  | zero => intro d h; exact h
  | succ k ih =>
    intro d h
    rw [Sp.Dec.norm]
    split
    · exact ih (zero_step h)
    · exact h
theorem find_0 : Sp.findOf 0 = (0, true) := by decide +kernel
theorem zero_take {d : Sp.Dec} (h : ZeroD d) : ltakeV d = 0 ∧ ZeroD (ltakeD d) := by
  have hp : d.place 32768 = 0 := by unfold Sp.Dec.place; rw [h.code, Int.zero_ediv]; decide
  have hv : ltakeV d = 0 := by unfold ltakeV; rw [hp, find_0]
  refine ⟨hv, ?_⟩
  unfold ltakeD
  rw [hv, show Sp.cellOf 0 = (0, 12568, true) by decide +kernel]
  unfold Sp.Dec.take
  refine zero_norm 3 ⟨?_, h.bytes⟩
  simp [Sp.Dec.raw, h.code]
theorem zero_decN (n k : Nat) : ZeroD (decN (zeroB n) k) := by
  induction k with
  | zero => exact zero_first _ (zeroB_at n) 4
  | succ k ih => exact (zero_take ih).2
theorem zero_levs (n : Nat) {ls : List Int} (h : LevelsOk ls) : levsS (zeroB n) ls = ls := by
  have e : ∀ b < 4, levAt (zeroB n) ls b = ls.getD b 0 := fun b hb => by
    have := h.get hb
    unfold levAt
    rw [(zero_take (zero_decN n b)).1]
    omega
  apply List.ext_getElem
  · simp [levsS, h.1]
  · intro i h1 h2
    have hi : i < 4 := by simpa [levsS] using h1
    simp only [levsS, List.getElem_map, List.getElem_range]
    rw [e i hi, List.getD_eq_getElem?_getD, List.getElem?_eq_getElem h2, Option.getD_some]
theorem pbest_none (ks : List Int) (bits : Int) (n : Nat) : pbest [0, 0, 0, 0] ks bits n = (-1, 0) := by
  have h0 : ∀ b : Nat, ([0, 0, 0, 0] : List Int).getD b 0 = 0 := fun b => by
    match b with
    | 0 => rfl
    | 1 => rfl
    | 2 => rfl
    | 3 => rfl
    | n + 4 => simp
  induction n with
  | zero => rfl
  | succ n ih => rw [pbest_next, ih, pstep, if_pos (.inl (h0 n))]
theorem zeros_ok4 : LevelsOk [0, 0, 0, 0] := ⟨rfl, by decide⟩
theorem zero_pul (n : Nat) : pulS (zeroB n) [0, 0, 0, 0] = [0, 0, 0, 0] := by
  unfold pulS
  rw [zero_levs n zeros_ok4]
  unfold pulses
  rw [pbest_none, if_pos (by decide)]
theorem putL_zeros (o m : Nat) (h : o + m ≤ 16) : putL (List.replicate 16 0) o (List.replicate m 0) = List.replicate 16 0 := by
  unfold putL
  simp only [List.take_replicate, List.drop_replicate, List.length_replicate, List.replicate_append_replicate]
  congr 1
  omega
theorem zero_bands (d : Sp.Dec) (b : Nat) (hb : b ≤ 4) : (bandsS d [0, 0, 0, 0] [0, 0, 0, 0] b).2 = List.replicate 16 0 := by
  induction b with
  | zero => rfl
  | succ b ih =>
    show putL _ _ _ = _
    rw [ih (by omega)]
    have hk : (([0, 0, 0, 0] : List Int).getD b 0).toNat = 0 := by
      have : b = 0 ∨ b = 1 ∨ b = 2 ∨ b = 3 := by omega
      rcases this with rfl | rfl | rfl | rfl <;> rfl
    rw [hk, bandV, if_pos rfl]
    exact putL_zeros _ _ (off_fits b (by omega))
theorem zero_wav (n : Nat) : wavS (zeroB n) [0, 0, 0, 0] = List.replicate 16 0 := by
  unfold wavS
  rw [zero_levs n zeros_ok4, zero_pul]
  exact zero_bands _ 4 (Nat.le_refl _)
theorem rep_getD (n k : Nat) : (List.replicate n (0 : Int)).getD k 0 = 0 := by
  rw [List.getD_eq_getElem?_getD, List.getElem?_replicate]
  split <;> rfl
theorem back_zero : backL (List.replicate 16 0) = List.replicate 32 0 := by
  unfold backL
  rw [if_neg (by decide)]
  have e : ∀ n, back1 (List.replicate 16 0) n = 0 := fun n => by
    unfold back1
    rw [sumF_zero (fun k => by rw [rep_getD]; exact Int.zero_mul _)]
    have h1 : Sp.shiftN 15 0 = 0 := by decide
    have h2 : Sp.shiftN 16 0 = 0 := by decide
    rw [h1, Int.zero_mul, h2]
  apply List.ext_getElem
  · simp
  · intro i h1 h2
    simp only [List.getElem_map, List.getElem_range, List.getElem_replicate]
    exact e i
theorem nextO_zero (L : List Int) (hm : memL L = List.replicate 16 0) (hl : lastL L = 0) : nextO L (List.replicate 16 0) = List.replicate 16 0 := by
  unfold nextO
  rw [back_zero, hm, hl]
  decide +kernel
theorem nextN_zero (L : List Int) (hm : memL L = List.replicate 16 0) (hl : lastL L = 0) : nextN L (List.replicate 16 0) = 0 := by
  unfold nextN
  rw [back_zero, hm, hl]
  decide +kernel
/-- A packet of zeros, from the zero state on. -/
theorem zero_dec (n : Nat) (h0 : 10 ≤ n) (h1 : n ≤ 32) : decE (List.replicate 38 0) (zeroB n) = 0 ∧ decO (List.replicate 38 0) (zeroB n) = List.replicate 16 0 ∧ decSt (List.replicate 38 0) (zeroB n) = List.replicate 38 0 := by
  have hr : rightS (List.replicate 38 0) = true := by decide +kernel
  have he : decE (List.replicate 38 0) (zeroB n) = 0 := by unfold decE; rw [if_pos (by rw [zeroB_size]; exact ⟨h0, h1⟩), hr]; rfl
  have hl : levL (List.replicate 38 0) = [0, 0, 0, 0] := by decide
  have hm : memL (List.replicate 38 0) = List.replicate 16 0 := by decide
  have hla : lastL (List.replicate 38 0) = 0 := by decide
  refine ⟨he, ?_, ?_⟩
  · unfold decO
    rw [he, hl, zero_wav, nextO_zero _ hm hla]
    decide +kernel
  · unfold decSt
    rw [he, hl, zero_wav, zero_levs n zeros_ok4, if_pos rfl]
    unfold nextSt
    rw [nextN_zero _ hm hla, back_zero]
    decide +kernel
end Go.Proofs.YtkoljgmapclhkaaGreatDoor

namespace Go.Proofs.YtkoljgmapclhkaaGreatDoor
open Go.RowKit

theorem wpList_build_g {ops : Array Oper} {rest : List Oper} {op : Oper} {a : Act} {w : World} {Q : Exit → Act → World → Prop} (hwd : Region.wanted op (yielded ops a.tmps) = true) (t : TypeId) (parts : Array (Nat × Operand)) (ho : op.op = .build t parts)
    (vs : List (Nat × Value)) (hv : parts.toList.map (fun p => (p.1, a.eval p.2)) = vs) (cells : Array Value) (hb : Tryz.prog.built t vs = some cells)
    (h : wpList Tryz.prog ops Q rest (a.put op.dst (.agg cells)) w) : wpList Tryz.prog ops Q (op :: rest) a w :=
  wpList_step fun K hK => by
    rw [if_pos hwd]
    have hv2 : (parts.map fun (i, x) => (i, a.eval x)).toList = vs := by rw [Array.toList_map]; exact hv
    subst hv2
    unfold Oper.wp execOp
    simp only [ho, Sem.run_bind, run_build w t _ cells hb, Result.andThen_ok]
    exact hK _ _ h
/-- Two structs or arrays compared, where the guard lets it run. -/
theorem wpList_eql_g {ops : Array Oper} {rest : List Oper} {op : Oper} {a : Act} {w : World} {Q : Exit → Act → World → Prop} (hwd : Region.wanted op (yielded ops a.tmps) = true) (t t2 : TypeId) (x y : Operand) (ho : op.op = .binOp .eql t x y t2)
    (xs ys : Array Value) (hx : a.eval x = .agg xs) (hy : a.eval y = .agg ys) (hg : Tryz.prog.eqGuardType Tryz.prog.depth t = false) (b : Bool) (he : (Op.equalIn 10000 t (.agg xs) (.agg ys)).run Tryz.prog w = .ok b w)
    (h : wpList Tryz.prog ops Q rest (a.put op.dst (.bool b)) w) : wpList Tryz.prog ops Q (op :: rest) a w :=
  wpList_step fun K hK => by
    rw [if_pos hwd]
    unfold Oper.wp execOp
    simp only [ho, hx, hy, Sem.run_bind, run_eqGuard_agg w .eql t x y xs ys hg, Result.andThen_ok, run_eql_struct, he, Oper.upon]
    exact hK _ _ h
theorem zeroB_nums (n : Nat) : strOfNums (List.replicate n 0) = zeroB n := by
  unfold strOfNums zeroB; simp
theorem zeroB_str {W : World} {B : Nat} {n : Nat} (h : Blk W B (madeCells #[.int .u8 0] n) 5) (hn : n ≤ 300) : (convert 66 9 (.slice (some ⟨B, 0, none⟩) n n)).run Tryz.prog W = .ok (.string (zeroB n)) W := by
  have hr := run_convert_bytes_arg W 66 5 Tryz.underlying66 Tryz.underlying5 B 0 n n (List.replicate n 0) (by simp) (fun i hi => by
    rw [Nat.zero_add, h.cell i]
    have hi2 : i < n := by simpa using hi
    simp [madeCells, hi2, Nat.mod_one]) 9 Tryz.underlying9
  rw [hr, zeroB_nums]
theorem madeU8 : (Tryz.prog.info? 5).map (fun i => (i.zero, i.size, i.bytes)) = some (some (.int .u8 0), 1, 1) := by kernel_rfl
theorem sixInfo : (Tryz.prog.info? 22).map (·.size) = some 16 := by kernel_rfl
set_option maxRecDepth 100000 in
theorem state_built5 (L : List Int) (hL : L.length = 38) : Tryz.prog.built 29 [(0, .agg (arrV (memL L))), (1, .int .i64 (lastL L)), (2, .agg (arrV (levL L))), (3, .agg (arrV (wavL L))), (4, .int .i64 (lostL L))] = some (arrV L) := by
  obtain ⟨it, hi, z, hz, hzc, fs, hu, hp⟩ := state_places
  have m0 : (memL L).length = 16 := by simp [memL, hL]
  have m2 : (levL L).length = 4 := by simp [levL, hL]
  have m3 : (wavL L).length = 16 := by simp [wavL, hL]
  have l0 : (putL (List.replicate 38 0) 0 (memL L)).length = 38 := by rw [putL_len (by simp [m0])]; simp
  have l1 : (putL (putL (List.replicate 38 0) 0 (memL L)) 16 [lastL L]).length = 38 := by rw [putL_len (by rw [l0]; simp), l0]
  have l2 : (putL (putL (putL (List.replicate 38 0) 0 (memL L)) 16 [lastL L]) 17 (levL L)).length = 38 := by rw [putL_len (by rw [l1, m2]; omega), l1]
  have l3 : (putL (putL (putL (putL (List.replicate 38 0) 0 (memL L)) 16 [lastL L]) 17 (levL L)) 21 (wavL L)).length = 38 := by rw [putL_len (by rw [l2, m3]; omega), l2]
  rw [built_struct hi hu hz hp, hzc, fill_ints (off := 0) (size := 16) rfl m0 (by simp), fill_int (off := 16) rfl (by rw [l0]; omega), fill_ints (off := 17) (size := 4) rfl m2 (by rw [l1]; omega), fill_ints (off := 21) (size := 16) rfl m3 (by rw [l2]; omega), fill_int (off := 37) rfl (by rw [l3]; omega)]
  simp only [Instr.fill]
  congr 2
  clear l0 l1 l2 l3 m0 m2 m3
  match L, hL with
  | x0 :: x1 :: x2 :: x3 :: x4 :: x5 :: x6 :: x7 :: x8 :: x9 :: x10 :: x11 :: x12 :: x13 :: x14 :: x15 :: x16 :: x17 :: x18 :: x19 :: x20 :: x21 :: x22 :: x23 :: x24 :: x25 :: x26 :: x27 :: x28 :: x29 :: x30 :: x31 :: x32 :: x33 :: x34 :: x35 :: x36 :: x37 :: [], _ => rfl
end Go.Proofs.YtkoljgmapclhkaaGreatDoor

namespace Go.Proofs.YtkoljgmapclhkaaGreatDoor

theorem cut_idem16 (x : Int) : -32768 ≤ Sp.cut 16 x ∧ Sp.cut 16 x ≤ 32767 := by
  have e : Sp.cut 16 x = max (min x 32767) (-32768) := rfl
  rw [e]; omega
theorem fit_cut (x : Int) : fitP (Sp.cut 32 x) = true := by
  have e : ∀ x, Sp.cut 32 x = max (min x 2147483647) (-2147483648) := fun _ => rfl
  unfold fitP
  rw [beq_iff_eq, e, e]; omega
theorem cut22_idem (x : Int) : Sp.cut 22 (Sp.cut 22 x) = Sp.cut 22 x := by
  have e : ∀ x, Sp.cut 22 x = max (min x 2097151) (-2097152) := fun _ => rfl
  rw [e, e]; omega
theorem layE_fix (l : List Int) : ∀ a, Sp.cut 22 a = a → Sp.cut 22 (layE a l) = layE a l := by
  induction l with
  | nil => intro a h; exact h
  | cons x l ih => intro a _; exact ih _ (cut22_idem _)
theorem layN_fix (a : Int) (l : List Int) : Sp.cut 22 (layN a l) = layN a l := layE_fix l _ (cut22_idem a)
theorem right_all {m ls wv : List Int} {n lost : Int} (h0 : m.length = 16) (h1 : ls.length = 4) (h2 : wv.length = 16) :
    rightS (m ++ [n] ++ ls ++ wv ++ [lost]) = (m.all fitP && ls.all levP && (Sp.cut 22 n == n) && !wv.any wideP && decide (0 ≤ lost) && decide (lost ≤ 255)) ∧ lostL (m ++ [n] ++ ls ++ wv ++ [lost]) = lost ∧ (m ++ [n] ++ ls ++ wv ++ [lost]).length = 38 := by
  match m, h0 with
  | [y0, y1, y2, y3, y4, y5, y6, y7, y8, y9, y10, y11, y12, y13, y14, y15], _ =>
    match ls, h1 with
    | [a, b, c, d], _ =>
      match wv, h2 with
      | [x0, x1, x2, x3, x4, x5, x6, x7, x8, x9, x10, x11, x12, x13, x14, x15], _ => exact ⟨rfl, rfl, rfl⟩
theorem next_right (L : List Int) {ls wv : List Int} (h1 : LevelsOk ls) (h2 : wv.length = 16) (h3 : wv.any wideP = false) : rightS (nextSt L ls wv 0) = true ∧ lostL (nextSt L ls wv 0) = 0 ∧ (nextSt L ls wv 0).length = 38 := by
  have hm : (((backL wv).drop 16).map (Sp.cut 32)).length = 16 := by rw [List.length_map, List.length_drop, backL_len]
  have hall : ls.all levP = true := List.all_eq_true.2 (fun x hx => by have := h1.2 x hx; simp [levP]; omega)
  have hfit : (((backL wv).drop 16).map (Sp.cut 32)).all fitP = true := List.all_eq_true.2 (fun x hx => by
    obtain ⟨y, _, rfl⟩ := List.mem_map.1 hx
    exact fit_cut y)
  have hn : (Sp.cut 22 (nextN L wv) == nextN L wv) = true := by rw [beq_iff_eq]; exact layN_fix _ _
  obtain ⟨e1, e2, e3⟩ := right_all (n := nextN L wv) (lost := 0) hm h1.1 h2
  refine ⟨?_, e2, e3⟩
  show rightS (_ ++ _ ++ _ ++ _ ++ _) = true
  rw [e1, hfit, hall, hn, h3]
  rfl
/-- Whatever is decoded. -/
theorem dec_good (L : List Int) (s : ByteArray) (h0 : 10 ≤ s.size ∧ s.size ≤ 32) (hr : rightS L = true) :
    decE L s = 0 ∧ (decO L s).length = 16 ∧ (∀ x ∈ decO L s, -32768 ≤ x ∧ x ≤ 32767) ∧ rightS (decSt L s) = true ∧ lostL (decSt L s) = 0 ∧ (decSt L s).length = 38 := by
  have he : decE L s = 0 := by unfold decE; rw [if_pos h0, hr]; rfl
  have hLO := levsS_ok s (levL L)
  have hWO := wavS_ok s (levL L)
  have e1 : decO L s = soundL (nextO L (wavS s (levL L))) := by unfold decO; rw [he]; rfl
  have e2 : decSt L s = nextSt L (levsS s (levL L)) (wavS s (levL L)) 0 := by unfold decSt; rw [he]; rfl
  obtain ⟨r1, r2, r3⟩ := next_right L hLO hWO.1 hWO.2
  rw [e1, e2]
  refine ⟨he, ?_, ?_, r1, r2, r3⟩
  · unfold soundL nextO layL; rw [List.length_map, layG_len, overL_len]
  · intro x hx
    obtain ⟨y, _, rfl⟩ := List.mem_map.1 hx
    exact cut_idem16 y
theorem dec_bad (L : List Int) (s : ByteArray) (h : decE L s ≠ 0) : decO L s = List.replicate 16 0 ∧ decSt L s = List.replicate 38 0 := by
  unfold decO decSt
  rw [if_neg h, if_neg h]
  exact ⟨rfl, rfl⟩
end Go.Proofs.YtkoljgmapclhkaaGreatDoor

namespace Go.Proofs.YtkoljgmapclhkaaGreatDoor
open Go.RowKit

/-- A slice that is read: its cells lie in one block, from lo on and ahead of hi. -/
def SL (W : World) (lo hi size : Nat) (p : Option Addr) (n cap : Nat) (xs : List Value) : Prop :=
  xs.length = n * size ∧ n ≤ cap ∧ cap ≤ maxLen ∧ hi ≤ W.heap.size ∧ (p = none → cap = 0) ∧ (∀ a, p = some a → a.spot = none ∧ lo ≤ a.block ∧ a.block < hi) ∧
    ∀ a, p = some a → ∀ j u, xs[j]? = some u → W.cell? ⟨a.block, a.off + j, none⟩ = some u
namespace SL
variable {W W' : World} {lo hi size n cap : Nat} {p : Option Addr} {xs : List Value}
theorem nil (W : World) (lo hi size : Nat) (h : hi ≤ W.heap.size) : SL W lo hi size none 0 0 [] := ⟨by simp, by omega, by unfold maxLen; omega, h, fun _ => rfl, by simp, by simp⟩
theorem below (h : SL W lo hi size p n cap xs) (hb : Below hi W W') : SL W' lo hi size p n cap xs := by
  obtain ⟨h1, h2, h3, h4, h5, h6, h7⟩ := h
  refine ⟨h1, h2, h3, Nat.le_trans h4 hb.size, h5, h6, fun a ha j u hu => ?_⟩
  exact (hb.cell (p := ⟨a.block, a.off + j, none⟩) (h6 a ha).2.2).trans (h7 a ha j u hu)
theorem newB (h : SL W lo hi size p n cap xs) (hb : Below W.heap.size W W') : SL W' lo hi size p n cap xs := h.below (hb.mono h.2.2.2.1)
theorem drew (h : SL W lo hi size p n cap xs) : SL W.drew lo hi size p n cap xs := h
theorem alloc (h : SL W lo hi size p n cap xs) (o : Obj) : SL (W.alloc o) lo hi size p n cap xs := h.newB ((Below.refl _ _).alloc (Nat.le_refl _) o)
theorem setRow (h : SL W lo hi size p n cap xs) {g : Nat} (hg : g < lo ∨ hi ≤ g) (new : Array Value) : SL (W.setRow g new) lo hi size p n cap xs := by
  obtain ⟨h1, h2, h3, h4, h5, h6, h7⟩ := h
  refine ⟨h1, h2, h3, by rw [size_setRow]; exact h4, h5, h6, fun a ha j u hu => ?_⟩
  have := h6 a ha
  rw [← h7 a ha j u hu]
  exact World.cell?_of_block (w := W) (setRow_other W g a.block new (by omega))
theorem setCell (h : SL W lo hi size p n cap xs) {q : Addr} (hg : q.block < lo ∨ hi ≤ q.block) (u : Value) : SL (W.setCell q u) lo hi size p n cap xs := by
  obtain ⟨h1, h2, h3, h4, h5, h6, h7⟩ := h
  refine ⟨h1, h2, h3, by rw [World.size_setCell]; exact h4, h5, h6, fun a ha j v hv => ?_⟩
  have := h6 a ha
  rw [← h7 a ha j v hv]
  exact World.cell?_of_block (w := W) (Below.heap_setCell W q u a.block (by omega))
theorem keep {S : Nat → Prop} (h : SL W lo hi size p n cap xs) (hk : Kept S W W') (hs : ∀ k, S k → k < lo ∨ hi ≤ k) : SL W' lo hi size p n cap xs := by
  obtain ⟨h1, h2, h3, h4, h5, h6, h7⟩ := h
  refine ⟨h1, h2, h3, Nat.le_trans h4 hk.size, h5, h6, fun a ha j v hv => ?_⟩
  have := h6 a ha
  rw [← h7 a ha j v hv]
  exact World.cell?_of_block (w := W) (hk.block a.block (by omega) (fun e => by have := hs _ e; omega))
theorem grown {row : Option Nat} (h : SL W lo hi size p n cap xs) (hg : W.grownBy W' row) (hr : ∀ k, row = some k → k < lo ∨ hi ≤ k) : SL W' lo hi size p n cap xs := by
  obtain ⟨h1, h2, h3, h4, h5, h6, h7⟩ := h
  refine ⟨h1, h2, h3, Nat.le_trans h4 hg.size, h5, h6, fun a ha j v hv => ?_⟩
  have := h6 a ha
  rw [← h7 a ha j v hv]
  exact World.cell?_of_block (w := W) (hg.block a.block (by omega) (fun e => by have := hr _ e.symm; omega))
theorem wider (h : SL W lo hi size p n cap xs) {lo' hi' : Nat} (h1 : lo' ≤ lo) (h2 : hi ≤ hi') (h3 : hi' ≤ W.heap.size) : SL W lo' hi' size p n cap xs := by
  obtain ⟨a1, a2, a3, a4, a5, a6, a7⟩ := h
  exact ⟨a1, a2, a3, h3, a5, fun a ha => by have := a6 a ha; exact ⟨this.1, by omega, by omega⟩, a7⟩
theorem own {e : TypeId} {v : Value} (h : W.ownsRow lo e size v n xs) : ∃ p cap, v = .slice p n cap ∧ SL W lo W.heap.size size p n cap xs := by
  rcases h.2 with ⟨rfl, rfl⟩ | ⟨g, cap, cur, rfl, hb, hg, hnc, hcm, hcs, htk⟩
  · have hx : xs = [] := List.eq_nil_of_length_eq_zero (by simpa using h.1)
    subst hx
    exact ⟨none, 0, rfl, nil _ _ _ _ (Nat.le_refl _)⟩
  · refine ⟨some ⟨g, 0, none⟩, cap, rfl, h.1, hnc, hcm, Nat.le_refl _, by simp, fun a ha => ?_, fun a ha j u hu => ?_⟩
    · cases ha; exact ⟨rfl, hb, (Array.getElem?_eq_some_iff.1 hg).1⟩
    · cases ha
      have := World.ownsRow.cells h (g := g) rfl j u hu
      rwa [Addr.add_mid] at this
theorem take (h : SL W lo hi size p n cap xs) {k : Nat} (hk : k ≤ n) : SL W lo hi size p k cap (xs.take (k * size)) := by
  obtain ⟨h1, h2, h3, h4, h5, h6, h7⟩ := h
  refine ⟨by rw [List.length_take, h1]; have := Nat.mul_le_mul_right size hk; omega, by omega, h3, h4, h5, h6, fun a ha j u hu => h7 a ha j u ?_⟩
  rw [List.getElem?_take] at hu
  split at hu
  · exact hu
  · cases hu
theorem drop (h : SL W lo hi size p n cap xs) {k : Nat} (hk : k ≤ n) : SL W lo hi size (if cap = k then p else p.map (·.add (k * size))) (n - k) (cap - k) (xs.drop (k * size)) := by
  obtain ⟨h1, h2, h3, h4, h5, h6, h7⟩ := h
  have hl : (xs.drop (k * size)).length = (n - k) * size := by rw [List.length_drop, h1, Nat.sub_mul]
  by_cases hc : cap = k
  · rw [if_pos hc]
    have h0 : n - k = 0 := by omega
    have hnil : xs.drop (k * size) = [] := List.eq_nil_of_length_eq_zero (by rw [hl, h0]; simp)
    refine ⟨hl, by omega, by omega, h4, fun hp => by have := h5 hp; omega, h6, fun a ha j u hu => ?_⟩
    rw [hnil] at hu; simp at hu
  · rw [if_neg hc]
    refine ⟨hl, by omega, by omega, h4, fun hp => ?_, fun a ha => ?_, fun a ha j u hu => ?_⟩
    · cases p with
      | none => have := h5 rfl; omega
      | some a => simp at hp
    · cases p with
      | none => simp at ha
      | some a0 =>
        simp only [Option.map_some, Option.some.injEq] at ha
        have := h6 a0 rfl
        have e : a0 = ⟨a0.block, a0.off, none⟩ := by cases a0; simp at this ⊢; exact this.1
        rw [e, Addr.add_mid] at ha
        subst ha
        exact ⟨rfl, this.2⟩
    · cases p with
      | none => simp at ha
      | some a0 =>
        simp only [Option.map_some, Option.some.injEq] at ha
        have := h6 a0 rfl
        have e : a0 = ⟨a0.block, a0.off, none⟩ := by cases a0; simp at this ⊢; exact this.1
        rw [e, Addr.add_mid] at ha
        subst ha
        rw [List.getElem?_drop] at hu
        have h8 := h7 a0 rfl _ u hu
        show W.cell? ⟨a0.block, a0.off + k * size + j, none⟩ = some u
        rw [Nat.add_assoc]; exact h8
/-- Where an element of it lies. -/
theorem form (h : SL W lo hi size p n cap xs) (hn : 0 < n) : ∃ b o, p = some ⟨b, o, none⟩ ∧ lo ≤ b ∧ b < hi ∧ ∀ j u, xs[j]? = some u → W.cell? ⟨b, o + j, none⟩ = some u := by
  obtain ⟨h1, h2, h3, h4, h5, h6, h7⟩ := h
  cases p with
  | none => have := h5 rfl; omega
  | some a =>
    have := h6 a rfl
    exact ⟨a.block, a.off, by cases a; simp at this ⊢; exact this.1, this.2.1, this.2.2, h7 a rfl⟩
end SL
/-- What lies one behind the other. -/
theorem flat_len {α : Type} (f : α → List Value) {s : Nat} (l : List α) (hf : ∀ x ∈ l, (f x).length = s) : (l.flatMap f).length = l.length * s := by
  induction l with
  | nil => simp
  | cons a r ih =>
    rw [List.flatMap_cons, List.length_append, hf a List.mem_cons_self, ih (fun x hx => hf x (List.mem_cons_of_mem _ hx)), List.length_cons, Nat.add_mul, Nat.one_mul, Nat.add_comm]
theorem flat_get {α : Type} (f : α → List Value) {s : Nat} (l : List α) (hf : ∀ x ∈ l, (f x).length = s) {i j : Nat} {x : α} (hx : l[i]? = some x) (hj : j < s) : (l.flatMap f)[i * s + j]? = (f x)[j]? := by
  induction l generalizing i with
  | nil => simp at hx
  | cons a r ih =>
    have ha := hf a List.mem_cons_self
    rw [List.flatMap_cons]
    cases i with
    | zero =>
      simp only [List.getElem?_cons_zero, Option.some.injEq] at hx
      subst hx
      rw [Nat.zero_mul, Nat.zero_add, List.getElem?_append_left (by omega)]
    | succ i =>
      rw [List.getElem?_cons_succ] at hx
      rw [Nat.add_mul, Nat.one_mul, List.getElem?_append_right (by omega), ha, show i * s + s + j - s = i * s + j by omega]
      exact ih (fun x hx => hf x (List.mem_cons_of_mem _ hx)) hx
theorem flat_take {α : Type} (f : α → List Value) {s : Nat} (l : List α) (hf : ∀ x ∈ l, (f x).length = s) (k : Nat) : (l.flatMap f).take (k * s) = (l.take k).flatMap f := by
  induction l generalizing k with
  | nil => simp
  | cons a r ih =>
    have ha := hf a List.mem_cons_self
    cases k with
    | zero => simp
    | succ k =>
      rw [List.flatMap_cons, List.take_succ_cons, List.flatMap_cons, Nat.add_mul, Nat.one_mul, List.take_append, ha, show k * s + s - s = k * s by omega, ih (fun x hx => hf x (List.mem_cons_of_mem _ hx)), List.take_of_length_le (by omega)]
theorem flat_drop {α : Type} (f : α → List Value) {s : Nat} (l : List α) (hf : ∀ x ∈ l, (f x).length = s) (k : Nat) : (l.flatMap f).drop (k * s) = (l.drop k).flatMap f := by
  induction l generalizing k with
  | nil => simp
  | cons a r ih =>
    have ha := hf a List.mem_cons_self
    cases k with
    | zero => simp
    | succ k =>
      rw [List.flatMap_cons, List.drop_succ_cons, Nat.add_mul, Nat.one_mul, List.drop_append, ha, show k * s + s - s = k * s by omega, ih (fun x hx => hf x (List.mem_cons_of_mem _ hx)), List.drop_of_length_le (by omega), List.nil_append]
/-- An append of what is read. -/
theorem run_append_sl (w : World) (base : Nat) (t ty e : TypeId) (i : TypeInfo) (z : Value) (size bytes : Nat) (ht : Tryz.prog.underlying t = some (.slice e)) (hi : Tryz.prog.info? e = some i) (hz : i.zero = some z)
    (hsize : i.size = size) (hby : i.bytes = bytes) (hzs : z.cells.size = size) (hsz : 0 < size)
    (v : Value) (n : Nat) (xs : List Value) (hown : w.ownsRow base e size v n xs) {lo hi2 m c : Nat} {p : Option Addr} {news : List Value} (hs : SL w lo hi2 size p m c news) (h1 : ∀ u ∈ news, u.oneCell' = true)
    (h63 : n + m ≤ maxLen) (hbytes : (n + m) * bytes ≤ 140737488355328) (hbase : base ≤ w.heap.size) :
    ∃ v' w', (Builtin.append_ #[t, t] ty #[v, .slice p m c]).run Tryz.prog w = .ok v' w' ∧ w'.ownsRow base e size v' (n + m) (xs ++ news) ∧ w.grownBy w' v.ownBlock ∧ (v' = .slice none 0 0 ↔ v = .slice none 0 0 ∧ m = 0) := by
  obtain ⟨h2, h3, h4, h5, h6, h7, h8⟩ := hs
  cases p with
  | none =>
    have hc := h6 rfl
    subst hc
    have hm : m = 0 := by omega
    subst hm
    have hn : news = [] := List.eq_nil_of_length_eq_zero (by simpa using h2)
    subst hn
    refine ⟨v, w, run_append_owned_none w base t ty e i size ht hi v n xs hown, by simpa using hown, ⟨rfl, rfl, rfl, Nat.le_refl _, fun _ _ _ => rfl⟩, by simp⟩
  | some a =>
    obtain ⟨hsp, _, _⟩ := h7 a rfl
    have h9 := h8 a rfl
    obtain ⟨b, o, sp⟩ := a
    simp only at hsp
    subst hsp
    exact run_append_own w base t ty e i z size bytes ht hi hz hsize hby hzs hsz v n xs hown ⟨b, o, none⟩ m c news h2 (fun j u hu => by rw [Addr.add_mid]; exact h9 j u hu) h1 h63 hbytes hbase
theorem wp_append_sl {op : Oper} {a : Act} {w : World} {K : Act → World → Prop} {Q : Exit → Act → World → Prop} (t : TypeId) {s x : Operand} {ts : Array TypeId}
    (ho : op.op = .call { callee := .builtin .append, args := #[s, x], argTypes := ts }) (hts : ts = #[t, t])
    (base : Nat) (e : TypeId) (i : TypeInfo) (z : Value) (size bytes : Nat) (ht : Tryz.prog.underlying t = some (.slice e)) (hi : Tryz.prog.info? e = some i) (hz : i.zero = some z)
    (hsize : i.size = size) (hby : i.bytes = bytes) (hzs : z.cells.size = size) (hsz : 0 < size)
    {v : Value} {n : Nat} {xs : List Value} (hv : a.eval s = v) (hown : w.ownsRow base e size v n xs) {lo hi2 m c : Nat} {p : Option Addr} {news : List Value} (hx : a.eval x = .slice p m c) (hs : SL w lo hi2 size p m c news) (h1 : ∀ u ∈ news, u.oneCell' = true)
    (h63 : n + m ≤ maxLen) (hbytes : (n + m) * bytes ≤ 140737488355328) (hbase : base ≤ w.heap.size)
    (h : ∀ v' w', w'.ownsRow base e size v' (n + m) (xs ++ news) → w.grownBy w' v.ownBlock → (v' = .slice none 0 0 ↔ v = .slice none 0 0 ∧ m = 0) → K (a.put op.dst v') w') : op.wp Tryz.prog a w K Q := by
  subst hts
  obtain ⟨v', w', hr, h2, h3, h4⟩ := run_append_sl w base t op.type e i z size bytes ht hi hz hsize hby hzs hsz v n xs hown hs h1 h63 hbytes hbase
  unfold Oper.wp execOp
  simp only [ho, resolve, invoke, builtin, Sem.run_bind, Sem.run_pure, Result.andThen_ok, List.map_toArray, List.map_cons, List.map_nil, hv, hx, hr]
  exact h v' w' h2 h3 h4
theorem own_keep {W W' : World} {S : Nat → Prop} {base : Nat} {e : TypeId} {size n : Nat} {v : Value} {xs : List Value} (h : W.ownsRow base e size v n xs) (hk : Kept S W W') (hs : ∀ k, S k → k < base ∨ W.heap.size ≤ k) : W'.ownsRow base e size v n xs := by
  refine ⟨h.1, ?_⟩
  rcases h.2 with hl | ⟨g, cap, cur, rfl, hb, hg, rest⟩
  · exact .inl hl
  · have hlt := (Array.getElem?_eq_some_iff.1 hg).1
    refine .inr ⟨g, cap, cur, rfl, hb, ?_, rest⟩
    rw [hk.block g hlt (fun e => by have := hs _ e; omega)]
    exact hg
theorem own_newB {W W' : World} {base : Nat} {e : TypeId} {size n : Nat} {v : Value} {xs : List Value} (h : W.ownsRow base e size v n xs) (hb : Below W.heap.size W W') : W'.ownsRow base e size v n xs :=
  own_keep (S := fun _ => False) h (Kept.of_below hb) (fun _ h => False.elim h)
theorem own_up {W : World} {base base' : Nat} {e : TypeId} {size n : Nat} {v : Value} {xs : List Value} (h : W.ownsRow base e size v n xs) (hb : base' ≤ base) : W.ownsRow base' e size v n xs := by
  refine ⟨h.1, ?_⟩
  rcases h.2 with hl | ⟨g, cap, cur, rfl, hb2, hg, rest⟩
  · exact .inl hl
  · exact .inr ⟨g, cap, cur, rfl, by omega, hg, rest⟩
theorem own_setRow {W : World} {base : Nat} {e : TypeId} {size n : Nat} {v : Value} {xs : List Value} (h : W.ownsRow base e size v n xs) {g : Nat} (hg : g < base) (new : Array Value) : (W.setRow g new).ownsRow base e size v n xs := by
  refine ⟨h.1, ?_⟩
  rcases h.2 with hl | ⟨g2, cap, cur, rfl, hb2, hg2, rest⟩
  · exact .inl hl
  · exact .inr ⟨g2, cap, cur, rfl, hb2, (setRow_other W g g2 new (by omega)).trans hg2, rest⟩
theorem own_drew {W : World} {base : Nat} {e : TypeId} {size n : Nat} {v : Value} {xs : List Value} (h : W.ownsRow base e size v n xs) : W.drew.ownsRow base e size v n xs := h
theorem own_setCell {W : World} {base : Nat} {e : TypeId} {size n : Nat} {v : Value} {xs : List Value} (h : W.ownsRow base e size v n xs) {q : Addr} (hg : q.block < base) (u : Value) : (W.setCell q u).ownsRow base e size v n xs := by
  refine ⟨h.1, ?_⟩
  rcases h.2 with hl | ⟨g2, cap, cur, rfl, hb2, hg2, rest⟩
  · exact .inl hl
  · exact .inr ⟨g2, cap, cur, rfl, hb2, (Below.heap_setCell W q u g2 (by omega)).trans hg2, rest⟩
/-- A slice of the call's own: its block lies from base on, ahead of hi. -/
def OW (W : World) (base hi : Nat) (e : TypeId) (size : Nat) (v : Value) (n : Nat) (xs : List Value) : Prop := W.ownsRow base e size v n xs ∧ (∀ k, v.ownBlock = some k → k < hi) ∧ hi ≤ W.heap.size
namespace OW
variable {W W' : World} {base hi : Nat} {e : TypeId} {size n : Nat} {v : Value} {xs : List Value}
theorem mk0 (h : W.ownsRow base e size v n xs) : OW W base W.heap.size e size v n xs := ⟨h, fun k hk => (World.ownsRow.lt h k hk).2, Nat.le_refl _⟩
theorem nil (W : World) (base hi : Nat) (e : TypeId) (size : Nat) (h : hi ≤ W.heap.size) : OW W base hi e size (.slice none 0 0) 0 [] := ⟨World.ownsRow_nil _ _ _ _, by simp [Value.ownBlock], h⟩
theorem drew (h : OW W base hi e size v n xs) : OW W.drew base hi e size v n xs := h
theorem keep {S : Nat → Prop} (h : OW W base hi e size v n xs) (hk : Kept S W W') (hs : ∀ k, S k → k < base ∨ hi ≤ k) : OW W' base hi e size v n xs := by
  obtain ⟨h1, h2, h3⟩ := h
  refine ⟨⟨h1.1, ?_⟩, h2, Nat.le_trans h3 hk.size⟩
  rcases h1.2 with hl | ⟨g, cap, cur, rfl, hb, hg, rest⟩
  · exact .inl hl
  · have hlt := h2 g rfl
    refine .inr ⟨g, cap, cur, rfl, hb, ?_, rest⟩
    rw [hk.block g (by omega) (fun e => by have := hs _ e; omega)]
    exact hg
theorem newB (h : OW W base hi e size v n xs) (hb : Below W.heap.size W W') : OW W' base hi e size v n xs := h.keep (S := fun _ => False) (Kept.of_below hb) (fun _ h => False.elim h)
theorem alloc (h : OW W base hi e size v n xs) (o : Obj) : OW (W.alloc o) base hi e size v n xs := h.newB ((Below.refl _ _).alloc (Nat.le_refl _) o)
theorem setRow (h : OW W base hi e size v n xs) {g : Nat} (hg : g < base ∨ hi ≤ g) (new : Array Value) : OW (W.setRow g new) base hi e size v n xs :=
  h.keep (S := (· = g)) ⟨rfl, rfl, rfl, by rw [size_setRow]; exact Nat.le_refl _, fun k _ hn => setRow_other W g k new (fun e => hn e)⟩ (fun k hk => by subst hk; exact hg)
theorem setCell (h : OW W base hi e size v n xs) {q : Addr} (hg : q.block < base ∨ hi ≤ q.block) (u : Value) : OW (W.setCell q u) base hi e size v n xs :=
  h.keep (S := (· = q.block)) ((Kept.refl (· = q.block) W).setCell (.inl rfl) u) (fun k hk => by subst hk; exact hg)
theorem up (h : OW W base hi e size v n xs) {base' hi' : Nat} (h1 : base' ≤ base) (h2 : hi ≤ hi') (h3 : hi' ≤ W.heap.size) : OW W base' hi' e size v n xs :=
  ⟨own_up h.1 h1, fun k hk => Nat.lt_of_lt_of_le (h.2.1 k hk) h2, h3⟩
theorem sl (h : OW W base hi e size v n xs) : ∃ p cap, v = .slice p n cap ∧ SL W base hi size p n cap xs := by
  obtain ⟨p, cap, rfl, hs⟩ := SL.own h.1
  refine ⟨p, cap, rfl, ?_⟩
  obtain ⟨a1, a2, a3, a4, a5, a6, a7⟩ := hs
  refine ⟨a1, a2, a3, h.2.2, a5, fun a ha => ?_, a7⟩
  have h8 := a6 a ha
  subst ha
  exact ⟨h8.1, h8.2.1, h.2.1 _ rfl⟩
/-- Behind an append to it. -/
theorem grown {row : Option Nat} (h : OW W base hi e size v n xs) (hg : W.grownBy W' row) (hr : ∀ k, row = some k → k < base ∨ hi ≤ k) : OW W' base hi e size v n xs := by
  obtain ⟨h1, h2, h3⟩ := h
  refine ⟨⟨h1.1, ?_⟩, h2, Nat.le_trans h3 hg.size⟩
  rcases h1.2 with hl | ⟨g, cap, cur, rfl, hb, hgg, rest⟩
  · exact .inl hl
  · have hlt := h2 g rfl
    refine .inr ⟨g, cap, cur, rfl, hb, ?_, rest⟩
    rw [hg.block g (by omega) (fun e => by have := hr _ e.symm; omega)]
    exact hgg
end OW
/-- Values written into a row, one by one. -/
theorem fold_put : ∀ (c l : List Value) (off s : Nat), off + s + c.length ≤ l.length → (c.zipIdx s).foldl (fun (cs : Array Value) (p : Value × Nat) => cs.setIfInBounds (off + p.2) p.1) l.toArray = (l.take (off + s) ++ c ++ l.drop (off + s + c.length)).toArray := by
  intro c
  induction c with
  | nil => intro l off s h; simp
  | cons x c ih =>
    intro l off s h
    simp only [List.length_cons] at h
    simp only [List.zipIdx_cons, List.foldl_cons, List.setIfInBounds_toArray]
    rw [ih _ off (s + 1) (by rw [List.length_set]; omega)]
    congr 1
    rw [show off + (s + 1) = off + s + 1 by omega, List.take_add_one, List.take_set, List.set_eq_of_length_le (by simp; omega), List.getElem?_set_self (by omega), List.drop_set, if_pos (by omega)]
    simp only [Option.toList_some, List.length_cons, List.append_assoc, List.cons_append, List.nil_append]
    rw [show off + s + 1 + c.length = off + s + (c.length + 1) by omega]
theorem fill_at {place : Nat → Option (Nat × Nat)} {l : List Value} {c : Array Value} {rest : List (Nat × Value)} {i off size : Nat} (hp : place i = some (off, size)) (hs : c.size = size) (hl : off + size ≤ l.length) :
    Instr.fill place l.toArray ((i, .agg c) :: rest) = Instr.fill place (l.take off ++ c.toList ++ l.drop (off + size)).toArray rest := by
  have h := fold_put c.toList l off 0 (by rw [Nat.add_zero, Array.length_toList]; omega)
  simp only [Nat.add_zero, Array.length_toList, hs] at h
  have e : (c.zipIdx.foldl (fun (cs : Array Value) (p : Value × Nat) => cs.setIfInBounds (off + p.2) p.1) l.toArray) = (l.take off ++ c.toList ++ l.drop (off + size)).toArray := by
    rw [← h, ← Array.foldl_toList]
    simp
  simp only [Instr.fill, hp, Value.cells]
  rw [← e]
  simp [hs]
  omega
/-- A type of so many cells. -/
def ElemT (e : TypeId) (size : Nat) : Prop := (∀ w, (sizeOf e).run Tryz.prog w = .ok size w) ∧ ∃ z, (∀ w, (zeroValue e).run Tryz.prog w = .ok z w) ∧ z.cells.size = size
theorem run_bs1 {t e : TypeId} {size : Nat} (ht : Tryz.prog.underlying t = some (.slice e)) (he : ElemT e size) (h0 : 0 < size) (h1 : size ≤ 1000) {c : Array Value} (hc : c.size = size) (w : World) :
    (Instr.buildSlice t 1 #[(0, .agg c)]).run Tryz.prog w = .ok (.slice (some ⟨w.heap.size, 0, none⟩) 1 1) (w.alloc (.cells c e)) := by
  obtain ⟨hs, z, hz, hzs⟩ := he
  have hf : ∀ l : Array Value, l.size = 1 * size → Instr.fill (fun i => some (i * size, size)) l [(0, .agg c)] = some c := by
    intro l hl
    obtain ⟨l⟩ := l
    simp only [List.size_toArray, Nat.one_mul] at hl
    rw [fill_at (off := 0) (size := size) (by simp) hc (by omega)]
    simp only [Instr.fill, List.take_zero, List.nil_append, Nat.zero_add]
    rw [List.drop_of_length_le (by omega), List.append_nil]
  unfold Instr.buildSlice
  simp only [Sem.run_bind, run_underlying ht, Result.andThen_ok, hs, hz, if_neg (show ¬ 1 * size > 2 ^ 24 by omega), if_neg (show ¬ 1 * size = 0 by omega)]
  simp [hz, hf, newRow, Result.andThen]
theorem wp_bs1 {op : Oper} {a : Act} {w : World} {K : Act → World → Prop} {Q : Exit → Act → World → Prop} (t : TypeId) {x : Operand} (ho : op.op = .buildSlice t 1 #[(0, x)]) {c : Array Value} (hx : a.eval x = .agg c)
    {e : TypeId} (ht : Tryz.prog.underlying t = some (.slice e)) {size : Nat} (he : ElemT e size) (h0 : 0 < size) (h1 : size ≤ 1000) (hc : c.size = size)
    (h : K (a.put op.dst (.slice (some ⟨w.heap.size, 0, none⟩) 1 1)) (w.alloc (.cells c e))) : op.wp Tryz.prog a w K Q := by
  have hr := run_bs1 ht he h0 h1 hc w
  unfold Oper.wp execOp
  simp only [ho, List.map_toArray, List.map_cons, List.map_nil, hx, Sem.run_bind, hr, Result.andThen_ok]
  exact h
theorem bs1 {ops : Array Oper} {rest : List Oper} {op : Oper} {a : Act} {w : World} {Q : Exit → Act → World → Prop} (t : TypeId) {x : Operand} (ho : op.op = .buildSlice t 1 #[(0, x)]) (hwd : Region.wanted op (yielded ops a.tmps) = true) {c : Array Value} (hx : a.eval x = .agg c)
    {e : TypeId} (ht : Tryz.prog.underlying t = some (.slice e)) {size : Nat} (he : ElemT e size) (h0 : 0 < size) (h1 : size ≤ 1000) (hc : c.size = size)
    (h : wpList Tryz.prog ops Q rest (a.put op.dst (.slice (some ⟨w.heap.size, 0, none⟩) 1 1)) (w.alloc (.cells c e))) : wpList Tryz.prog ops Q (op :: rest) a w :=
  wpList_step fun _ hK => by rw [if_pos hwd]; exact wp_bs1 t ho hx ht he h0 h1 hc (hK _ _ h)
theorem ap {ops : Array Oper} {rest : List Oper} {op : Oper} {a : Act} {w : World} {Q : Exit → Act → World → Prop} (t : TypeId) {s x : Operand} {ts : Array TypeId}
    (ho : op.op = .call { callee := .builtin .append, args := #[s, x], argTypes := ts }) (hwd : Region.wanted op (yielded ops a.tmps) = true) (hts : ts = #[t, t])
    (base : Nat) (e : TypeId) (i : TypeInfo) (z : Value) (size bytes : Nat) (ht : Tryz.prog.underlying t = some (.slice e)) (hi : Tryz.prog.info? e = some i) (hz : i.zero = some z)
    (hsize : i.size = size) (hby : i.bytes = bytes) (hzs : z.cells.size = size) (hsz : 0 < size)
    {v : Value} {n : Nat} {xs : List Value} (hv : a.eval s = v) (hown : w.ownsRow base e size v n xs) {lo hi2 m c : Nat} {p : Option Addr} {news : List Value} (hx : a.eval x = .slice p m c) (hs : SL w lo hi2 size p m c news) (h1 : ∀ u ∈ news, u.oneCell' = true)
    (h63 : n + m ≤ maxLen) (hbytes : (n + m) * bytes ≤ 140737488355328) (hbase : base ≤ w.heap.size)
    (h : ∀ v' w', w'.ownsRow base e size v' (n + m) (xs ++ news) → w.grownBy w' v.ownBlock → (v' = .slice none 0 0 ↔ v = .slice none 0 0 ∧ m = 0) → wpList Tryz.prog ops Q rest (a.put op.dst v') w') : wpList Tryz.prog ops Q (op :: rest) a w :=
  wpList_step fun _ hK => by
    rw [if_pos hwd]
    exact wp_append_sl t ho hts base e i z size bytes ht hi hz hsize hby hzs hsz hv hown hx hs h1 h63 hbytes hbase fun v' w' h2 h3 h4 => hK _ _ (h v' w' h2 h3 h4)
theorem SL.blk {W : World} {b size n : Nat} {cs : Array Value} {t : TypeId} (h : Blk W b cs t) (hs : cs.size = n * size) (hn : n ≤ maxLen) : SL W b (b + 1) size (some ⟨b, 0, none⟩) n n cs.toList := by
  refine ⟨by simpa using hs, Nat.le_refl _, hn, h.lt, by simp, fun a ha => ?_, fun a ha j u hu => ?_⟩
  · cases ha; exact ⟨rfl, Nat.le_refl _, by simp⟩
  · cases ha
    rw [Nat.zero_add, h.cell j]
    simpa using hu
theorem below_hop {B : Nat} {a b c : World} (h : Below B a b) (hb : Below b.heap.size b c) (hs : B ≤ b.heap.size) : Below B a c := h.trans (hb.mono hs)
theorem own_ex {W : World} {base : Nat} {e : TypeId} {size n : Nat} {v : Value} {xs : List Value} (h : W.ownsRow base e size v n xs) : ∃ p cap lo hi, v = .slice p n cap ∧ SL W lo hi size p n cap xs ∧ base ≤ lo ∧ hi ≤ W.heap.size := by
  obtain ⟨p, cap, hv, hs⟩ := SL.own h
  exact ⟨p, cap, base, W.heap.size, hv, hs, Nat.le_refl _, Nat.le_refl _⟩
end Go.Proofs.YtkoljgmapclhkaaGreatDoor

namespace Go.Proofs.YtkoljgmapclhkaaGreatDoor
open Go.RowKit

/-- The world by a new name, with what is known of it. -/
theorem wp_gen {c : Code} {Q : Exit → Act → World → Prop} {a : Act} {w : World} (p : World → Prop) (hp : p w) (k : ∀ w', p w' → Code.wp Tryz.prog c Q a w') : Code.wp Tryz.prog c Q a w := k w hp
/-- A list's length, hidden from the walk. -/
def Len (l : List Int) (n : Nat) : Prop := l.length = n
theorem Len.mk {l : List Int} {n : Nat} (h : l.length = n) : Len l n := h
theorem Len.out {l : List Int} {n : Nat} (h : Len l n) : l.length = n := h
theorem Len.rep (n : Nat) : Len (List.replicate n 0) n := List.length_replicate
theorem Len.sz {l : List Int} {n : Nat} (h : Len l n) : (arrV l).size = n := by rw [arr_size]; exact h
theorem Len.set {l : List Int} {n : Nat} (h : Len l n) (i : Nat) (x : Int) : Len (l.set i x) n := by unfold Len; rw [List.length_set]; exact h
theorem Len.mem {L : List Int} (h : Len L 38) : Len (memL L) 16 := by unfold Len memL; rw [List.length_take, h.out]; rfl
theorem Len.lev {L : List Int} (h : Len L 38) : Len (levL L) 4 := by unfold Len levL; rw [List.length_take, List.length_drop, h.out]; rfl
theorem Len.wav {L : List Int} (h : Len L 38) : Len (wavL L) 16 := by unfold Len wavL; rw [List.length_take, List.length_drop, h.out]; rfl
/-- So many noughts, a word that the walk leaves alone. -/
def zs (n : Nat) : List Int := List.replicate n 0
theorem zs_eq (n : Nat) : List.replicate n 0 = zs n := rfl
theorem Len.zs (n : Nat) : Len (zs n) n := List.length_replicate
theorem state_zs : Tryz.prog.built 29 [] = some (arrV (zs 38)) := state_zero
theorem block_zs : Tryz.prog.built 26 [] = some (arrV (zs 16)) := block_zero
theorem gd_zs (n k : Nat) : (zs n).getD k 0 = 0 := by
  unfold Go.Proofs.YtkoljgmapclhkaaGreatDoor.zs
  rw [List.getD_eq_getElem?_getD, List.getElem?_replicate]; split <;> rfl
/-- A type whose values are rows of n cells. -/
def Whole (ty : TypeId) (n : Nat) : Prop := ∃ d, Tryz.prog.underlying ty = some d ∧ d.isRow = true ∧ (Tryz.prog.info? ty).map (·.size) = some n
theorem w_State : Whole 29 38 := ⟨_, Tryz.underlying29, rfl, by kernel_rfl⟩
theorem w_Block : Whole 26 16 := ⟨_, Tryz.underlying26, rfl, by kernel_rfl⟩
theorem w_Four : Whole 27 4 := ⟨_, Tryz.underlying27, rfl, by kernel_rfl⟩
theorem w_Sixteen : Whole 22 16 := ⟨_, Tryz.underlying22, rfl, by kernel_rfl⟩
theorem w_Entry : Whole 92 3 := ⟨_, Tryz.underlying92, rfl, by kernel_rfl⟩
theorem el_Block : ElemT 26 16 := ⟨fun _ => by kernel_rfl, .agg #[.int .i64 0, .int .i64 0, .int .i64 0, .int .i64 0, .int .i64 0, .int .i64 0, .int .i64 0, .int .i64 0, .int .i64 0, .int .i64 0, .int .i64 0, .int .i64 0, .int .i64 0, .int .i64 0, .int .i64 0, .int .i64 0], fun _ => by kernel_rfl, by kernel_rfl⟩
theorem el_Entry : ElemT 92 3 := ⟨fun _ => by kernel_rfl, .agg #[.int .i64 0, .int .u32 0, .string ⟨#[]⟩], fun _ => by kernel_rfl, by kernel_rfl⟩
/-- A load of all of a block. -/
theorem wp_ld {op : Oper} {a : Act} {w : World} {K : Act → World → Prop} {Q : Exit → Act → World → Prop} (ty : TypeId) {x : Operand} (ho : op.op = .load ty x) {n : Nat} (hW : Whole ty n)
    {b : Nat} (hx : a.eval x = .pointer (some ⟨b, 0, none⟩)) {cs : Array Value} {t : TypeId} (hb : Blk w b cs t) (hs : cs.size = n) (h : K (a.put op.dst (.agg cs)) w) : op.wp Tryz.prog a w K Q := by
  obtain ⟨d, hu, hd, hi⟩ := hW
  subst hs
  have hl := hb.loadVar ty hu hd hi
  unfold Oper.wp execOp
  simp only [ho, hx, Instr.loadAt, Instr.sureAddr, Sem.run_bind, Sem.run_pure, Result.andThen_ok, hl]
  exact h
/-- A load of a part. -/
theorem wp_ldp {op : Oper} {a : Act} {w : World} {K : Act → World → Prop} {Q : Exit → Act → World → Prop} (ty : TypeId) {x : Operand} (ho : op.op = .load ty x) {n : Nat} (hW : Whole ty n)
    {b o : Nat} (hx : a.eval x = .pointer (some ⟨b, o, none⟩)) {L : List Int} {t : TypeId} (hb : Blk w b (arrV L) t) {m : Nat} (hl : Len L m) (hs : o + n ≤ m) (h : K (a.put op.dst (.agg (arrV ((L.drop o).take n)))) w) : op.wp Tryz.prog a w K Q := by
  obtain ⟨d, hu, hd, hi⟩ := hW
  have hr := hb.range o n (by rw [hl.out]; exact hs)
  have e : ((L.drop o).take n).length = n := by rw [List.length_take, List.length_drop, hl.out]; omega
  exact wp_load_mid ty x ho b o hx _ d hr hu hd (by rw [hi, List.length_map, e]) h
/-- A store into all of a block. -/
theorem wp_st {op : Oper} {a : Act} {w : World} {K : Act → World → Prop} {Q : Exit → Act → World → Prop} (ty : TypeId) {x y : Operand} (ho : op.op = .store ty x y) {n : Nat} (hW : Whole ty n)
    {b : Nat} (hx : a.eval x = .pointer (some ⟨b, 0, none⟩)) {new : Array Value} (hy : a.eval y = .agg new) {cs : Array Value} {t : TypeId} (hb : Blk w b cs t) (hs : cs.size = n) (hn : new.size = n) (h1 : new.all (·.oneCell') = true)
    (h : K (a.put op.dst undef) (w.setRow b new)) : op.wp Tryz.prog a w K Q := by
  obtain ⟨d, hu, hd, hi⟩ := hW
  exact wp_store_blk ty x y ho b cs new hx hy t hb (by rw [hi, hn]) (by rw [hs, hn]) h1 h
/-- A whole made. -/
theorem wp_bd {op : Oper} {a : Act} {w : World} {K : Act → World → Prop} {Q : Exit → Act → World → Prop} (t : TypeId) {parts : Array (Nat × Operand)} (ho : op.op = .build t parts)
    {vs : List (Nat × Value)} (hv : parts.toList.map (fun p => (p.1, a.eval p.2)) = vs) {cells : Array Value} (hb : Tryz.prog.built t vs = some cells) (h : K (a.put op.dst (.agg cells)) w) : op.wp Tryz.prog a w K Q := by
  have hv2 : (parts.map fun (i, x) => (i, a.eval x)).toList = vs := by rw [Array.toList_map]; exact hv
  subst hv2
  unfold Oper.wp execOp
  simp only [ho, Sem.run_bind, run_build w t _ cells hb, Result.andThen_ok]
  exact h
/-- Two wholes compared. -/
theorem wp_eq {op : Oper} {a : Act} {w : World} {K : Act → World → Prop} {Q : Exit → Act → World → Prop} (t : TypeId) {t2 : TypeId} {x y : Operand} (ho : op.op = .binOp .eql t x y t2)
    {xs ys : Array Value} (hx : a.eval x = .agg xs) (hy : a.eval y = .agg ys) (hg : Tryz.prog.eqGuardType Tryz.prog.depth t = false) {b : Bool} (he : ∀ w, (Op.equalIn 10000 t (.agg xs) (.agg ys)).run Tryz.prog w = .ok b w)
    (h : K (a.put op.dst (.bool b)) w) : op.wp Tryz.prog a w K Q := by
  unfold Oper.wp execOp
  simp only [ho, hx, hy, Sem.run_bind, run_eqGuard_agg w .eql t x y xs ys hg, Result.andThen_ok, run_eql_struct, he, Oper.upon]
  exact h
section
variable {ops : Array Oper} {rest : List Oper} {op : Oper} {a : Act} {w : World} {Q : Exit → Act → World → Prop}
theorem ld (ty : TypeId) {x : Operand} (ho : op.op = .load ty x) (hwd : Region.wanted op (yielded ops a.tmps) = true) {n : Nat} (hW : Whole ty n)
    {b : Nat} (hx : a.eval x = .pointer (some ⟨b, 0, none⟩)) {cs : Array Value} {t : TypeId} (hb : Blk w b cs t) (hs : cs.size = n) (h : wpList Tryz.prog ops Q rest (a.put op.dst (.agg cs)) w) : wpList Tryz.prog ops Q (op :: rest) a w :=
  wpList_step fun _ hK => by rw [if_pos hwd]; exact wp_ld ty ho hW hx hb hs (hK _ _ h)
theorem ldp (ty : TypeId) {x : Operand} (ho : op.op = .load ty x) (hwd : Region.wanted op (yielded ops a.tmps) = true) {n : Nat} (hW : Whole ty n)
    {b o : Nat} (hx : a.eval x = .pointer (some ⟨b, o, none⟩)) {L : List Int} {t : TypeId} (hb : Blk w b (arrV L) t) {m : Nat} (hl : Len L m) (hs : o + n ≤ m) (h : wpList Tryz.prog ops Q rest (a.put op.dst (.agg (arrV ((L.drop o).take n)))) w) : wpList Tryz.prog ops Q (op :: rest) a w :=
  wpList_step fun _ hK => by rw [if_pos hwd]; exact wp_ldp ty ho hW hx hb hl hs (hK _ _ h)
theorem st (ty : TypeId) {x y : Operand} (ho : op.op = .store ty x y) (hwd : Region.wanted op (yielded ops a.tmps) = true) {n : Nat} (hW : Whole ty n)
    {b : Nat} (hx : a.eval x = .pointer (some ⟨b, 0, none⟩)) {new : Array Value} (hy : a.eval y = .agg new) {cs : Array Value} {t : TypeId} (hb : Blk w b cs t) (hs : cs.size = n) (hn : new.size = n) (h1 : new.all (·.oneCell') = true)
    (h : wpList Tryz.prog ops Q rest (a.put op.dst undef) (w.setRow b new)) : wpList Tryz.prog ops Q (op :: rest) a w :=
  wpList_step fun _ hK => by rw [if_pos hwd]; exact wp_st ty ho hW hx hy hb hs hn h1 (hK _ _ h)
theorem bd (t : TypeId) {parts : Array (Nat × Operand)} (ho : op.op = .build t parts) (hwd : Region.wanted op (yielded ops a.tmps) = true)
    {vs : List (Nat × Value)} (hv : parts.toList.map (fun p => (p.1, a.eval p.2)) = vs) {cells : Array Value} (hb : Tryz.prog.built t vs = some cells) (h : wpList Tryz.prog ops Q rest (a.put op.dst (.agg cells)) w) : wpList Tryz.prog ops Q (op :: rest) a w :=
  wpList_step fun _ hK => by rw [if_pos hwd]; exact wp_bd t ho hv hb (hK _ _ h)
theorem eqw (t : TypeId) {t2 : TypeId} {x y : Operand} (ho : op.op = .binOp .eql t x y t2) (hwd : Region.wanted op (yielded ops a.tmps) = true)
    {xs ys : Array Value} (hx : a.eval x = .agg xs) (hy : a.eval y = .agg ys) (hg : Tryz.prog.eqGuardType Tryz.prog.depth t = false) {b : Bool} (he : ∀ w, (Op.equalIn 10000 t (.agg xs) (.agg ys)).run Tryz.prog w = .ok b w)
    (h : wpList Tryz.prog ops Q rest (a.put op.dst (.bool b)) w) : wpList Tryz.prog ops Q (op :: rest) a w :=
  wpList_step fun _ hK => by rw [if_pos hwd]; exact wp_eq t ho hx hy hg he (hK _ _ h)
end
/-- A number stored into a row of numbers. -/
theorem Blk.setI {W : World} {b : Nat} {l : List Int} {t : TypeId} (h : Blk W b (arrV l) t) (i : Nat) (x : Int) : Blk (W.setCell ⟨b, i, none⟩ (.int .i64 x)) b (arrV (l.set i x)) t := by
  rw [← arr_set]; exact h.set i _
theorem Blk.newAt {W : World} {b : Nat} {cs : Array Value} {t : TypeId} (hb : b = W.heap.size) : Blk (W.alloc (.cells cs t)) b cs t := hb ▸ Blk.new W cs t
theorem Blk.new38 {W : World} {b : Nat} {t : TypeId} (hb : b = W.heap.size) : Blk (W.alloc (.cells (List.toArray (Value.int .i64 0 :: Value.int .i64 0 :: Value.int .i64 0 :: Value.int .i64 0 :: Value.int .i64 0 :: Value.int .i64 0 :: Value.int .i64 0 :: Value.int .i64 0 :: Value.int .i64 0 :: Value.int .i64 0 :: Value.int .i64 0 :: Value.int .i64 0 :: Value.int .i64 0 :: Value.int .i64 0 :: Value.int .i64 0 :: Value.int .i64 0 :: Value.int .i64 0 :: Value.int .i64 0 :: Value.int .i64 0 :: Value.int .i64 0 :: Value.int .i64 0 :: Value.int .i64 0 :: Value.int .i64 0 :: Value.int .i64 0 :: Value.int .i64 0 :: Value.int .i64 0 :: Value.int .i64 0 :: Value.int .i64 0 :: Value.int .i64 0 :: Value.int .i64 0 :: Value.int .i64 0 :: Value.int .i64 0 :: Value.int .i64 0 :: Value.int .i64 0 :: Value.int .i64 0 :: Value.int .i64 0 :: Value.int .i64 0 :: Value.int .i64 0 :: [])) t)) b (arrV (zs 38)) t := by rw [zero38]; exact Blk.newAt hb
theorem Blk.new16 {W : World} {b : Nat} {t : TypeId} (hb : b = W.heap.size) : Blk (W.alloc (.cells #[.int .i64 0, .int .i64 0, .int .i64 0, .int .i64 0, .int .i64 0, .int .i64 0, .int .i64 0, .int .i64 0, .int .i64 0, .int .i64 0, .int .i64 0, .int .i64 0, .int .i64 0, .int .i64 0, .int .i64 0, .int .i64 0] t)) b (arrV (zs 16)) t := by rw [zero16]; exact Blk.newAt hb
theorem Blk.new4 {W : World} {b : Nat} {t : TypeId} (hb : b = W.heap.size) : Blk (W.alloc (.cells #[.int .i64 0, .int .i64 0, .int .i64 0, .int .i64 0] t)) b (arrV (zs 4)) t := Blk.newAt hb
theorem dropB (s : ByteArray) (o k : Nat) : (s.extract o s.size).extract k (s.extract o s.size).size = s.extract (o + k) s.size := by
  apply ByteArray.ext
  simp only [ByteArray.data_extract, ByteArray.size_extract]
  rw [Array.extract_extract]
  congr 1
  omega
theorem drop0 (s : ByteArray) : s.extract 0 s.size = s := by
  apply ByteArray.ext
  simp
section
variable {ops : Array Oper} {S : World → Prop} {op : Oper} {a : Act}
theorem yieldsIf_ld (hw : Region.wanted op (yielded ops a.tmps) = true) (ty : TypeId) {x : Operand} (ho : op.op = .load ty x) {n : Nat} (hW : Whole ty n)
    {b : Nat} (hx : a.eval x = .pointer (some ⟨b, 0, none⟩)) {cs : Array Value} {t : TypeId} (hb : ∀ w, S w → Blk w b cs t) (hs : cs.size = n) : YieldsIf Tryz.prog ops S op (.agg cs) a :=
  .inl ⟨hw, fun w hS => by
    obtain ⟨d, hu, hd, hi⟩ := hW
    subst hs
    have hl := (hb w hS).loadVar ty hu hd hi
    unfold execOp
    simp only [ho, hx, Instr.loadAt, Instr.sureAddr, Sem.run_bind, Sem.run_pure, Result.andThen_ok, hl]⟩
theorem yieldsIf_ldp (hw : Region.wanted op (yielded ops a.tmps) = true) (ty : TypeId) {x : Operand} (ho : op.op = .load ty x) {n : Nat} (hW : Whole ty n)
    {b o : Nat} (hx : a.eval x = .pointer (some ⟨b, o, none⟩)) {L : List Int} {t : TypeId} (hb : ∀ w, S w → Blk w b (arrV L) t) {m : Nat} (hl : Len L m) (hs : o + n ≤ m) : YieldsIf Tryz.prog ops S op (.agg (arrV ((L.drop o).take n))) a := by
  obtain ⟨d, hu, hd, hi⟩ := hW
  have e : ((L.drop o).take n).length = n := by rw [List.length_take, List.length_drop, hl.out]; omega
  exact yieldsIf_load_mid hw ty x ho b o hx _ d (fun w hS => (hb w hS).range o n (by rw [hl.out]; exact hs)) hu hd (by rw [hi, List.length_map, e])
theorem yieldsIf_bd (hw : Region.wanted op (yielded ops a.tmps) = true) (t : TypeId) {parts : Array (Nat × Operand)} (ho : op.op = .build t parts)
    {vs : List (Nat × Value)} (hv : parts.toList.map (fun p => (p.1, a.eval p.2)) = vs) {cells : Array Value} (hb : Tryz.prog.built t vs = some cells) : YieldsIf Tryz.prog ops S op (.agg cells) a :=
  .inl ⟨hw, fun w _ => by
    have hv2 : (parts.map fun (i, x) => (i, a.eval x)).toList = vs := by rw [Array.toList_map]; exact hv
    subst hv2
    unfold execOp
    simp only [ho, Sem.run_bind, run_build w t _ cells hb, Result.andThen_ok]
    rfl⟩
end
section
variable {fn : Func} {p q r : Tmp} {ty ty2 : TypeId} {tmps : Array Value} {w : World} {g g2 : Nat} {t t2 : TypeId} {cs cs2 : Array Value} {n n2 : Nat} {v : Value}
theorem res_c (h : fn.results = #[.cell p ty]) (hp : tmps.getD p undef = .pointer (some ⟨g, 0, none⟩)) (hW : Whole ty n) (hg : Blk w g cs t) (hs : cs.size = n) : (results fn tmps).run Tryz.prog w = .ok (.agg cs) w := by
  obtain ⟨d, hu, hd, hi⟩ := hW
  subst hs
  have hp' : tmps[p]?.getD undef = .pointer (some ⟨g, 0, none⟩) := by simpa using hp
  simp [results, h, hp', asAddr, hg.loadVar ty hu hd hi]
theorem res_cc (h : fn.results = #[.cell p ty, .cell q ty2]) (hp : tmps.getD p undef = .pointer (some ⟨g, 0, none⟩)) (hW : Whole ty n) (hg : Blk w g cs t) (hs : cs.size = n) (hp2 : tmps.getD q undef = .pointer (some ⟨g2, 0, none⟩)) (hW2 : Whole ty2 n2) (hg2 : Blk w g2 cs2 t2) (hs2 : cs2.size = n2) :
    (results fn tmps).run Tryz.prog w = .ok (.tuple #[.agg cs, .agg cs2]) w := by
  obtain ⟨d, hu, hd, hi⟩ := hW
  obtain ⟨d2, hu2, hd2, hi2⟩ := hW2
  subst hs
  subst hs2
  exact results_cc h tmps w g g2 t t2 cs cs2 d d2 hp hg hu hd hi hp2 hg2 hu2 hd2 hi2
theorem res_ct (h : fn.results = #[.cell p ty, .tmp r]) (hp : tmps.getD p undef = .pointer (some ⟨g, 0, none⟩)) (hW : Whole ty n) (hg : Blk w g cs t) (hs : cs.size = n) (hr : tmps.getD r undef = v) :
    (results fn tmps).run Tryz.prog w = .ok (.tuple #[.agg cs, v]) w := by
  obtain ⟨d, hu, hd, hi⟩ := hW
  subst hs
  exact results_ct h tmps w g t cs d v hp hg hu hd hi hr
theorem res_tc (h : fn.results = #[.tmp r, .cell p ty]) (hr : tmps.getD r undef = v) (hp : tmps.getD p undef = .pointer (some ⟨g, 0, none⟩)) (hW : Whole ty n) (hg : Blk w g cs t) (hs : cs.size = n) :
    (results fn tmps).run Tryz.prog w = .ok (.tuple #[v, .agg cs]) w := by
  obtain ⟨d, hu, hd, hi⟩ := hW
  subst hs
  have hp' : tmps[p]?.getD undef = .pointer (some ⟨g, 0, none⟩) := by simpa using hp
  have hr' : tmps[r]?.getD undef = v := by simpa using hr
  simp [results, h, hp', hr', asAddr, hg.loadVar ty hu hd hi]
end
/-- What the walks ask again and again, each found by a tactic of its own. -/
theorem bk_ {W : World} {b : Nat} {cs : Array Value} {t : TypeId} (h : Blk W b cs t := by repeat' first | (with_reducible first | assumption | apply Blk.drew | apply Blk.drewN) | ((with_reducible first | apply Blk.newAt | apply Blk.new38 | apply Blk.new16 | apply Blk.new4); (first | omega | (simp only [World.size_alloc, World.size_setCell, World.size_drew, size_setRow] <;> omega))) | ((with_reducible apply Blk.setRowOther); rotate_left; omega) | (with_reducible apply Blk.setRow) | ((with_reducible apply Blk.other); rotate_left; (first | (simp only []; omega) | omega)) | (with_reducible first | apply Blk.setI | apply Blk.set1 | apply Blk.alloc) | ((with_reducible apply Blk.newB); rotate_left; (with_reducible assumption))) : Blk W b cs t := h
theorem ow_ {W : World} {base hi : Nat} {e : TypeId} {size : Nat} {v : Value} {n : Nat} {xs : List Value} (h : OW W base hi e size v n xs := by repeat' first | (with_reducible first | assumption | apply OW.drew | apply OW.alloc) | ((with_reducible apply OW.setRow); rotate_left; omega) | ((with_reducible apply OW.setCell); rotate_left; (first | (simp only []; omega) | omega)) | ((with_reducible apply OW.newB); rotate_left; (with_reducible assumption))) : OW W base hi e size v n xs := h
theorem sl_ {W : World} {lo hi size : Nat} {p : Option Addr} {n cap : Nat} {xs : List Value} (h : SL W lo hi size p n cap xs := by repeat' first | (with_reducible first | assumption | apply SL.drew | apply SL.alloc) | ((with_reducible apply SL.setRow); rotate_left; omega) | ((with_reducible apply SL.setCell); rotate_left; (first | (simp only []; omega) | omega)) | ((with_reducible apply SL.newB); rotate_left; (with_reducible assumption))) : SL W lo hi size p n cap xs := h
theorem bl_ {B : Nat} {a w : World} (h : Below B a w := by repeat' first | (with_reducible first | assumption | exact Below.refl _ _ | apply Below.drew) | ((with_reducible refine Below.setRow ?_ ?ne _); case ne => omega) | ((with_reducible refine Below.setCell ?_ ?ne _); case ne => (first | (simp only []; omega) | omega)) | ((with_reducible refine Below.alloc ?_ ?ne _); case ne => (first | omega | (simp only [World.size_alloc, World.size_setCell, World.size_drew, size_setRow] <;> omega))) | ((with_reducible apply below_hop); rotate_left; (with_reducible assumption); (first | omega | (simp only [World.size_alloc, World.size_setCell, World.size_drew, size_setRow] <;> omega)))) : Below B a w := h
theorem kp_ {S : Nat → Prop} {a w : World} (h : Kept S a w := by repeat' first | (with_reducible first | assumption | exact Kept.refl _ _ | apply Kept.drew) | ((with_reducible apply Kept.setRow); rotate_left; ((try dsimp only); omega)) | ((with_reducible apply Kept.setCell); rotate_left; ((try dsimp only); omega)) | (with_reducible apply Kept.alloc)) : Kept S a w := h
theorem sz_ {q : Prop} (h : q := by (first | omega | (simp only [World.size_alloc, World.size_setCell, World.size_drew, size_setRow] <;> omega))) : q := h
theorem lz_ {l : List Int} {n : Nat} (h : Len l n := by first | assumption | exact Len.zs _) : (arrV l).size = n := h.sz
theorem ln_ {l : List Int} {n : Nat} (h : Len l n := by first | assumption | exact Len.zs _) : Len l n := h
theorem zz_ {cs : Array Value} {n : Nat} (h : cs.size = n := by first | rfl | exact lz_) : cs.size = n := h
theorem one_ {cs : Array Value} (h : cs.all (·.oneCell') = true := by first | exact arr_one _ | rfl | simp [Value.oneCell']) : cs.all (·.oneCell') = true := h
end Go.Proofs.YtkoljgmapclhkaaGreatDoor
