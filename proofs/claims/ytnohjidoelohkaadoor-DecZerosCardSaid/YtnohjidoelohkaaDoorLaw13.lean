/- The walks of spoollaw12.Of and spoollaw13.awake. -/
import Derived.Test.YtnohjidoelohkaaDoorSpecDec3
import Derived.Test.YtnohjidoelohkaaDoorDecEq
import Derived.Laws.BytesArg
namespace Go.Proofs.YtnohjidoelohkaaDoor
open Go.RowKit

theorem wpList_build_g {ops : Array Oper} {rest : List Oper} {op : Oper} {a : Act} {w : World} {Q : Exit → Act → World → Prop} (hwd : Region.wanted op (yielded ops a.tmps) = true) (t : TypeId) (parts : Array (Nat × Operand)) (ho : op.op = .build t parts)
    (vs : List (Nat × Value)) (hv : parts.toList.map (fun p => (p.1, a.eval p.2)) = vs) (cells : Array Value) (hb : Tryd.prog.built t vs = some cells)
    (h : wpList Tryd.prog ops Q rest (a.put op.dst (.agg cells)) w) : wpList Tryd.prog ops Q (op :: rest) a w :=
  wpList_step fun K hK => by
    rw [if_pos hwd]
    have hv2 : (parts.map fun (i, x) => (i, a.eval x)).toList = vs := by rw [Array.toList_map]; exact hv
    subst hv2
    unfold Oper.wp execOp
    simp only [ho, Sem.run_bind, run_build w t _ cells hb, Result.andThen_ok]
    exact hK _ _ h
/-- Two structs or arrays compared, where the guard lets it run. -/
theorem wpList_eql_g {ops : Array Oper} {rest : List Oper} {op : Oper} {a : Act} {w : World} {Q : Exit → Act → World → Prop} (hwd : Region.wanted op (yielded ops a.tmps) = true) (t t2 : TypeId) (x y : Operand) (ho : op.op = .binOp .eql t x y t2)
    (xs ys : Array Value) (hx : a.eval x = .agg xs) (hy : a.eval y = .agg ys) (hg : Tryd.prog.eqGuardType Tryd.prog.depth t = false) (b : Bool) (he : (Op.equalIn 10000 t (.agg xs) (.agg ys)).run Tryd.prog w = .ok b w)
    (h : wpList Tryd.prog ops Q rest (a.put op.dst (.bool b)) w) : wpList Tryd.prog ops Q (op :: rest) a w :=
  wpList_step fun K hK => by
    rw [if_pos hwd]
    unfold Oper.wp execOp
    simp only [ho, hx, hy, Sem.run_bind, run_eqGuard_agg w .eql t x y xs ys hg, Result.andThen_ok, run_eql_struct, he, Oper.upon]
    exact hK _ _ h
theorem zeroB_nums (n : Nat) : strOfNums (List.replicate n 0) = zeroB n := by
  unfold strOfNums zeroB; simp
theorem zeroB_str {W : World} {B : Nat} {n : Nat} (h : Blk W B (madeCells #[.int .u8 0] n) 5) (hn : n ≤ 300) : (convert 38 9 (.slice (some ⟨B, 0, none⟩) n n)).run Tryd.prog W = .ok (.string (zeroB n)) W := by
  have hr := run_convert_bytes_arg W 38 5 Tryd.underlying38 Tryd.underlying5 B 0 n n (List.replicate n 0) (by simp) (fun i hi => by
    rw [Nat.zero_add, h.cell i]
    have hi2 : i < n := by simpa using hi
    simp [madeCells, hi2, Nat.mod_one]) 9 Tryd.underlying9
  rw [hr, zeroB_nums]
theorem madeU8 : (Tryd.prog.info? 5).map (fun i => (i.zero, i.size, i.bytes)) = some (some (.int .u8 0), 1, 1) := by kernel_rfl
theorem sixInfo : (Tryd.prog.info? 22).map (·.size) = some 16 := by kernel_rfl
set_option maxRecDepth 100000 in
theorem state_built5 (L : List Int) (hL : L.length = 38) : Tryd.prog.built 29 [(0, .agg (arrV (memL L))), (1, .int .i64 (lastL L)), (2, .agg (arrV (levL L))), (3, .agg (arrV (wavL L))), (4, .int .i64 (lostL L))] = some (arrV L) := by
  obtain ⟨it, hi, z, hz, hzc, fs, hu, hp⟩ := state_places
  have m0 : (memL L).length = 16 := by simp [memL, hL]
  have m2 : (levL L).length = 4 := by simp [levL, hL]
  have m3 : (wavL L).length = 16 := by simp [wavL, hL]
  have l0 : (putL (List.replicate 38 0) 0 (memL L)).length = 38 := by rw [putL_len (by simp [m0])]; simp
  have l1 : (putL (putL (List.replicate 38 0) 0 (memL L)) 16 [lastL L]).length = 38 := by rw [putL_len (by rw [l0]; simp), l0]
  have l2 : (putL (putL (putL (List.replicate 38 0) 0 (memL L)) 16 [lastL L]) 17 (levL L)).length = 38 := by rw [putL_len (by rw [l1, m2]; omega), l1]
  have l3 : (putL (putL (putL (putL (List.replicate 38 0) 0 (memL L)) 16 [lastL L]) 17 (levL L)) 21 (wavL L)).length = 38 := by rw [putL_len (by rw [l2, m3]; omega), l2]
  rw [built_struct hi hu hz hp, hzc, fill_ints (off := 0) (size := 16) rfl m0 (by simp), fill_int (off := 16) rfl (by rw [l0]; omega), fill_ints (off := 17) (size := 4) rfl m2 (by rw [l1]; omega), fill_ints (off := 21) (size := 16) rfl m3 (by rw [l2]; omega), fill_int (off := 37) rfl (by rw [l3]; omega)]
  simp only [Instr.fill]
  congr 2
  clear l0 l1 l2 l3 m0 m2 m3
  match L, hL with
  | x0 :: x1 :: x2 :: x3 :: x4 :: x5 :: x6 :: x7 :: x8 :: x9 :: x10 :: x11 :: x12 :: x13 :: x14 :: x15 :: x16 :: x17 :: x18 :: x19 :: x20 :: x21 :: x22 :: x23 :: x24 :: x25 :: x26 :: x27 :: x28 :: x29 :: x30 :: x31 :: x32 :: x33 :: x34 :: x35 :: x36 :: x37 :: [], _ => rfl
set_option maxRecDepth 100000 in
set_option maxHeartbeats 1600000 in
theorem Of_any (L : List Int) (hL : L.length = 38) (w : World) : Calls Tryd.prog 7 #[.agg (arrV L)] w fun e w' => e = .returned (.agg (arrV L)) ∧ Below w.heap.size w w' := by
  have hbu := state_built5 L hL
  have hA0 := Blk.new w (arrV L) 25
  have hR0 := Blk.new (w.alloc (.cells (arrV L) 25)) (List.toArray (Value.int .i64 0 :: Value.int .i64 0 :: Value.int .i64 0 :: Value.int .i64 0 :: Value.int .i64 0 :: Value.int .i64 0 :: Value.int .i64 0 :: Value.int .i64 0 :: Value.int .i64 0 :: Value.int .i64 0 :: Value.int .i64 0 :: Value.int .i64 0 :: Value.int .i64 0 :: Value.int .i64 0 :: Value.int .i64 0 :: Value.int .i64 0 :: Value.int .i64 0 :: Value.int .i64 0 :: Value.int .i64 0 :: Value.int .i64 0 :: Value.int .i64 0 :: Value.int .i64 0 :: Value.int .i64 0 :: Value.int .i64 0 :: Value.int .i64 0 :: Value.int .i64 0 :: Value.int .i64 0 :: Value.int .i64 0 :: Value.int .i64 0 :: Value.int .i64 0 :: Value.int .i64 0 :: Value.int .i64 0 :: Value.int .i64 0 :: Value.int .i64 0 :: Value.int .i64 0 :: Value.int .i64 0 :: Value.int .i64 0 :: Value.int .i64 0 :: [])) 29
  have hb0 : Below w.heap.size w ((w.alloc (.cells (arrV L) 25)).alloc (.cells (List.toArray (Value.int .i64 0 :: Value.int .i64 0 :: Value.int .i64 0 :: Value.int .i64 0 :: Value.int .i64 0 :: Value.int .i64 0 :: Value.int .i64 0 :: Value.int .i64 0 :: Value.int .i64 0 :: Value.int .i64 0 :: Value.int .i64 0 :: Value.int .i64 0 :: Value.int .i64 0 :: Value.int .i64 0 :: Value.int .i64 0 :: Value.int .i64 0 :: Value.int .i64 0 :: Value.int .i64 0 :: Value.int .i64 0 :: Value.int .i64 0 :: Value.int .i64 0 :: Value.int .i64 0 :: Value.int .i64 0 :: Value.int .i64 0 :: Value.int .i64 0 :: Value.int .i64 0 :: Value.int .i64 0 :: Value.int .i64 0 :: Value.int .i64 0 :: Value.int .i64 0 :: Value.int .i64 0 :: Value.int .i64 0 :: Value.int .i64 0 :: Value.int .i64 0 :: Value.int .i64 0 :: Value.int .i64 0 :: Value.int .i64 0 :: Value.int .i64 0 :: [])) 29)) := ((Below.refl _ _).alloc (Nat.le_refl _) _).alloc (by simp) _
  simp only [World.size_alloc] at hR0
  have hA := hA0.alloc (.cells (List.toArray (Value.int .i64 0 :: Value.int .i64 0 :: Value.int .i64 0 :: Value.int .i64 0 :: Value.int .i64 0 :: Value.int .i64 0 :: Value.int .i64 0 :: Value.int .i64 0 :: Value.int .i64 0 :: Value.int .i64 0 :: Value.int .i64 0 :: Value.int .i64 0 :: Value.int .i64 0 :: Value.int .i64 0 :: Value.int .i64 0 :: Value.int .i64 0 :: Value.int .i64 0 :: Value.int .i64 0 :: Value.int .i64 0 :: Value.int .i64 0 :: Value.int .i64 0 :: Value.int .i64 0 :: Value.int .i64 0 :: Value.int .i64 0 :: Value.int .i64 0 :: Value.int .i64 0 :: Value.int .i64 0 :: Value.int .i64 0 :: Value.int .i64 0 :: Value.int .i64 0 :: Value.int .i64 0 :: Value.int .i64 0 :: Value.int .i64 0 :: Value.int .i64 0 :: Value.int .i64 0 :: Value.int .i64 0 :: Value.int .i64 0 :: Value.int .i64 0 :: [])) 29)
  obtain ⟨B, hB⟩ : ∃ B, w.heap.size = B := ⟨_, rfl⟩
  have m0 : (memL L).length = 16 := by simp [memL, hL]
  have m2 : (levL L).length = 4 := by simp [levL, hL]
  have m3 : (wavL L).length = 16 := by simp [wavL, hL]
  have i0 : (Tryd.prog.info? 22).map (·.size) = some (intsV (memL L)).length := by rw [List.length_map, m0]; exact sixInfo
  have i2 : (Tryd.prog.info? 23).map (·.size) = some (intsV (levL L)).length := by rw [List.length_map, m2]; exact fourInfo
  have i3 : (Tryd.prog.info? 22).map (·.size) = some (intsV (wavL L)).length := by rw [List.length_map, m3]; exact sixInfo
  have iL : (Tryd.prog.info? 29).map (·.size) = some (arrV L).size := by rw [arr_size, hL]; exact stateInfo
  have kL : ((List.toArray (Value.int .i64 0 :: Value.int .i64 0 :: Value.int .i64 0 :: Value.int .i64 0 :: Value.int .i64 0 :: Value.int .i64 0 :: Value.int .i64 0 :: Value.int .i64 0 :: Value.int .i64 0 :: Value.int .i64 0 :: Value.int .i64 0 :: Value.int .i64 0 :: Value.int .i64 0 :: Value.int .i64 0 :: Value.int .i64 0 :: Value.int .i64 0 :: Value.int .i64 0 :: Value.int .i64 0 :: Value.int .i64 0 :: Value.int .i64 0 :: Value.int .i64 0 :: Value.int .i64 0 :: Value.int .i64 0 :: Value.int .i64 0 :: Value.int .i64 0 :: Value.int .i64 0 :: Value.int .i64 0 :: Value.int .i64 0 :: Value.int .i64 0 :: Value.int .i64 0 :: Value.int .i64 0 :: Value.int .i64 0 :: Value.int .i64 0 :: Value.int .i64 0 :: Value.int .i64 0 :: Value.int .i64 0 :: Value.int .i64 0 :: Value.int .i64 0 :: [])) : Array Value).size = (arrV L).size := by rw [arr_size, hL]; rfl
  have HBU := Lib.hid hbu
  clear hbu hA0
  go_enter Tryd.func7, Tryd.ntmps7
  go_upto_region 1 with (fail)
  simp only [hB] at hA hR0 hb0 ⊢
  revert hA hR0 hb0
  generalize ((w.alloc (.cells (arrV L) 25)).alloc (.cells (List.toArray (Value.int .i64 0 :: Value.int .i64 0 :: Value.int .i64 0 :: Value.int .i64 0 :: Value.int .i64 0 :: Value.int .i64 0 :: Value.int .i64 0 :: Value.int .i64 0 :: Value.int .i64 0 :: Value.int .i64 0 :: Value.int .i64 0 :: Value.int .i64 0 :: Value.int .i64 0 :: Value.int .i64 0 :: Value.int .i64 0 :: Value.int .i64 0 :: Value.int .i64 0 :: Value.int .i64 0 :: Value.int .i64 0 :: Value.int .i64 0 :: Value.int .i64 0 :: Value.int .i64 0 :: Value.int .i64 0 :: Value.int .i64 0 :: Value.int .i64 0 :: Value.int .i64 0 :: Value.int .i64 0 :: Value.int .i64 0 :: Value.int .i64 0 :: Value.int .i64 0 :: Value.int .i64 0 :: Value.int .i64 0 :: Value.int .i64 0 :: Value.int .i64 0 :: Value.int .i64 0 :: Value.int .i64 0 :: Value.int .i64 0 :: Value.int .i64 0 :: [])) 29)) = w0
  intro hA hR hb
  have r0 : w0.rangeAt B 0 (intsV (memL L)) := by have h := hA.range 0 16 (by omega); exact h
  have r2 : w0.rangeAt B 17 (intsV (levL L)) := hA.range 17 4 (by omega)
  have r3 : w0.rangeAt B 21 (intsV (wavL L)) := hA.range 21 16 (by omega)
  have c16 := (hA.cell 16).trans (arr_get (l := L) (by omega))
  have c37 := (hA.cell 37).trans (arr_get (l := L) (by omega))
  change w0.cell? ⟨B, 16, none⟩ = some (.int .i64 (lastL L)) at c16
  change w0.cell? ⟨B, 37, none⟩ = some (.int .i64 (lostL L)) at c37
  go_wp2_with (first | (refine wpList_load_mid rfl 22 (.tmp 3) rfl B 0 rfl (intsV (memL L)) (.array 16 3) r0 Tryd.underlying22 rfl i0 ?_) | (refine wpList_load_mid rfl 23 (.tmp 7) rfl B 17 rfl (intsV (levL L)) (.array 4 3) r2 Tryd.underlying23 rfl i2 ?_) | (refine wpList_load_mid rfl 22 (.tmp 9) rfl B 21 rfl (intsV (wavL L)) (.array 16 3) r3 Tryd.underlying22 rfl i3 ?_) | (refine wpList_build_l rfl 29 #[(0, .tmp 4), (1, .tmp 6), (2, .tmp 8), (3, .tmp 10), (4, .tmp 12)] rfl [(0, .agg (arrV (memL L))), (1, .int .i64 (lastL L)), (2, .agg (arrV (levL L))), (3, .agg (arrV (wavL L))), (4, .int .i64 (lostL L))] rfl (arrV L) HBU.out ?_) | (refine wpList_store_blk rfl 29 (.tmp 2) (.tmp 13) rfl (B + 1) _ (arrV L) rfl rfl 29 hR iL kL (arr_one _) ?_))
  have hfin := Below.setRow hb (g := B + 1) (by omega) (arrV L)
  exact bodyPost_ret (v := .agg (arrV L)) (results_cell_row Tryd.results7 _ _ (B + 1) 29 _ (0, 0) _ rfl hR.setRow Tryd.underlying29 rfl iL) rfl ⟨rfl, by first | exact hfin | (rw [hB]; exact hfin)⟩
end Go.Proofs.YtnohjidoelohkaaDoor
