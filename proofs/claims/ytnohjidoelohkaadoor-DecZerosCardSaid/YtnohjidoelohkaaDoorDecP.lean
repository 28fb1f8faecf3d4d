/- The walk of level.Put: a band's waves laid into a frame's. -/
import Derived.Test.YtnohjidoelohkaaDoorDecC
import Derived.Laws.CopyRow
import Derived.Deep.WholeRow
import Derived.Deep.MidRow
namespace Go.Proofs.YtnohjidoelohkaaDoor
open Go.RowKit

theorem Blk.load {W : World} {b : Nat} {cs : Array Value} {t : TypeId} (h : Blk W b cs t) (ty : TypeId) {n : Nat} {e : TypeId} (hu : Tryd.prog.underlying ty = some (.array n e)) (hi : (Tryd.prog.info? ty).map (·.size) = some cs.size) :
    (Instr.loadAt ty (.pointer (some ⟨b, 0, none⟩))).run Tryd.prog W = .ok (.agg cs) W := by
  simp only [Instr.loadAt, Instr.sureAddr, Sem.run_bind, Sem.run_pure, Result.andThen_ok, run_loadVar_row W b t ty cs (0, 0) (.array n e) h hu rfl hi]
theorem Blk.loadS {W : World} {b : Nat} {cs : Array Value} {t : TypeId} (h : Blk W b cs t) (ty : TypeId) {fs : Array Field} (hu : Tryd.prog.underlying ty = some (.struct fs)) (hi : (Tryd.prog.info? ty).map (·.size) = some cs.size) :
    (Instr.loadAt ty (.pointer (some ⟨b, 0, none⟩))).run Tryd.prog W = .ok (.agg cs) W := by
  simp only [Instr.loadAt, Instr.sureAddr, Sem.run_bind, Sem.run_pure, Result.andThen_ok, run_loadVar_row W b t ty cs (0, 0) (.struct fs) h hu rfl hi]
theorem Blk.store {W : World} {b : Nat} {cs new : Array Value} {t : TypeId} (h : Blk W b cs t) (ty : TypeId) (hi : (Tryd.prog.info? ty).map (·.size) = some new.size) (ho : cs.size = new.size) (h1 : new.all (·.oneCell') = true) :
    (Instr.storeAt ty (.pointer (some ⟨b, 0, none⟩)) (.agg new)).run Tryd.prog W = .ok () (W.setRow b new) := by
  simp only [Instr.storeAt, Instr.sureAddr, Sem.run_bind, Sem.run_pure, Result.andThen_ok, run_storeVar_row W b t ty cs new h hi ho h1]
theorem wpList_load_blk {ops : Array Oper} {rest : List Oper} {op : Oper} {a : Act} {w : World} {Q : Exit → Act → World → Prop} (hgd : op.guard = none) (ty : TypeId) (x : Operand) (ho : op.op = .load ty x)
    (b : Nat) (hx : a.eval x = .pointer (some ⟨b, 0, none⟩)) (cs : Array Value) (t : TypeId) (hb : Blk w b cs t) {n : Nat} {e : TypeId} (hu : Tryd.prog.underlying ty = some (.array n e)) (hi : (Tryd.prog.info? ty).map (·.size) = some cs.size)
    (h : wpList Tryd.prog ops Q rest (a.put op.dst (.agg cs)) w) : wpList Tryd.prog ops Q (op :: rest) a w :=
  wpList_plain hgd fun _ hK => by
    unfold Oper.wp execOp
    simp only [ho, hx, Instr.loadAt, Instr.sureAddr, Sem.run_bind, Sem.run_pure, Result.andThen_ok, run_loadVar_row w b t ty cs (0, 0) (.array n e) hb hu rfl hi]
    exact hK _ _ h
theorem wpList_store_blk {ops : Array Oper} {rest : List Oper} {op : Oper} {a : Act} {w : World} {Q : Exit → Act → World → Prop} (hgd : op.guard = none) (ty : TypeId) (x y : Operand) (ho : op.op = .store ty x y)
    (b : Nat) (cs new : Array Value) (hx : a.eval x = .pointer (some ⟨b, 0, none⟩)) (hy : a.eval y = .agg new) (t : TypeId) (hb : Blk w b cs t) (hi : (Tryd.prog.info? ty).map (·.size) = some new.size) (hs : cs.size = new.size) (h1 : new.all (·.oneCell') = true)
    (h : wpList Tryd.prog ops Q rest (a.put op.dst undef) (w.setRow b new)) : wpList Tryd.prog ops Q (op :: rest) a w :=
  wpList_plain hgd fun _ hK => by
    unfold Oper.wp execOp
    simp only [ho, hx, hy, Instr.storeAt, Instr.sureAddr, Sem.run_bind, Sem.run_pure, Result.andThen_ok, run_storeVar_row w b t ty cs new hb hi hs h1]
    exact hK _ _ h
theorem Blk.setRow {W : World} {b : Nat} {cs new : Array Value} {t : TypeId} (h : Blk W b cs t) : Blk (W.setRow b new) b new t := setRow_heap W b cs new t (0, 0) h
theorem Blk.setRowOther {W : World} {b g : Nat} {cs new : Array Value} {t : TypeId} (h : Blk W b cs t) (hne : b ≠ g) : Blk (W.setRow g new) b cs t := (setRow_other W g b new hne).trans h
theorem Below.setRow {B : Nat} {a w : World} (h : Below B a w) {g : Nat} (hg : B ≤ g) (new : Array Value) : Below B a (w.setRow g new) :=
  h.trans ⟨rfl, rfl, rfl, by simp, fun k hk => setRow_other w g k new (by omega)⟩
theorem Kept.setRow {S : Nat → Prop} {w w' : World} (h : Kept S w w') {g : Nat} (hg : S g ∨ w.heap.size ≤ g) (new : Array Value) : Kept S w (w'.setRow g new) :=
  ⟨h.os, h.tape, h.output, by simpa using h.size, fun k hk hn => (setRow_other w' g k new (fun e => by rcases hg with h1 | h1; exact hn (e ▸ h1); omega)).trans (h.block k hk hn)⟩
abbrev arrV (l : List Int) : Array Value := (intsV l).toArray
theorem arr_size (l : List Int) : (arrV l).size = l.length := by simp
theorem ints_one (l : List Int) : ∀ v ∈ intsV l, v.oneCell' = true := by
  intro v hv
  obtain ⟨x, _, rfl⟩ := List.mem_map.1 hv
  rfl
theorem arr_one (l : List Int) : (arrV l).all (·.oneCell') = true := Array.all_eq_true_iff_forall_mem.2 (fun v hv => ints_one l v (by simpa using hv))
theorem blockInfo : (Tryd.prog.info? 27).map (·.size) = some 16 := by kernel_rfl
/-- Numbers laid into others from a place on. -/
def putL (l : List Int) (o : Nat) (c : List Int) : List Int := l.take o ++ c ++ l.drop (o + c.length)
theorem putL_len {l c : List Int} {o : Nat} (h : o + c.length ≤ l.length) : (putL l o c).length = l.length := by simp [putL]; omega
def offN (b : Nat) : Nat := [0, 2, 4, 8].getD b 0

theorem copy_put {W : World} {xb g cap : Nat} {l c : List Int} {t : TypeId} (hX : Blk W xb (arrV l) t) (hR : Row W 3 (.slice (some ⟨g, 0, none⟩) c.length cap) (intsV c)) (o d n : Nat) (hn : c.length = n) (hd : o + d = 16) (hl : l.length = 16) (hnd : n ≤ d) :
    (Builtin.copy_ #[54, 54] 3 #[.slice (some ⟨xb, o, none⟩) d d, .slice (some ⟨g, 0, none⟩) n cap]).run Tryd.prog W = .ok (goInt (n : Nat)) (W.setRow xb (arrV (putL l o c))) := by
  have hlen : (intsV c).length = n := by rw [List.length_map, hn]
  have h := run_copy_row (P := Tryd.prog) W 54 54 3 3 xb o d d ⟨g, 0, none⟩ n cap (arrV l) t (intsV c) Tryd.underlying54 (by kernel_rfl) hX (by rw [hlen]; exact (Nat.min_eq_left hnd).symm) (fun j v hj => by
    have hj2 : j < c.length := by have := (List.getElem?_eq_some_iff.1 hj).1; simpa using this
    rw [Addr.add_mid, Nat.zero_add, hR.cellAt (by simp) j hj2, hj]) (by rw [hlen, arr_size, hl]; omega) (ints_one c)
  rw [hlen] at h
  rw [h]
  have e : ((arrV l).toList.take o ++ intsV c ++ (arrV l).toList.drop (o + n)).toArray = arrV (putL l o c) := by
    simp only [putL, arrV, intsV, List.map_append, List.map_take, List.map_drop, hn]
  rw [e]
set_option maxRecDepth 100000 in
set_option maxHeartbeats 1600000 in
theorem LPut_any (l : List Int) (hl : l.length = 16) (b : Nat) (hb : b < 4) (c : List Int) (hc : c.length = bandN b) (v : Value) (w : World) (hR : Row w 3 v (intsV c)) (hW : BandsW w) :
    Calls Tryd.prog 20 #[.agg (arrV l), .int .i64 b, v] w fun e w' => e = .returned (.agg (arrV (putL l (offN b) c))) ∧ Below w.heap.size w w' := by
  have hm := may_yes b hb
  have hsz := Size_any b hb
  have hne : intsV c ≠ [] := by
    intro h
    have h2 := congrArg List.length h
    rw [List.length_map, hc] at h2
    have hb4 : b = 0 ∨ b = 1 ∨ b = 2 ∨ b = 3 := by omega
    rcases hb4 with rfl | rfl | rfl | rfl <;> simp [bandN] at h2
  obtain ⟨g, cap, rfl, hg⟩ := hR.slice hne
  rw [List.length_map] at hR ⊢
  have hX0 := Blk.new w (arrV l) 27
  obtain ⟨xb, hxb⟩ : ∃ xb, w.heap.size = xb := ⟨_, rfl⟩
  rw [hxb] at hX0
  have hb4 : b = 0 ∨ b = 1 ∨ b = 2 ∨ b = 3 := by omega
  rcases hb4 with rfl | rfl | rfl | rfl
  · simp only [bandN, offN, List.getD_cons_zero, List.getD_cons_succ] at hc hsz ⊢
    rw [hc]
    go_enter Tryd.func20, Tryd.ntmps20
    go_wp2_with fail
    refine (hm _).mono ?_
    rintro e w1 ⟨rfl, rfl⟩
    go_wp2_with fail
    refine (hsz _ (Blk.alloc (Blk.alloc hW _) _)).mono ?_
    rintro e w3 ⟨rfl, hK3⟩
    have hX3 := (hX0.alloc _).keep hK3 (fun h => h)
    have hR3 := ((hR.alloc (.cells (arrV l) 27)).alloc _).keep hK3 (fun _ _ h => h)
    have hW3 : BandsW w3 := Blk.keep (Blk.alloc (Blk.alloc hW _) _) hK3 (fun h => h)
    have hZ3 := (Blk.new (w.alloc (.cells (arrV l) 27)) _ 27).keep hK3 (fun h => h)
    have hb3 : Below w.heap.size w w3 := (((Below.refl w.heap.size w).alloc (Nat.le_refl _) _).alloc (by simp) _).trans (hK3.below (fun _ h => h.elim) (by simp; omega))
    have hcopy := copy_put hX3 hR3 0 16 2 hc rfl hl (by decide)
    have hpl : (putL l 0 c).length = 16 := by rw [putL_len (by omega), hl]
    have hX4 := hX3.setRow (new := arrV (putL l 0 c))
    have hload := hX4.load 27 Tryd.underlying27 (by rw [arr_size, hpl]; kernel_rfl)
    simp only [World.size_alloc, hxb] at hZ3
    have hZ4 := hZ3.setRowOther (g := xb) (new := arrV (putL l 0 c)) (by omega)
    have hstore := hZ4.store (new := arrV (putL l 0 c)) 27 (by rw [arr_size, hpl]; kernel_rfl) (by rw [arr_size, hpl]; rfl) (arr_one _)
    have hZ5 := hZ4.setRow (new := arrV (putL l 0 c))
    have hread := run_loadVar_row (P := Tryd.prog) _ _ _ 27 _ (0, 0) (.array 16 3) hZ5 Tryd.underlying27 rfl (by rw [arr_size, hpl]; kernel_rfl)
    have hb5 : Below w.heap.size w ((w3.setRow xb (arrV (putL l 0 c))).setRow (xb + 1) (arrV (putL l 0 c))) := Below.setRow (Below.setRow hb3 (by omega) _) (by omega) _
    have c0 := hW3.cell 0
    simp only [List.getElem?_toArray, List.getElem?_cons_zero, List.getElem?_cons_succ] at c0
    have hsz1 : (Tryd.prog.info? 27).map (·.size) = some (arrV (putL l 0 c)).size := by rw [arr_size, hpl]; kernel_rfl
    have hsz2 : (#[.int .i64 0, .int .i64 0, .int .i64 0, .int .i64 0, .int .i64 0, .int .i64 0, .int .i64 0, .int .i64 0, .int .i64 0, .int .i64 0, .int .i64 0, .int .i64 0, .int .i64 0, .int .i64 0, .int .i64 0, .int .i64 0] : Array Value).size = (arrV (putL l 0 c)).size := by rw [arr_size, hpl]; rfl
    clear hX3 hR3 hW3 hZ3 hload hstore hread
    go_wp2_with (first | (refine wpList_load_blk rfl 27 (.tmp 3) rfl xb rfl (arrV (putL l 0 c)) 27 hX4 Tryd.underlying27 hsz1 ?_) | (refine wpList_store_blk rfl 27 (.tmp 6) (.tmp 22) rfl (xb + 1) _ (arrV (putL l 0 c)) rfl rfl 27 hZ4 hsz1 hsz2 (arr_one _) ?_))
    exact bodyPost_ret (v := .agg (arrV (putL l 0 c))) (results_cell_row Tryd.results20 _ _ (xb + 1) 27 _ (0, 0) (.array 16 3) rfl hZ5 Tryd.underlying27 rfl hsz1) rfl ⟨rfl, hb5⟩
  · simp only [bandN, offN, List.getD_cons_zero, List.getD_cons_succ] at hc hsz ⊢
    rw [hc]
    go_enter Tryd.func20, Tryd.ntmps20
    go_wp2_with fail
    refine (hm _).mono ?_
    rintro e w1 ⟨rfl, rfl⟩
    go_wp2_with fail
    refine (hsz _ (Blk.alloc (Blk.alloc hW _) _)).mono ?_
    rintro e w3 ⟨rfl, hK3⟩
    have hX3 := (hX0.alloc _).keep hK3 (fun h => h)
    have hR3 := ((hR.alloc (.cells (arrV l) 27)).alloc _).keep hK3 (fun _ _ h => h)
    have hW3 : BandsW w3 := Blk.keep (Blk.alloc (Blk.alloc hW _) _) hK3 (fun h => h)
    have hZ3 := (Blk.new (w.alloc (.cells (arrV l) 27)) _ 27).keep hK3 (fun h => h)
    have hb3 : Below w.heap.size w w3 := (((Below.refl w.heap.size w).alloc (Nat.le_refl _) _).alloc (by simp) _).trans (hK3.below (fun _ h => h.elim) (by simp; omega))
    have hcopy := copy_put hX3 hR3 2 14 2 hc rfl hl (by decide)
    have hpl : (putL l 2 c).length = 16 := by rw [putL_len (by omega), hl]
    have hX4 := hX3.setRow (new := arrV (putL l 2 c))
    have hload := hX4.load 27 Tryd.underlying27 (by rw [arr_size, hpl]; kernel_rfl)
    simp only [World.size_alloc, hxb] at hZ3
    have hZ4 := hZ3.setRowOther (g := xb) (new := arrV (putL l 2 c)) (by omega)
    have hstore := hZ4.store (new := arrV (putL l 2 c)) 27 (by rw [arr_size, hpl]; kernel_rfl) (by rw [arr_size, hpl]; rfl) (arr_one _)
    have hZ5 := hZ4.setRow (new := arrV (putL l 2 c))
    have hread := run_loadVar_row (P := Tryd.prog) _ _ _ 27 _ (0, 0) (.array 16 3) hZ5 Tryd.underlying27 rfl (by rw [arr_size, hpl]; kernel_rfl)
    have hb5 : Below w.heap.size w ((w3.setRow xb (arrV (putL l 2 c))).setRow (xb + 1) (arrV (putL l 2 c))) := Below.setRow (Below.setRow hb3 (by omega) _) (by omega) _
    have c0 := hW3.cell 1
    simp only [List.getElem?_toArray, List.getElem?_cons_zero, List.getElem?_cons_succ] at c0
    have hsz1 : (Tryd.prog.info? 27).map (·.size) = some (arrV (putL l 2 c)).size := by rw [arr_size, hpl]; kernel_rfl
    have hsz2 : (#[.int .i64 0, .int .i64 0, .int .i64 0, .int .i64 0, .int .i64 0, .int .i64 0, .int .i64 0, .int .i64 0, .int .i64 0, .int .i64 0, .int .i64 0, .int .i64 0, .int .i64 0, .int .i64 0, .int .i64 0, .int .i64 0] : Array Value).size = (arrV (putL l 2 c)).size := by rw [arr_size, hpl]; rfl
    clear hX3 hR3 hW3 hZ3 hload hstore hread
    go_wp2_with (first | (refine wpList_load_blk rfl 27 (.tmp 3) rfl xb rfl (arrV (putL l 2 c)) 27 hX4 Tryd.underlying27 hsz1 ?_) | (refine wpList_store_blk rfl 27 (.tmp 6) (.tmp 22) rfl (xb + 1) _ (arrV (putL l 2 c)) rfl rfl 27 hZ4 hsz1 hsz2 (arr_one _) ?_))
    exact bodyPost_ret (v := .agg (arrV (putL l 2 c))) (results_cell_row Tryd.results20 _ _ (xb + 1) 27 _ (0, 0) (.array 16 3) rfl hZ5 Tryd.underlying27 rfl hsz1) rfl ⟨rfl, hb5⟩
  · simp only [bandN, offN, List.getD_cons_zero, List.getD_cons_succ] at hc hsz ⊢
    rw [hc]
    go_enter Tryd.func20, Tryd.ntmps20
    go_wp2_with fail
    refine (hm _).mono ?_
    rintro e w1 ⟨rfl, rfl⟩
    go_wp2_with fail
    refine (hsz _ (Blk.alloc (Blk.alloc hW _) _)).mono ?_
    rintro e w3 ⟨rfl, hK3⟩
    have hX3 := (hX0.alloc _).keep hK3 (fun h => h)
    have hR3 := ((hR.alloc (.cells (arrV l) 27)).alloc _).keep hK3 (fun _ _ h => h)
    have hW3 : BandsW w3 := Blk.keep (Blk.alloc (Blk.alloc hW _) _) hK3 (fun h => h)
    have hZ3 := (Blk.new (w.alloc (.cells (arrV l) 27)) _ 27).keep hK3 (fun h => h)
    have hb3 : Below w.heap.size w w3 := (((Below.refl w.heap.size w).alloc (Nat.le_refl _) _).alloc (by simp) _).trans (hK3.below (fun _ h => h.elim) (by simp; omega))
    have hcopy := copy_put hX3 hR3 4 12 4 hc rfl hl (by decide)
    have hpl : (putL l 4 c).length = 16 := by rw [putL_len (by omega), hl]
    have hX4 := hX3.setRow (new := arrV (putL l 4 c))
    have hload := hX4.load 27 Tryd.underlying27 (by rw [arr_size, hpl]; kernel_rfl)
    simp only [World.size_alloc, hxb] at hZ3
    have hZ4 := hZ3.setRowOther (g := xb) (new := arrV (putL l 4 c)) (by omega)
    have hstore := hZ4.store (new := arrV (putL l 4 c)) 27 (by rw [arr_size, hpl]; kernel_rfl) (by rw [arr_size, hpl]; rfl) (arr_one _)
    have hZ5 := hZ4.setRow (new := arrV (putL l 4 c))
    have hread := run_loadVar_row (P := Tryd.prog) _ _ _ 27 _ (0, 0) (.array 16 3) hZ5 Tryd.underlying27 rfl (by rw [arr_size, hpl]; kernel_rfl)
    have hb5 : Below w.heap.size w ((w3.setRow xb (arrV (putL l 4 c))).setRow (xb + 1) (arrV (putL l 4 c))) := Below.setRow (Below.setRow hb3 (by omega) _) (by omega) _
    have c0 := hW3.cell 2
    simp only [List.getElem?_toArray, List.getElem?_cons_zero, List.getElem?_cons_succ] at c0
    have hsz1 : (Tryd.prog.info? 27).map (·.size) = some (arrV (putL l 4 c)).size := by rw [arr_size, hpl]; kernel_rfl
    have hsz2 : (#[.int .i64 0, .int .i64 0, .int .i64 0, .int .i64 0, .int .i64 0, .int .i64 0, .int .i64 0, .int .i64 0, .int .i64 0, .int .i64 0, .int .i64 0, .int .i64 0, .int .i64 0, .int .i64 0, .int .i64 0, .int .i64 0] : Array Value).size = (arrV (putL l 4 c)).size := by rw [arr_size, hpl]; rfl
    clear hX3 hR3 hW3 hZ3 hload hstore hread
    go_wp2_with (first | (refine wpList_load_blk rfl 27 (.tmp 3) rfl xb rfl (arrV (putL l 4 c)) 27 hX4 Tryd.underlying27 hsz1 ?_) | (refine wpList_store_blk rfl 27 (.tmp 6) (.tmp 22) rfl (xb + 1) _ (arrV (putL l 4 c)) rfl rfl 27 hZ4 hsz1 hsz2 (arr_one _) ?_))
    exact bodyPost_ret (v := .agg (arrV (putL l 4 c))) (results_cell_row Tryd.results20 _ _ (xb + 1) 27 _ (0, 0) (.array 16 3) rfl hZ5 Tryd.underlying27 rfl hsz1) rfl ⟨rfl, hb5⟩
  · simp only [bandN, offN, List.getD_cons_zero, List.getD_cons_succ] at hc hsz ⊢
    rw [hc]
    go_enter Tryd.func20, Tryd.ntmps20
    go_wp2_with fail
    refine (hm _).mono ?_
    rintro e w1 ⟨rfl, rfl⟩
    go_wp2_with fail
    refine (hsz _ (Blk.alloc (Blk.alloc hW _) _)).mono ?_
    rintro e w3 ⟨rfl, hK3⟩
    have hX3 := (hX0.alloc _).keep hK3 (fun h => h)
    have hR3 := ((hR.alloc (.cells (arrV l) 27)).alloc _).keep hK3 (fun _ _ h => h)
    have hW3 : BandsW w3 := Blk.keep (Blk.alloc (Blk.alloc hW _) _) hK3 (fun h => h)
    have hZ3 := (Blk.new (w.alloc (.cells (arrV l) 27)) _ 27).keep hK3 (fun h => h)
    have hb3 : Below w.heap.size w w3 := (((Below.refl w.heap.size w).alloc (Nat.le_refl _) _).alloc (by simp) _).trans (hK3.below (fun _ h => h.elim) (by simp; omega))
    have hcopy := copy_put hX3 hR3 8 8 8 hc rfl hl (by decide)
    have hpl : (putL l 8 c).length = 16 := by rw [putL_len (by omega), hl]
    have hX4 := hX3.setRow (new := arrV (putL l 8 c))
    have hload := hX4.load 27 Tryd.underlying27 (by rw [arr_size, hpl]; kernel_rfl)
    simp only [World.size_alloc, hxb] at hZ3
    have hZ4 := hZ3.setRowOther (g := xb) (new := arrV (putL l 8 c)) (by omega)
    have hstore := hZ4.store (new := arrV (putL l 8 c)) 27 (by rw [arr_size, hpl]; kernel_rfl) (by rw [arr_size, hpl]; rfl) (arr_one _)
    have hZ5 := hZ4.setRow (new := arrV (putL l 8 c))
    have hread := run_loadVar_row (P := Tryd.prog) _ _ _ 27 _ (0, 0) (.array 16 3) hZ5 Tryd.underlying27 rfl (by rw [arr_size, hpl]; kernel_rfl)
    have hb5 : Below w.heap.size w ((w3.setRow xb (arrV (putL l 8 c))).setRow (xb + 1) (arrV (putL l 8 c))) := Below.setRow (Below.setRow hb3 (by omega) _) (by omega) _
    have c0 := hW3.cell 3
    simp only [List.getElem?_toArray, List.getElem?_cons_zero, List.getElem?_cons_succ] at c0
    have hsz1 : (Tryd.prog.info? 27).map (·.size) = some (arrV (putL l 8 c)).size := by rw [arr_size, hpl]; kernel_rfl
    have hsz2 : (#[.int .i64 0, .int .i64 0, .int .i64 0, .int .i64 0, .int .i64 0, .int .i64 0, .int .i64 0, .int .i64 0, .int .i64 0, .int .i64 0, .int .i64 0, .int .i64 0, .int .i64 0, .int .i64 0, .int .i64 0, .int .i64 0] : Array Value).size = (arrV (putL l 8 c)).size := by rw [arr_size, hpl]; rfl
    clear hX3 hR3 hW3 hZ3 hload hstore hread
    go_wp2_with (first | (refine wpList_load_blk rfl 27 (.tmp 3) rfl xb rfl (arrV (putL l 8 c)) 27 hX4 Tryd.underlying27 hsz1 ?_) | (refine wpList_store_blk rfl 27 (.tmp 6) (.tmp 22) rfl (xb + 1) _ (arrV (putL l 8 c)) rfl rfl 27 hZ4 hsz1 hsz2 (arr_one _) ?_))
    exact bodyPost_ret (v := .agg (arrV (putL l 8 c))) (results_cell_row Tryd.results20 _ _ (xb + 1) 27 _ (0, 0) (.array 16 3) rfl hZ5 Tryd.underlying27 rfl hsz1) rfl ⟨rfl, hb5⟩
end Go.Proofs.YtnohjidoelohkaaDoor
