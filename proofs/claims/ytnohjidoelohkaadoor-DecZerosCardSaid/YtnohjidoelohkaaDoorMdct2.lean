/- The walk of mdct.Back: the way back. -/
import Derived.Test.YtnohjidoelohkaaDoorMdct
import Derived.Deep.Cut
namespace Go.Proofs.YtnohjidoelohkaaDoor
open Go.RowKit

theorem Shift16 (x : Int) (w : World) : Calls Tryd.prog 47 #[.int .i64 x, .int .i64 16] w fun e w' => e = .returned (.int .i64 (Sp.shiftN 16 x)) ∧ w = w' := by
  unfold Sp.shiftN
  by_cases h1 : x < -1099511627776
  · rw [if_pos (.inl h1)]
    go_enter Tryd.func47, Tryd.ntmps47
    go_wp2
    go_ret
    exact ⟨rfl, rfl⟩
  by_cases h2 : 1099511627776 < x
  · rw [if_pos (.inr h2)]
    go_enter Tryd.func47, Tryd.ntmps47
    go_wp2
    go_ret
    exact ⟨rfl, rfl⟩
  rw [if_neg (by omega)]
  go_enter Tryd.func47, Tryd.ntmps47
  go_wp2
  go_ret
  exact ⟨rfl, rfl⟩
theorem wide_no {l : List Int} (h : l.any wideP = false) (k : Nat) : -1048576 ≤ l.getD k 0 ∧ l.getD k 0 ≤ 1048576 := by
  rw [List.getD_eq_getElem?_getD]
  cases hk : l[k]? with
  | none => simp
  | some x =>
    have := List.any_eq_false.1 h x (List.mem_of_getElem? hk)
    simp [wideP] at this
    simp; omega
theorem mul_bd {a b A B : Int} (ha0 : -A ≤ a) (ha1 : a ≤ A) (hb0 : -B ≤ b) (hb1 : b ≤ B) : -(A * B) ≤ a * b ∧ a * b ≤ A * B := by
  have h1 := Int.mul_nonneg (show 0 ≤ A - a by omega) (show 0 ≤ B - b by omega)
  have h2 := Int.mul_nonneg (show 0 ≤ A + a by omega) (show 0 ≤ B + b by omega)
  have h3 := Int.mul_nonneg (show 0 ≤ A - a by omega) (show 0 ≤ B + b by omega)
  have h4 := Int.mul_nonneg (show 0 ≤ A + a by omega) (show 0 ≤ B - b by omega)
  simp only [Int.sub_mul, Int.mul_sub, Int.add_mul, Int.mul_add] at h1 h2 h3 h4
  omega
theorem wk_bd {l : List Int} (h : l.any wideP = false) (n k : Nat) : -34359738368 ≤ l.getD k 0 * kerAt n k ∧ l.getD k 0 * kerAt n k ≤ 34359738368 := by
  have h1 := wide_no h k
  have h2 := kerAt_bd n k
  exact mul_bd h1.1 h1.2 h2.1 h2.2
set_option maxHeartbeats 800000 in
theorem Back1_any (wv : List Int) (hl : wv.length = 16) (hw : wv.any wideP = false) (bw bt bn bk n k : Nat) (hn : n < 32) (hk : k < 16) (w : World) (hB : Blk w bw (arrV wv) 27) (hT : Blk w bt #[.pointer (some ⟨bk, 0, none⟩)] 82) (hN : Blk w bn #[.int .i64 n] 3) (hK : Blk w bk (arrV kerL) 87) :
    Calls Tryd.prog 45 #[.int .i64 k, .pointer (some ⟨bw, 0, none⟩), .pointer (some ⟨bt, 0, none⟩), .pointer (some ⟨bn, 0, none⟩)] w fun e w' => e = .returned (.int .i64 (wv.getD k 0 * kerAt n k)) ∧ Below w.heap.size w w' := by
  have c0 := (hB.cell k).trans (arr_get (by rw [hl]; exact hk))
  have c1 := hT.cell 0
  have c2 := hN.cell 0
  simp only [List.getElem?_toArray, List.getElem?_cons_zero] at c1 c2
  have hat := fun m => at_any bk n k hn hk (w.drewN m) (hK.drewN m)
  have hp := wk_bd hw n k
  obtain ⟨x, hx⟩ : ∃ x, wv.getD k 0 = x := ⟨_, rfl⟩
  obtain ⟨y, hy⟩ : ∃ y, kerAt n k = y := ⟨_, rfl⟩
  rw [hx] at c0
  rw [hx, hy] at hp ⊢
  simp only [hy] at hat
  clear hx hy
  go_enter Tryd.func45, Tryd.ntmps45
  go_wp2_with fail
  go_quiet ((go_at_call 46; exact quiet_same (hat _)))
  go_wp2_with fail
  go_ret
  exact ⟨rfl, belowNN (Below.refl _ _) _⟩
theorem Blk.loadVar {W : World} {b : Nat} {cs : Array Value} {t : TypeId} (h : Blk W b cs t) (ty : TypeId) {d : TypeDesc} (hu : Tryd.prog.underlying ty = some d) (hd : d.isRow = true) (hi : (Tryd.prog.info? ty).map (·.size) = some cs.size) :
    (Go.loadVar ty ⟨b, 0, none⟩).run Tryd.prog W = .ok (.agg cs) W := by
  have hc : W.rangeAt b 0 cs.toList := fun j v hv => by rw [Nat.zero_add, h.cell j, ← hv]; simp
  have := run_loadVar_mid (P := Tryd.prog) W b 0 ty cs.toList d hc hu hd (by simpa using hi)
  simpa using this
theorem results_cc {fn : Func} {p q : Tmp} {ty ty2 : TypeId} (h : fn.results = #[.cell p ty, .cell q ty2]) (tmps : Array Value) (w : World) (g g2 : Nat) (t t2 : TypeId) (cs cs2 : Array Value) (d d2 : TypeDesc)
    (hp : tmps.getD p undef = .pointer (some ⟨g, 0, none⟩)) (hg : Blk w g cs t) (hu : Tryd.prog.underlying ty = some d) (hd : d.isRow = true) (hi : (Tryd.prog.info? ty).map (·.size) = some cs.size)
    (hp2 : tmps.getD q undef = .pointer (some ⟨g2, 0, none⟩)) (hg2 : Blk w g2 cs2 t2) (hu2 : Tryd.prog.underlying ty2 = some d2) (hd2 : d2.isRow = true) (hi2 : (Tryd.prog.info? ty2).map (·.size) = some cs2.size) :
    (results fn tmps).run Tryd.prog w = .ok (.tuple #[.agg cs, .agg cs2]) w := by
  have hp' : tmps[p]?.getD undef = .pointer (some ⟨g, 0, none⟩) := by simpa using hp
  have hp2' : tmps[q]?.getD undef = .pointer (some ⟨g2, 0, none⟩) := by simpa using hp2
  simp [results, h, hp', hp2', asAddr, hg.loadVar ty hu hd hi, hg2.loadVar ty2 hu2 hd2 hi2]
theorem results_cct {fn : Func} {p q r : Tmp} {ty ty2 : TypeId} (h : fn.results = #[.cell p ty, .cell q ty2, .tmp r]) (tmps : Array Value) (w : World) (g g2 : Nat) (t t2 : TypeId) (cs cs2 : Array Value) (d d2 : TypeDesc) (v : Value)
    (hp : tmps.getD p undef = .pointer (some ⟨g, 0, none⟩)) (hg : Blk w g cs t) (hu : Tryd.prog.underlying ty = some d) (hd : d.isRow = true) (hi : (Tryd.prog.info? ty).map (·.size) = some cs.size)
    (hp2 : tmps.getD q undef = .pointer (some ⟨g2, 0, none⟩)) (hg2 : Blk w g2 cs2 t2) (hu2 : Tryd.prog.underlying ty2 = some d2) (hd2 : d2.isRow = true) (hi2 : (Tryd.prog.info? ty2).map (·.size) = some cs2.size) (hr : tmps.getD r undef = v) :
    (results fn tmps).run Tryd.prog w = .ok (.tuple #[.agg cs, .agg cs2, v]) w := by
  have hp' : tmps[p]?.getD undef = .pointer (some ⟨g, 0, none⟩) := by simpa using hp
  have hp2' : tmps[q]?.getD undef = .pointer (some ⟨g2, 0, none⟩) := by simpa using hp2
  have hr' : tmps[r]?.getD undef = v := by simpa using hr
  simp [results, h, hp', hp2', hr', asAddr, hg.loadVar ty hu hd hi, hg2.loadVar ty2 hu2 hd2 hi2]
theorem results_ct {fn : Func} {p r : Tmp} {ty : TypeId} (h : fn.results = #[.cell p ty, .tmp r]) (tmps : Array Value) (w : World) (g : Nat) (t : TypeId) (cs : Array Value) (d : TypeDesc) (v : Value)
    (hp : tmps.getD p undef = .pointer (some ⟨g, 0, none⟩)) (hg : Blk w g cs t) (hu : Tryd.prog.underlying ty = some d) (hd : d.isRow = true) (hi : (Tryd.prog.info? ty).map (·.size) = some cs.size) (hr : tmps.getD r undef = v) :
    (results fn tmps).run Tryd.prog w = .ok (.tuple #[.agg cs, v]) w := by
  have hp' : tmps[p]?.getD undef = .pointer (some ⟨g, 0, none⟩) := by simpa using hp
  have hr' : tmps[r]?.getD undef = v := by simpa using hr
  simp [results, h, hp', hr', asAddr, hg.loadVar ty hu hd hi]
/-- Memory while the way back is gone. -/
structure BackW (w wr : World) (B tb bk : Nat) (wv : List Int) (F : Nat → Int) (k : Nat) : Prop where
  wav : Blk wr B (arrV wv) 27
  r1 : Blk wr (B + 1) (arrV (List.replicate 16 0)) 27
  r2 : Blk wr (B + 2) (arrV (List.replicate 16 0)) 27
  out : Blk wr (B + 3) (arrV (filled F 32 k)) 81
  ptr : Blk wr tb #[.pointer (some ⟨bk, 0, none⟩)] 82
  ker : Blk wr bk (arrV kerL) 87
  far : Below w.heap.size w wr
theorem BackW.below {w wr w' : World} {B tb bk : Nat} {wv : List Int} {F : Nat → Int} {k : Nat} (h : BackW w wr B tb bk wv F k) (hb : Below wr.heap.size wr w') : BackW w w' B tb bk wv F k :=
  ⟨h.wav.newB hb, h.r1.newB hb, h.r2.newB hb, h.out.newB hb, h.ptr.newB hb, h.ker.newB hb, h.far.trans (hb.mono h.far.size)⟩
theorem BackW.alloc {w wr : World} {B tb bk : Nat} {wv : List Int} {F : Nat → Int} {k : Nat} (h : BackW w wr B tb bk wv F k) (o : Obj) : BackW w (wr.alloc o) B tb bk wv F k :=
  h.below ((Below.refl _ _).alloc (Nat.le_refl _) _)
theorem BackW.set {w wr : World} {B tb bk : Nat} {wv : List Int} {F : Nat → Int} {k : Nat} (h : BackW w wr B tb bk wv F k) (hB : w.heap.size ≤ B) (htb : B + 3 < tb) (hbk : B + 3 < bk) (x : Int) (hx : x = F k) : BackW w (wr.setCell ⟨B + 3, k, none⟩ (.int .i64 x)) B tb bk wv F (k + 1) :=
  ⟨h.wav.other (by simp only []; omega) _, h.r1.other (by simp only []; omega) _, h.r2.other (by simp only []; omega) _, by subst hx; rw [← filled_set, ← arr_set]; exact h.out.set k _, h.ptr.other (by simp only []; omega) _, h.ker.other (by simp only []; omega) _, h.far.setCell (by show w.heap.size ≤ B + 3; omega) _⟩
theorem BackW.setVar {w wr : World} {B tb bk : Nat} {wv : List Int} {F : Nat → Int} {k : Nat} (h : BackW w wr B tb bk wv F k) {g : Nat} (hg : w.heap.size ≤ g) (h3 : B + 3 < g) (hgt : g ≠ tb) (hgk : g ≠ bk) (x : Value) : BackW w (wr.setCell ⟨g, 0, none⟩ x) B tb bk wv F k :=
  ⟨h.wav.other (by simp only []; omega) _, h.r1.other (by simp only []; omega) _, h.r2.other (by simp only []; omega) _, h.out.other (by simp only []; omega) _, h.ptr.other (by simp only []; omega) _, h.ker.other (by simp only []; omega) _, h.far.setCell hg _⟩
theorem BackW.drew {w wr : World} {B tb bk : Nat} {wv : List Int} {F : Nat → Int} {k : Nat} (h : BackW w wr B tb bk wv F k) : BackW w wr.drew B tb bk wv F k :=
  ⟨h.wav.drew, h.r1.drew, h.r2.drew, h.out.drew, h.ptr.drew, h.ker.drew, h.far.drew⟩
theorem range_setRow {W : World} {b o g : Nat} {cs : List Value} {new : Array Value} (h : W.rangeAt b o cs) (hne : b ≠ g) : (W.setRow g new).rangeAt b o cs := fun j v hv => by
  rw [← h j v hv]
  simp only [World.cell?]
  rw [show (W.setRow g new).heap[b]? = W.heap[b]? from setRow_other W g b new hne]
theorem wp_store_blk {op : Oper} {a : Act} {w : World} {K : Act → World → Prop} {Q : Exit → Act → World → Prop} (ty : TypeId) (x y : Operand) (ho : op.op = .store ty x y)
    (b : Nat) (cs new : Array Value) (hx : a.eval x = .pointer (some ⟨b, 0, none⟩)) (hy : a.eval y = .agg new) (t : TypeId) (hb : Blk w b cs t) (hi : (Tryd.prog.info? ty).map (·.size) = some new.size) (hs : cs.size = new.size) (h1 : new.all (·.oneCell') = true)
    (h : K (a.put op.dst undef) (w.setRow b new)) : op.wp Tryd.prog a w K Q := by
  unfold Oper.wp execOp
  simp only [ho, hx, hy, Instr.storeAt, Instr.sureAddr, Sem.run_bind, Sem.run_pure, Result.andThen_ok, run_storeVar_row w b t ty cs new hb hi hs h1]
  exact h
theorem run_arrayAt (t : TypeId) {n len cap : Nat} {e : TypeId} (hu : Tryd.prog.underlying t = some (.array n e)) (hn : n ≤ len) (a : Addr) (w : World) :
    (Instr.arrayAt t (.slice (some a) len cap)).run Tryd.prog w = .ok (.pointer (some a)) w := by
  simp [Instr.arrayAt, run_underlying hu]
  omega
theorem zero16 : (#[.int .i64 0, .int .i64 0, .int .i64 0, .int .i64 0, .int .i64 0, .int .i64 0, .int .i64 0, .int .i64 0, .int .i64 0, .int .i64 0, .int .i64 0, .int .i64 0, .int .i64 0, .int .i64 0, .int .i64 0, .int .i64 0] : Array Value) = arrV (List.replicate 16 0) := by kernel_rfl
/-- Four blocks, one behind the other. -/
theorem four_new (w : World) (c0 c1 c2 c3 : Array Value) (t0 t1 t2 t3 : TypeId) : Blk ((((w.alloc (.cells c0 t0)).alloc (.cells c1 t1)).alloc (.cells c2 t2)).alloc (.cells c3 t3)) w.heap.size c0 t0 ∧ Blk ((((w.alloc (.cells c0 t0)).alloc (.cells c1 t1)).alloc (.cells c2 t2)).alloc (.cells c3 t3)) (w.heap.size + 1) c1 t1 ∧
    Blk ((((w.alloc (.cells c0 t0)).alloc (.cells c1 t1)).alloc (.cells c2 t2)).alloc (.cells c3 t3)) (w.heap.size + 2) c2 t2 ∧ Blk ((((w.alloc (.cells c0 t0)).alloc (.cells c1 t1)).alloc (.cells c2 t2)).alloc (.cells c3 t3)) (w.heap.size + 3) c3 t3 ∧
    Below w.heap.size w ((((w.alloc (.cells c0 t0)).alloc (.cells c1 t1)).alloc (.cells c2 t2)).alloc (.cells c3 t3)) ∧ ((((w.alloc (.cells c0 t0)).alloc (.cells c1 t1)).alloc (.cells c2 t2)).alloc (.cells c3 t3)).heap.size = w.heap.size + 4 := by
  have h0 := Blk.new w c0 t0
  have h1 := Blk.new (w.alloc (.cells c0 t0)) c1 t1
  have h2 := Blk.new ((w.alloc (.cells c0 t0)).alloc (.cells c1 t1)) c2 t2
  have h3 := Blk.new (((w.alloc (.cells c0 t0)).alloc (.cells c1 t1)).alloc (.cells c2 t2)) c3 t3
  simp only [World.size_alloc] at h1 h2 h3
  refine ⟨((h0.alloc _).alloc _).alloc _, (h1.alloc _).alloc _, h2.alloc _, h3, ((((Below.refl _ _).alloc (Nat.le_refl _) _).alloc (by simp) _).alloc (by simp; omega) _).alloc (by simp; omega) _, by simp⟩
set_option maxRecDepth 100000 in
set_option maxHeartbeats 1600000 in
theorem Back_any (wv : List Int) (hl : wv.length = 16) (w : World) : Calls Tryd.prog 22 #[.agg (arrV wv)] w fun e w' => e = .returned (.tuple #[.agg (arrV ((backL wv).take 16)), .agg (arrV ((backL wv).drop 16))]) ∧ Below w.heap.size w w' := by
  obtain ⟨hA, hR1, hR2, hO0, hb0, hs0⟩ := four_new w (arrV wv) #[.int .i64 0, .int .i64 0, .int .i64 0, .int .i64 0, .int .i64 0, .int .i64 0, .int .i64 0, .int .i64 0, .int .i64 0, .int .i64 0, .int .i64 0, .int .i64 0, .int .i64 0, .int .i64 0, .int .i64 0, .int .i64 0] #[.int .i64 0, .int .i64 0, .int .i64 0, .int .i64 0, .int .i64 0, .int .i64 0, .int .i64 0, .int .i64 0, .int .i64 0, .int .i64 0, .int .i64 0, .int .i64 0, .int .i64 0, .int .i64 0, .int .i64 0, .int .i64 0] #[.int .i64 0, .int .i64 0, .int .i64 0, .int .i64 0, .int .i64 0, .int .i64 0, .int .i64 0, .int .i64 0, .int .i64 0, .int .i64 0, .int .i64 0, .int .i64 0, .int .i64 0, .int .i64 0, .int .i64 0, .int .i64 0, .int .i64 0, .int .i64 0, .int .i64 0, .int .i64 0, .int .i64 0, .int .i64 0, .int .i64 0, .int .i64 0, .int .i64 0, .int .i64 0, .int .i64 0, .int .i64 0, .int .i64 0, .int .i64 0, .int .i64 0, .int .i64 0] 27 27 27 81
  obtain ⟨B, hB⟩ : ∃ B, w.heap.size = B := ⟨_, rfl⟩
  have hsz : (Tryd.prog.info? 27).map (·.size) = some (arrV wv).size := by rw [arr_size, hl]; exact blockInfo
  have hheld := fun w => Held_any wv hl w
  cases hw : wv.any wideP with
  | true =>
    rw [hw] at hheld
    obtain ⟨O, hO⟩ : ∃ O, List.replicate 32 (0 : Int) = O := ⟨_, rfl⟩
    have hBL : backL wv = O := by unfold backL; rw [hw, ← hO]; rfl
    have HO := Lib.hid hBL
    have hol : O.length = 32 := by rw [← hO]; rfl
    clear hBL
    go_enter Tryd.func22, Tryd.ntmps22
    go_upto_region 2 with (fail)
    simp only [hB] at hA hR1 hR2 hO0 hb0 hs0 ⊢
    revert hA hR1 hR2 hO0 hb0 hs0
    generalize ((((w.alloc (.cells (arrV wv) 27)).alloc (.cells #[.int .i64 0, .int .i64 0, .int .i64 0, .int .i64 0, .int .i64 0, .int .i64 0, .int .i64 0, .int .i64 0, .int .i64 0, .int .i64 0, .int .i64 0, .int .i64 0, .int .i64 0, .int .i64 0, .int .i64 0, .int .i64 0] 27)).alloc (.cells #[.int .i64 0, .int .i64 0, .int .i64 0, .int .i64 0, .int .i64 0, .int .i64 0, .int .i64 0, .int .i64 0, .int .i64 0, .int .i64 0, .int .i64 0, .int .i64 0, .int .i64 0, .int .i64 0, .int .i64 0, .int .i64 0] 27)).alloc (.cells #[.int .i64 0, .int .i64 0, .int .i64 0, .int .i64 0, .int .i64 0, .int .i64 0, .int .i64 0, .int .i64 0, .int .i64 0, .int .i64 0, .int .i64 0, .int .i64 0, .int .i64 0, .int .i64 0, .int .i64 0, .int .i64 0, .int .i64 0, .int .i64 0, .int .i64 0, .int .i64 0, .int .i64 0, .int .i64 0, .int .i64 0, .int .i64 0, .int .i64 0, .int .i64 0, .int .i64 0, .int .i64 0, .int .i64 0, .int .i64 0, .int .i64 0, .int .i64 0] 81)) = w0
    intro hA hR1 hR2 hO0 hb0 hs0
    rw [zero16] at hR1 hR2
    rw [zero32, hO] at hO0
    go_wp2_with (first | (refine wpList_load_blk rfl 27 (.tmp 1) rfl B rfl (arrV wv) 27 hA Tryd.underlying27 hsz ?_))
    refine (hheld _).mono ?_
    rintro e wr ⟨rfl, hb1⟩
    have hr1 := hR1.newB hb1
    have hr2 := hR2.newB hb1
    have ho := hO0.newB hb1
    have hfar : Below B w wr := hb0.trans (hb1.mono (by omega))
    clear hO
    have hl1 : (O.take 16).length = 16 := by rw [List.length_take, hol]; rfl
    have hl2 : (O.drop 16).length = 16 := by rw [List.length_drop, hol]
    have e1 : wr.rangeAt (B + 3) 0 (intsV (O.take 16)) := by have h := ho.range 0 16 (by omega); simpa using h
    have e2 : wr.rangeAt (B + 3) 16 (intsV (O.drop 16)) := by have h := ho.range 16 16 (by omega); rwa [List.take_of_length_le (by omega)] at h
    obtain ⟨l1, hl1e⟩ : ∃ l1, O.take 16 = l1 := ⟨_, rfl⟩
    obtain ⟨l2, hl2e⟩ : ∃ l2, O.drop 16 = l2 := ⟨_, rfl⟩
    rw [hl1e] at e1 hl1
    rw [hl2e] at e2 hl2
    have i1 : (Tryd.prog.info? 27).map (·.size) = some (intsV l1).length := by rw [List.length_map, hl1]; exact blockInfo
    have i2 : (Tryd.prog.info? 27).map (·.size) = some (intsV l2).length := by rw [List.length_map, hl2]; exact blockInfo
    have j1 : (Tryd.prog.info? 27).map (·.size) = some (arrV l1).size := by rw [arr_size, hl1]; exact blockInfo
    have j2 : (Tryd.prog.info? 27).map (·.size) = some (arrV l2).size := by rw [arr_size, hl2]; exact blockInfo
    have k1 : (arrV (List.replicate 16 0)).size = (arrV l1).size := by rw [arr_size, arr_size, hl1]; rfl
    have k2 : (arrV (List.replicate 16 0)).size = (arrV l2).size := by rw [arr_size, arr_size, hl2]; rfl
    have y0 : wr.rangeAt (B + 1 + 1 + 1) 0 (intsV l1) ∧ wr.rangeAt (B + 1 + 1 + 1) 16 (intsV l2) := ⟨e1, e2⟩
    have yd : wr.drew.rangeAt (B + 1 + 1 + 1) 0 (intsV l1) ∧ wr.drew.rangeAt (B + 1 + 1 + 1) 16 (intsV l2) := ⟨e1, e2⟩
    have A1 := fun W => run_arrayAt 27 (cap := 32) Tryd.underlying27 (Nat.le_refl 16) ⟨B + 1 + 1 + 1, 0, none⟩ W
    have A2 := fun W => run_arrayAt 27 (cap := 16) Tryd.underlying27 (Nat.le_refl 16) ⟨B + 1 + 1 + 1, 16, none⟩ W
    have L1 : ∀ W : World, (W.rangeAt (B + 1 + 1 + 1) 0 (intsV l1) ∧ W.rangeAt (B + 1 + 1 + 1) 16 (intsV l2)) → (Instr.loadAt 27 (.pointer (some ⟨B + 1 + 1 + 1, 0, none⟩))).run Tryd.prog W = .ok (.agg (arrV l1)) W := fun W h => run_loadAt_mid W _ 0 27 _ (.array 16 3) h.1 Tryd.underlying27 rfl i1
    have L2 : ∀ W : World, (W.rangeAt (B + 1 + 1 + 1) 0 (intsV l1) ∧ W.rangeAt (B + 1 + 1 + 1) 16 (intsV l2)) → (Instr.loadAt 27 (.pointer (some ⟨B + 1 + 1 + 1, 16, none⟩))).run Tryd.prog W = .ok (.agg (arrV l2)) W := fun W h => run_loadAt_mid W _ 16 27 _ (.array 16 3) h.2 Tryd.underlying27 rfl i2
    have hu16 := Tryd.underlying27
    have HA1 := Lib.hid hl1e
    have HA2 := Lib.hid hl2e
    clear L1 L2 e1 e2 hl1e hl2e ho
    go_wp2_with fail
    refine wp_region_held_drew (S := (fun W => W.rangeAt (B + 1 + 1 + 1) 0 (intsV l1) ∧ W.rangeAt (B + 1 + 1 + 1) 16 (intsV l2))) (by kernel_rfl) yd (fun hH => ?_)
    refine wpAnyH_take (i := 0) (oi := { dst := some 29, op := .slice 81 (.tmp 4) none (some (.const (.int .i64 16))) none, type := 54, pos := "mdct.go:72", after := _, guard := none }) (v := .slice (some ⟨B + 1 + 1 + 1, 0, none⟩) 16 32) rfl (by kernel_rfl) (by kernel_rfl) (by kernel_rfl) (fun _ _ _ h => h) (.inl ⟨by rfl, fun w _ => by go_simp⟩) hH ?_
    try simp only [Act.put, List.setIfInBounds_toArray, List.set_cons_zero, List.set_cons_succ]
    refine wpAnyH_take (i := 1) (oi := { dst := some 30, op := .sliceToArrayPointer 27 (.tmp 29), type := 0, pos := "mdct.go:72", after := _, guard := none }) (v := .pointer (some ⟨B + 1 + 1 + 1, 0, none⟩)) rfl (by kernel_rfl) (by kernel_rfl) (by kernel_rfl) (fun _ _ _ h => h) (.inl ⟨by rfl, fun w _ => by go_simp⟩) hH ?_
    try simp only [Act.put, List.setIfInBounds_toArray, List.set_cons_zero, List.set_cons_succ]
    refine wpAnyH_take (i := 2) (oi := { dst := some 31, op := .load 27 (.tmp 30), type := 27, pos := "mdct.go:72", after := _, guard := none }) (v := .agg (arrV l1)) rfl (by kernel_rfl) (by kernel_rfl) (by kernel_rfl) (fun _ _ _ h => h) (yieldsIf_load_mid (by rfl) 27 (.tmp 30) rfl (B + 1 + 1 + 1) 0 rfl (intsV l1) (.array 16 3) (fun _ h => h.1) hu16 rfl i1) hH ?_
    try simp only [Act.put, List.setIfInBounds_toArray, List.set_cons_zero, List.set_cons_succ]
    refine wpAnyH_take (i := 3) (oi := { dst := some 32, op := .slice 81 (.tmp 4) (some (.const (.int .i64 16))) none none, type := 54, pos := "mdct.go:72", after := _, guard := none }) (v := .slice (some ⟨B + 1 + 1 + 1, 16, none⟩) 16 16) rfl (by kernel_rfl) (by kernel_rfl) (by kernel_rfl) (fun _ _ _ h => h) (.inl ⟨by rfl, fun w _ => by go_simp⟩) hH ?_
    try simp only [Act.put, List.setIfInBounds_toArray, List.set_cons_zero, List.set_cons_succ]
    refine wpAnyH_take (i := 4) (oi := { dst := some 33, op := .sliceToArrayPointer 27 (.tmp 32), type := 0, pos := "mdct.go:72", after := _, guard := none }) (v := .pointer (some ⟨B + 1 + 1 + 1, 16, none⟩)) rfl (by kernel_rfl) (by kernel_rfl) (by kernel_rfl) (fun _ _ _ h => h) (.inl ⟨by rfl, fun w _ => by go_simp⟩) hH ?_
    try simp only [Act.put, List.setIfInBounds_toArray, List.set_cons_zero, List.set_cons_succ]
    refine wpAnyH_take (i := 5) (oi := { dst := some 34, op := .load 27 (.tmp 33), type := 27, pos := "mdct.go:72", after := _, guard := none }) (v := .agg (arrV l2)) rfl (by kernel_rfl) (by kernel_rfl) (by kernel_rfl) (fun _ _ _ h => h) (yieldsIf_load_mid (by rfl) 27 (.tmp 33) rfl (B + 1 + 1 + 1) 16 rfl (intsV l2) (.array 16 3) (fun _ h => h.2) hu16 rfl i2) hH ?_
    try simp only [Act.put, List.setIfInBounds_toArray, List.set_cons_zero, List.set_cons_succ]
    refine wpAnyH_ready (rs := [6]) (by kernel_rfl) (by simp) ?_
    refine AllReadyH.cons (o := { dst := none, op := .store 27 (.tmp 2) (.tmp 31), type := 0, pos := "mdct.go:72", after := _, guard := none }) rfl (fun K hK => ?_) AllReadyH.nil
    rw [if_pos (by rfl)]
    refine wp_store_blk 27 (.tmp 2) (.tmp 31) rfl (B + 1) _ (arrV l1) rfl rfl 27 hr1.drew j1 k1 (arr_one _) ?_
    refine hK.out _ _ ⟨range_setRow yd.1 (by omega), range_setRow yd.2 (by omega)⟩ (fun hH => ?_)
    clear hK K
    try simp only [Act.put, List.setIfInBounds_toArray, List.set_cons_zero, List.set_cons_succ]
    refine wpAnyH_ready (rs := [7]) (by kernel_rfl) (by simp) ?_
    refine AllReadyH.cons (o := { dst := none, op := .store 27 (.tmp 3) (.tmp 34), type := 0, pos := "mdct.go:72", after := _, guard := none }) rfl (fun K hK => ?_) AllReadyH.nil
    rw [if_pos (by rfl)]
    refine wp_store_blk 27 (.tmp 3) (.tmp 34) rfl (B + 2) _ (arrV l2) rfl rfl 27 (hr2.drew.setRowOther (by omega)) j2 k2 (arr_one _) ?_
    refine hK.out _ _ ⟨range_setRow (range_setRow yd.1 (by omega)) (by omega), range_setRow (range_setRow yd.2 (by omega)) (by omega)⟩ (fun hH => ?_)
    clear hK K
    try simp only [Act.put, List.setIfInBounds_toArray, List.set_cons_zero, List.set_cons_succ]
    refine wpAnyH_done (by kernel_rfl) ?_ _
    go_wp2_with fail
    exact bodyPost_ret (v := .tuple #[.agg (arrV l1), .agg (arrV l2)]) (results_cc Tryd.results22 _ _ (B + 1) (B + 2) 27 27 _ _ (.array 16 3) (.array 16 3) rfl (hr1.drew.setRow.setRowOther (by omega)) Tryd.underlying27 rfl j1 rfl (hr2.drew.setRowOther (by omega)).setRow Tryd.underlying27 rfl j2) rfl ⟨by rw [HO.out, HA1.out, HA2.out], by have h : Below B w _ := Below.setRow (Below.setRow hfar.drew (g := B + 1) (by omega) (arrV l1)) (g := B + 2) (by omega) (arrV l2); rw [hB]; exact h⟩
  | false =>
    rw [hw] at hheld
    obtain ⟨F, hF⟩ : ∃ F, back1 wv = F := ⟨_, rfl⟩
    have hBL : backL wv = filled F 32 32 := by unfold backL; rw [hw, filled_all, hF]; rfl
    have hFn : ∀ n, Sp.shiftN 16 (Sp.shiftN 15 (sumF (fun k => wv.getD k 0 * kerAt n k) 16) * winTab.getD n 0) = F n := fun n => by rw [← hF]; rfl
    have HBL := Lib.hid hBL
    have HFN := Lib.hid hFn
    clear hBL hFn hF
    go_enter Tryd.func22, Tryd.ntmps22
    go_upto_region 2 with (fail)
    simp only [hB] at hA hR1 hR2 hO0 hb0 hs0 ⊢
    revert hA hR1 hR2 hO0 hb0 hs0
    generalize ((((w.alloc (.cells (arrV wv) 27)).alloc (.cells #[.int .i64 0, .int .i64 0, .int .i64 0, .int .i64 0, .int .i64 0, .int .i64 0, .int .i64 0, .int .i64 0, .int .i64 0, .int .i64 0, .int .i64 0, .int .i64 0, .int .i64 0, .int .i64 0, .int .i64 0, .int .i64 0] 27)).alloc (.cells #[.int .i64 0, .int .i64 0, .int .i64 0, .int .i64 0, .int .i64 0, .int .i64 0, .int .i64 0, .int .i64 0, .int .i64 0, .int .i64 0, .int .i64 0, .int .i64 0, .int .i64 0, .int .i64 0, .int .i64 0, .int .i64 0] 27)).alloc (.cells #[.int .i64 0, .int .i64 0, .int .i64 0, .int .i64 0, .int .i64 0, .int .i64 0, .int .i64 0, .int .i64 0, .int .i64 0, .int .i64 0, .int .i64 0, .int .i64 0, .int .i64 0, .int .i64 0, .int .i64 0, .int .i64 0, .int .i64 0, .int .i64 0, .int .i64 0, .int .i64 0, .int .i64 0, .int .i64 0, .int .i64 0, .int .i64 0, .int .i64 0, .int .i64 0, .int .i64 0, .int .i64 0, .int .i64 0, .int .i64 0, .int .i64 0, .int .i64 0] 81)) = w0
    intro hA hR1 hR2 hO0 hb0 hs0
    rw [zero16] at hR1 hR2
    rw [zero32, ← filled_zero F] at hO0
    go_wp2_with (first | (refine wpList_load_blk rfl 27 (.tmp 1) rfl B rfl (arrV wv) 27 hA Tryd.underlying27 hsz ?_))
    refine (hheld _).mono ?_
    rintro e w1 ⟨rfl, hb1⟩
    go_wp2_with fail
    refine (made_any _).mono ?_
    rintro e w2 ⟨bk, hbk, rfl, hK2, hb2⟩
    have hb02 := hb1.trans (hb2.mono hb1.size)
    have hs2 := hb02.size
    have hBk : B + 3 < bk := by have := hb1.size; omega
    have hbkl := hK2.lt
    have hW0 : BackW w (w2.alloc (.cells #[.pointer (some ⟨bk, 0, none⟩)] 82)) B w2.heap.size bk wv F 0 := by
      have h1 := hb0.trans (hb02.mono (by omega))
      exact ⟨(hA.newB hb02).alloc _, (hR1.newB hb02).alloc _, (hR2.newB hb02).alloc _, (hO0.newB hb02).alloc _, Blk.new _ _ _, hK2.alloc _, (by rw [← hB] at h1; exact h1.alloc (by have := h1.size; omega) _)⟩
    obtain ⟨tb, htb⟩ : ∃ tb, w2.heap.size = tb := ⟨_, rfl⟩
    rw [htb] at hW0
    go_wp2_with fail
    go_loopw [11] (fun i wr => ∃ k : Nat, k ≤ 32 ∧ i = .int .i64 k ∧ BackW w wr B tb bk wv F k) (fun i _ => 32 - (intOf i).toNat)
    case atStart => exact ⟨0, by omega, rfl, hW0⟩
    case round =>
      obtain ⟨k, hk, rfl, hW⟩ := hrel
      by_cases hlt : k < 32
      · have hs3 := hW.far.size
        have hpl := hW.ptr.lt
        have hkl := hW.ker.lt
        have hol := hW.out.lt
        have hWn := hW.alloc (.cells #[.int .i64 k] 3)
        have hNb := Blk.new wr #[.int .i64 k] 3
        obtain ⟨nb, hnb⟩ : ∃ nb, wr.heap.size = nb := ⟨_, rfl⟩
        rw [hnb] at hNb
        have hsum := msum_any 45 (.pointer (some ⟨B, 0, none⟩)) (.pointer (some ⟨tb, 0, none⟩)) (.pointer (some ⟨nb, 0, none⟩)) 16 (by omega) (fun i => wv.getD i 0 * kerAt k i) (fun i => by have := wk_bd hw k i; omega)
          (fun W => Blk W B (arrV wv) 27 ∧ Blk W tb #[.pointer (some ⟨bk, 0, none⟩)] 82 ∧ Blk W nb #[.int .i64 k] 3 ∧ Blk W bk (arrV kerL) 87)
          (fun _ _ h hb => ⟨h.1.newB hb, h.2.1.newB hb, h.2.2.1.newB hb, h.2.2.2.newB hb⟩) _ ⟨hWn.wav, hWn.ptr, hNb, hWn.ker⟩ (fun _ _ => by kernel_rfl)
          (fun i hi W h => Back1_any wv hl hw B tb nb bk k i hlt hi W h.1 h.2.1 h.2.2.1 h.2.2.2)
        have hfk := HFN.out k
        obtain ⟨S, hS⟩ : ∃ S, sumF (fun i => wv.getD i 0 * kerAt k i) 16 = S := ⟨_, rfl⟩
        rw [hS] at hsum hfk
        have hp1 := shift_bd S
        have hsh1 := fun w => Shift15 S w
        obtain ⟨p, hp⟩ : ∃ p, Sp.shiftN 15 S = p := ⟨_, rfl⟩
        rw [hp] at hp1 hfk
        simp only [hp] at hsh1
        have hy1 := winTab_bd k hlt
        have hwin := kerL_win hlt
        obtain ⟨y, hy⟩ : ∃ y, winTab.getD k 0 = y := ⟨_, rfl⟩
        rw [hy] at hy1 hwin hfk
        have hpy := mul_bd hp1.1 hp1.2 hy1.1 hy1.2
        have hsh2 := fun w => Shift16 (p * y) w
        obtain ⟨z, hz⟩ : ∃ z, Sp.shiftN 16 (p * y) = z := ⟨_, rfl⟩
        rw [hz] at hfk
        simp only [hz] at hsh2
        have hwr : IntKind.i64.wrap (p * y) = p * y := IntWalk.i64_in _ (by omega)
        have HSUM := Lib.hid hsum
        clear hsum hS hp hy hz hp1 hy1 hWn
        have HFK := Lib.hid hfk
        clear hfk
        go_wp2_with fail
        refine (HSUM.out).mono ?_
        rintro e w3 ⟨rfl, hb3⟩
        have hW3 := (hW.alloc _).below hb3
        have hN3 := hNb.newB hb3
        have c1 := hW3.ptr.cell 0
        have c2 := hN3.cell 0
        have c3 := (hW3.ker.cell (128 + k)).trans hwin
        simp only [List.getElem?_toArray, List.getElem?_cons_zero] at c1 c2
        obtain ⟨v0, hv0⟩ := filled_get F 32 k hlt
        have c4 := (hW3.out.cell k).trans hv0
        have f4 := hW3.out.frozen k
        have hP := hW3.set (by omega) (by omega) hBk z HFK.out
        have y0 : w3.cell? ⟨nb, 0, none⟩ = some (.int .i64 k) ∧ w3.cell? ⟨tb, 0, none⟩ = some (.pointer (some ⟨bk, 0, none⟩)) ∧ w3.cell? ⟨bk, 128 + k, none⟩ = some (.int .i64 y) := ⟨c2, c1, c3⟩
        go_wp2_with fail
        first | go_region_held3 (fun w' => w'.cell? ⟨nb, 0, none⟩ = some (.int .i64 k) ∧ w'.cell? ⟨tb, 0, none⟩ = some (.pointer (some ⟨bk, 0, none⟩)) ∧ w'.cell? ⟨bk, 128 + k, none⟩ = some (.int .i64 y)) (first | (with_reducible exact y0) | (simp only [World.cell?_drew, World.cell?_drewN]; with_reducible exact y0) | (simp only [World.cell?_drew, World.cell?_drewN]; refine ⟨?_, ?_, ?_⟩ <;> (rw [World.cell?_setCell_far _ _ _ _ (by dsimp only; omega)]; first | (with_reducible exact y0.1) | (with_reducible exact y0.2.1) | (with_reducible exact y0.2.2)))) (first | (go_at_call_of 47 ((15 : Int)); refine (hsh1 _).mono ?_; rintro r5 w5 ⟨rfl, rfl⟩) | (go_at_call_of 47 ((16 : Int)); refine (hsh2 _).mono ?_; rintro r5 w5 ⟨rfl, rfl⟩))
        go_wp2_with fail
        go_roundw
        case rel => exact ⟨k + 1, hlt, by go_num, hP.drew⟩
        case measure => simp [intOf]; omega
      · obtain rfl : k = 32 := by omega
        obtain ⟨O, hO⟩ : ∃ O, filled F 32 32 = O := ⟨_, rfl⟩
        have HO := Lib.hid (HBL.out.trans hO)
        have hol : O.length = 32 := by rw [← hO, filled_len]
        have ho := hW.out
        rw [hO] at ho
        have hr1 := hW.r1
        have hr2 := hW.r2
        have hfar : Below B w wr := by have h := hW.far; rwa [hB] at h
        clear hW hO
        have hl1 : (O.take 16).length = 16 := by rw [List.length_take, hol]; rfl
        have hl2 : (O.drop 16).length = 16 := by rw [List.length_drop, hol]
        have e1 : wr.rangeAt (B + 3) 0 (intsV (O.take 16)) := by have h := ho.range 0 16 (by omega); simpa using h
        have e2 : wr.rangeAt (B + 3) 16 (intsV (O.drop 16)) := by have h := ho.range 16 16 (by omega); rwa [List.take_of_length_le (by omega)] at h
        obtain ⟨l1, hl1e⟩ : ∃ l1, O.take 16 = l1 := ⟨_, rfl⟩
        obtain ⟨l2, hl2e⟩ : ∃ l2, O.drop 16 = l2 := ⟨_, rfl⟩
        rw [hl1e] at e1 hl1
        rw [hl2e] at e2 hl2
        have i1 : (Tryd.prog.info? 27).map (·.size) = some (intsV l1).length := by rw [List.length_map, hl1]; exact blockInfo
        have i2 : (Tryd.prog.info? 27).map (·.size) = some (intsV l2).length := by rw [List.length_map, hl2]; exact blockInfo
        have j1 : (Tryd.prog.info? 27).map (·.size) = some (arrV l1).size := by rw [arr_size, hl1]; exact blockInfo
        have j2 : (Tryd.prog.info? 27).map (·.size) = some (arrV l2).size := by rw [arr_size, hl2]; exact blockInfo
        have k1 : (arrV (List.replicate 16 0)).size = (arrV l1).size := by rw [arr_size, arr_size, hl1]; rfl
        have k2 : (arrV (List.replicate 16 0)).size = (arrV l2).size := by rw [arr_size, arr_size, hl2]; rfl
        have y0 : wr.rangeAt (B + 1 + 1 + 1) 0 (intsV l1) ∧ wr.rangeAt (B + 1 + 1 + 1) 16 (intsV l2) := ⟨e1, e2⟩
        have yd : wr.drew.rangeAt (B + 1 + 1 + 1) 0 (intsV l1) ∧ wr.drew.rangeAt (B + 1 + 1 + 1) 16 (intsV l2) := ⟨e1, e2⟩
        have A1 := fun W => run_arrayAt 27 (cap := 32) Tryd.underlying27 (Nat.le_refl 16) ⟨B + 1 + 1 + 1, 0, none⟩ W
        have A2 := fun W => run_arrayAt 27 (cap := 16) Tryd.underlying27 (Nat.le_refl 16) ⟨B + 1 + 1 + 1, 16, none⟩ W
        have L1 : ∀ W : World, (W.rangeAt (B + 1 + 1 + 1) 0 (intsV l1) ∧ W.rangeAt (B + 1 + 1 + 1) 16 (intsV l2)) → (Instr.loadAt 27 (.pointer (some ⟨B + 1 + 1 + 1, 0, none⟩))).run Tryd.prog W = .ok (.agg (arrV l1)) W := fun W h => run_loadAt_mid W _ 0 27 _ (.array 16 3) h.1 Tryd.underlying27 rfl i1
        have L2 : ∀ W : World, (W.rangeAt (B + 1 + 1 + 1) 0 (intsV l1) ∧ W.rangeAt (B + 1 + 1 + 1) 16 (intsV l2)) → (Instr.loadAt 27 (.pointer (some ⟨B + 1 + 1 + 1, 16, none⟩))).run Tryd.prog W = .ok (.agg (arrV l2)) W := fun W h => run_loadAt_mid W _ 16 27 _ (.array 16 3) h.2 Tryd.underlying27 rfl i2
        have hu16 := Tryd.underlying27
        have HA1 := Lib.hid hl1e
        have HA2 := Lib.hid hl2e
        clear L1 L2 e1 e2 hl1e hl2e ho
        go_wp2_with fail
        refine wp_region_held_drew (S := (fun W => W.rangeAt (B + 1 + 1 + 1) 0 (intsV l1) ∧ W.rangeAt (B + 1 + 1 + 1) 16 (intsV l2))) (by kernel_rfl) yd (fun hH => ?_)
        refine wpAnyH_take (i := 0) (oi := { dst := some 29, op := .slice 81 (.tmp 4) none (some (.const (.int .i64 16))) none, type := 54, pos := "mdct.go:72", after := _, guard := none }) (v := .slice (some ⟨B + 1 + 1 + 1, 0, none⟩) 16 32) rfl (by kernel_rfl) (by kernel_rfl) (by kernel_rfl) (fun _ _ _ h => h) (.inl ⟨by rfl, fun w _ => by go_simp⟩) hH ?_
        try simp only [Act.put, List.setIfInBounds_toArray, List.set_cons_zero, List.set_cons_succ]
        refine wpAnyH_take (i := 1) (oi := { dst := some 30, op := .sliceToArrayPointer 27 (.tmp 29), type := 0, pos := "mdct.go:72", after := _, guard := none }) (v := .pointer (some ⟨B + 1 + 1 + 1, 0, none⟩)) rfl (by kernel_rfl) (by kernel_rfl) (by kernel_rfl) (fun _ _ _ h => h) (.inl ⟨by rfl, fun w _ => by go_simp⟩) hH ?_
        try simp only [Act.put, List.setIfInBounds_toArray, List.set_cons_zero, List.set_cons_succ]
        refine wpAnyH_take (i := 2) (oi := { dst := some 31, op := .load 27 (.tmp 30), type := 27, pos := "mdct.go:72", after := _, guard := none }) (v := .agg (arrV l1)) rfl (by kernel_rfl) (by kernel_rfl) (by kernel_rfl) (fun _ _ _ h => h) (yieldsIf_load_mid (by rfl) 27 (.tmp 30) rfl (B + 1 + 1 + 1) 0 rfl (intsV l1) (.array 16 3) (fun _ h => h.1) hu16 rfl i1) hH ?_
        try simp only [Act.put, List.setIfInBounds_toArray, List.set_cons_zero, List.set_cons_succ]
        refine wpAnyH_take (i := 3) (oi := { dst := some 32, op := .slice 81 (.tmp 4) (some (.const (.int .i64 16))) none none, type := 54, pos := "mdct.go:72", after := _, guard := none }) (v := .slice (some ⟨B + 1 + 1 + 1, 16, none⟩) 16 16) rfl (by kernel_rfl) (by kernel_rfl) (by kernel_rfl) (fun _ _ _ h => h) (.inl ⟨by rfl, fun w _ => by go_simp⟩) hH ?_
        try simp only [Act.put, List.setIfInBounds_toArray, List.set_cons_zero, List.set_cons_succ]
        refine wpAnyH_take (i := 4) (oi := { dst := some 33, op := .sliceToArrayPointer 27 (.tmp 32), type := 0, pos := "mdct.go:72", after := _, guard := none }) (v := .pointer (some ⟨B + 1 + 1 + 1, 16, none⟩)) rfl (by kernel_rfl) (by kernel_rfl) (by kernel_rfl) (fun _ _ _ h => h) (.inl ⟨by rfl, fun w _ => by go_simp⟩) hH ?_
        try simp only [Act.put, List.setIfInBounds_toArray, List.set_cons_zero, List.set_cons_succ]
        refine wpAnyH_take (i := 5) (oi := { dst := some 34, op := .load 27 (.tmp 33), type := 27, pos := "mdct.go:72", after := _, guard := none }) (v := .agg (arrV l2)) rfl (by kernel_rfl) (by kernel_rfl) (by kernel_rfl) (fun _ _ _ h => h) (yieldsIf_load_mid (by rfl) 27 (.tmp 33) rfl (B + 1 + 1 + 1) 16 rfl (intsV l2) (.array 16 3) (fun _ h => h.2) hu16 rfl i2) hH ?_
        try simp only [Act.put, List.setIfInBounds_toArray, List.set_cons_zero, List.set_cons_succ]
        refine wpAnyH_ready (rs := [6]) (by kernel_rfl) (by simp) ?_
        refine AllReadyH.cons (o := { dst := none, op := .store 27 (.tmp 2) (.tmp 31), type := 0, pos := "mdct.go:72", after := _, guard := none }) rfl (fun K hK => ?_) AllReadyH.nil
        rw [if_pos (by rfl)]
        refine wp_store_blk 27 (.tmp 2) (.tmp 31) rfl (B + 1) _ (arrV l1) rfl rfl 27 hr1.drew j1 k1 (arr_one _) ?_
        refine hK.out _ _ ⟨range_setRow yd.1 (by omega), range_setRow yd.2 (by omega)⟩ (fun hH => ?_)
        clear hK K
        try simp only [Act.put, List.setIfInBounds_toArray, List.set_cons_zero, List.set_cons_succ]
        refine wpAnyH_ready (rs := [7]) (by kernel_rfl) (by simp) ?_
        refine AllReadyH.cons (o := { dst := none, op := .store 27 (.tmp 3) (.tmp 34), type := 0, pos := "mdct.go:72", after := _, guard := none }) rfl (fun K hK => ?_) AllReadyH.nil
        rw [if_pos (by rfl)]
        refine wp_store_blk 27 (.tmp 3) (.tmp 34) rfl (B + 2) _ (arrV l2) rfl rfl 27 (hr2.drew.setRowOther (by omega)) j2 k2 (arr_one _) ?_
        refine hK.out _ _ ⟨range_setRow (range_setRow yd.1 (by omega)) (by omega), range_setRow (range_setRow yd.2 (by omega)) (by omega)⟩ (fun hH => ?_)
        clear hK K
        try simp only [Act.put, List.setIfInBounds_toArray, List.set_cons_zero, List.set_cons_succ]
        refine wpAnyH_done (by kernel_rfl) ?_ _
        go_wp2_with fail
        exact bodyPost_ret (v := .tuple #[.agg (arrV l1), .agg (arrV l2)]) (results_cc Tryd.results22 _ _ (B + 1) (B + 2) 27 27 _ _ (.array 16 3) (.array 16 3) rfl (hr1.drew.setRow.setRowOther (by omega)) Tryd.underlying27 rfl j1 rfl (hr2.drew.setRowOther (by omega)).setRow Tryd.underlying27 rfl j2) rfl ⟨by rw [HO.out, HA1.out, HA2.out], by have h : Below B w _ := Below.setRow (Below.setRow hfar.drew (g := B + 1) (by omega) (arrV l1)) (g := B + 2) (by omega) (arrV l2); rw [hB]; exact h⟩
end Go.Proofs.YtnohjidoelohkaaDoor
