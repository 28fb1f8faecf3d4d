/- The walk of spoollaw13.DecZeros. (Its drawn region was printed by wip/mkZeros.py.) -/
import Derived.Test.YtnohjidoelohkaaDoorLaw13b
import Derived.Deep.Cut
namespace Go.Proofs.YtnohjidoelohkaaDoor
open Go.RowKit

theorem i64_and5 (n : Int) : bits .and .i64 n 31 = n % 32 := by
  have h127 : (BitVec.ofInt 64 31).toNat = 2 ^ 5 - 1 := by decide
  have key : (BitVec.ofInt 64 n &&& BitVec.ofInt 64 31).toNat = (n % ((2 ^ 64 : Nat) : Int)).toNat % 2 ^ 5 := by
    rw [BitVec.toNat_and, BitVec.toNat_ofInt, h127, Nat.and_two_pow_sub_one_eq_mod]
  show IntKind.i64.wrap ((BitVec.ofInt 64 n &&& BitVec.ofInt 64 31).toNat : Nat) = n % 32
  rw [key, IntKind.wrap_i64]
  omega
/-- Levels cut down. -/
def lzS (ls : List Int) : List Int := (List.range 4).map fun b => ls.getD b 0 % 32 % 21
theorem lzS_ok (ls : List Int) : LevelsOk (lzS ls) := by
  refine ⟨by simp [lzS], fun x hx => ?_⟩
  obtain ⟨b, _, rfl⟩ := List.mem_map.1 hx
  omega
theorem ok_levP {ls : List Int} (h : LevelsOk ls) : ls.all levP = true := List.all_eq_true.2 (fun x hx => by have := h.2 x hx; simp [levP]; omega)
theorem parts_zero (n : Nat) (h0 : 10 ≤ n) (h1 : n ≤ 32) {ls : List Int} (h : LevelsOk ls) : partsE ls (zeroB n) = 0 ∧ partsL ls (zeroB n) = ls ∧ (partsW ls (zeroB n)).length = 16 := by
  have he : partsE ls (zeroB n) = 0 := by unfold partsE; rw [if_pos (by rw [zeroB_size]; exact ⟨h0, h1⟩), ok_levP h]; rfl
  refine ⟨he, ?_, ?_⟩
  · unfold partsL; rw [he, if_pos rfl, zero_levs n h]
  · unfold partsW; rw [he, if_pos rfl]; exact (wavS_ok _ _).1
theorem parts_zero0 (n : Nat) (h0 : 10 ≤ n) (h1 : n ≤ 32) : partsE [0, 0, 0, 0] (zeroB n) = 0 ∧ partsL [0, 0, 0, 0] (zeroB n) = [0, 0, 0, 0] ∧ partsW [0, 0, 0, 0] (zeroB n) = List.replicate 16 0 := by
  obtain ⟨a, b, _⟩ := parts_zero n h0 h1 zeros_ok4
  refine ⟨a, b, ?_⟩
  unfold partsW; rw [a, if_pos rfl, zero_wav]
theorem two_far {W : World} {a b : Nat} {c d : Array Value} {t u : TypeId} (h : Blk W a c t) (k : Blk W b d u) (hne : t ≠ u) : a ≠ b := fun e => by
  subst e
  have e2 := (show W.heap[a]? = some (Obj.cells c t (0, 0)) from h).symm.trans (show W.heap[a]? = some (Obj.cells d u (0, 0)) from k)
  injection e2 with e3
  injection e3 with _ e4
  exact hne e4
theorem wp_convert {op : Oper} {a : Act} {w : World} {K : Act → World → Prop} {Q : Exit → Act → World → Prop} (t1 t2 : TypeId) (x : Operand) (ho : op.op = .convert t1 t2 x) (v : Value) (hx : a.eval x = v) (r : Value)
    (h : (convert t1 t2 v).run Tryd.prog w = .ok r w) (hk : K (a.put op.dst r) w) : op.wp Tryd.prog a w K Q := by
  unfold Oper.wp execOp
  simp only [ho, hx, Sem.run_bind, h, Result.andThen_ok, Oper.upon]
  exact hk
theorem blk_at {W : World} {a : Nat} (c : Array Value) (t : TypeId) (h : W.heap.size = a) : Blk (W.alloc (.cells c t)) a c t := h ▸ Blk.new W c t
structure ZerW (w W : World) (B : Nat) (l : List Int) : Prop where
  lev : Blk W B (arrV l) 23
  bands : BandsW W
  far : Below B w W
  size : B + 1 ≤ W.heap.size
  pos : 0 < B
namespace ZerW
variable {w W W' : World} {B : Nat} {l : List Int}
theorem drew (h : ZerW w W B l) : ZerW w W.drew B l := ⟨h.lev.drew, Blk.drew h.bands, h.far.drew, h.size, h.pos⟩
theorem below (h : ZerW w W B l) (hb : Below W.heap.size W W') : ZerW w W' B l := ⟨h.lev.newB hb, Blk.newB h.bands hb, h.far.trans (hb.mono (by have := h.size; omega)), Nat.le_trans h.size hb.size, h.pos⟩
theorem alloc (h : ZerW w W B l) (o : Obj) : ZerW w (W.alloc o) B l := h.below ((Below.refl _ _).alloc (Nat.le_refl _) _)
theorem setRow (h : ZerW w W B l) {g : Nat} (hg : B + 1 ≤ g) (new : Array Value) : ZerW w (W.setRow g new) B l :=
  ⟨h.lev.setRowOther (by omega), Blk.setRowOther h.bands (by have := h.pos; omega), Below.setRow h.far (by omega) _, by simpa using h.size, h.pos⟩
theorem set (h : ZerW w W B l) (k : Nat) (x : Int) : ZerW w (W.setCell ⟨B, k, none⟩ (.int .i64 x)) B (l.set k x) :=
  ⟨by rw [← arr_set]; exact h.lev.set k _, Blk.other h.bands (by have := h.pos; simp only []; omega) _, h.far.setCell (by show B ≤ B; omega) _, by simpa using h.size, h.pos⟩
end ZerW
set_option maxRecDepth 100000 in
set_option maxHeartbeats 8000000 in
theorem DecZeros_any (ls : List Int) (h1 : ls.length = 4) (m : Int) (m0 : 0 ≤ m) (m1 : m ≤ 255) (w : World) (hW : BandsW w) : Calls Tryd.prog 4 #[.agg (arrV ls), .int .u8 m] w fun e w' => e = .returned (.bool true) ∧ Below w.heap.size w w' := by
  obtain ⟨r, hr, hr22⟩ : ∃ r : Nat, m.tmod 23 = (r : Int) ∧ r ≤ 22 := ⟨(m % 23).toNat, by rw [Int.tmod_eq_emod_of_nonneg m0]; omega, by omega⟩
  obtain ⟨q, hq⟩ : ∃ q : Nat, q = 10 + r := ⟨_, rfl⟩
  have hqi : ((q : Nat) : Int) = 10 + (r : Int) := by omega
  obtain ⟨M, hM⟩ : ∃ M : Nat → Array Value, (fun q => madeCells #[.int .u8 0] q) = M := ⟨_, rfl⟩
  have hMq : ∀ q, madeCells #[.int .u8 0] q = M q := fun q => by rw [← hM]
  have hmk : ∀ w, (Instr.makeSlice 38 (.int .i64 (10 + (r : Int))) (.int .i64 (10 + (r : Int)))).run Tryd.prog w = .ok (.slice (some ⟨w.heap.size, 0, none⟩) q q) (w.alloc (.cells (M q) 5)) := fun w => by
    have h := run_make_row' (P := Tryd.prog) 38 5 (.int .u8 0) 1 Tryd.underlying38 madeU8 rfl .i64 .i64 q (by omega) (by omega) w
    rw [hMq, hqi] at h
    exact h
  have hcv : ∀ (B : Nat) (W : World), Blk W B (M q) 5 → (convert 38 9 (.slice (some ⟨B, 0, none⟩) q q)).run Tryd.prog W = .ok (.string (zeroB q)) W := fun B W h => zeroB_str (by rw [hMq]; exact h) (by omega)
  obtain ⟨e0, p0, v0⟩ := parts_zero q (by omega) (by omega) (lzS_ok ls)
  obtain ⟨e1, p1, v1⟩ := parts_zero0 q (by omega) (by omega)
  have hpa := fun w hW => Parts_any (lzS ls) (lzS_ok ls).1 (zeroB q) w hW
  have hpb := fun w hW => Parts_any [0, 0, 0, 0] rfl (zeroB q) w hW
  have hlo := (lzS_ok ls).1
  simp only [e0, p0] at hpa
  simp only [e1, p1, v1] at hpb
  obtain ⟨wv, hwv⟩ : ∃ x, partsW (lzS ls) (zeroB q) = x := ⟨_, rfl⟩
  simp only [hwv] at hpa v0
  have z4i : (Tryd.prog.info? 23).map (·.size) = some (arrV [0, 0, 0, 0]).size := by rw [arr_size]; exact fourInfo
  have z16i : (Tryd.prog.info? 27).map (·.size) = some (arrV (List.replicate 16 0)).size := by rw [arr_size]; exact blockInfo
  have z4s : (Tryd.prog.info? 23).map (·.size) = some (intsV [0, 0, 0, 0]).length := by rw [List.length_map]; exact fourInfo
  have z16s : (Tryd.prog.info? 27).map (·.size) = some (intsV (List.replicate 16 0)).length := by rw [List.length_map]; exact blockInfo
  have g16 : Tryd.prog.eqGuardType Tryd.prog.depth 27 = false := by kernel_rfl
  have g4 : Tryd.prog.eqGuardType Tryd.prog.depth 23 = false := by kernel_rfl
  have q16 := fun w => eq_block (List.replicate 16 0) (List.replicate 16 0) (by simp) (by simp) w
  have q4 := fun w => eq_four [0, 0, 0, 0] [0, 0, 0, 0] rfl rfl w
  have ql := fun w => eq_four (lzS ls) (lzS ls) hlo hlo w
  simp only [beq_self_eq_true] at q16 q4 ql
  have k16 : (#[.int .i64 0, .int .i64 0, .int .i64 0, .int .i64 0, .int .i64 0, .int .i64 0, .int .i64 0, .int .i64 0, .int .i64 0, .int .i64 0, .int .i64 0, .int .i64 0, .int .i64 0, .int .i64 0, .int .i64 0, .int .i64 0] : Array Value).size = (arrV (List.replicate 16 0)).size := by rw [arr_size]; rfl
  have k4 : (#[.int .i64 0, .int .i64 0, .int .i64 0, .int .i64 0] : Array Value).size = (arrV [0, 0, 0, 0]).size := by rw [arr_size]; rfl
  have sz : Tryd.prog.built 23 [] = some (arrV [0, 0, 0, 0]) := four_zero
  have bz := block_zero
  obtain ⟨Z16, hZ16⟩ : ∃ Z, List.replicate 16 (0 : Int) = Z := ⟨_, rfl⟩
  obtain ⟨Z4, hZ4⟩ : ∃ Z : List Int, [0, 0, 0, 0] = Z := ⟨_, rfl⟩
  simp only [hZ16, hZ4] at hpb z4i z16i z4s z16s q16 q4 k16 k4 sz bz
  have il4 : (Tryd.prog.info? 23).map (·.size) = some (intsV (lzS ls)).length := by rw [List.length_map, hlo]; exact fourInfo
  have jl4 : (Tryd.prog.info? 23).map (·.size) = some (arrV (lzS ls)).size := by rw [arr_size, hlo]; exact fourInfo
  have kl4 : (#[.int .i64 0, .int .i64 0, .int .i64 0, .int .i64 0] : Array Value).size = (arrV (lzS ls)).size := by rw [arr_size, hlo]; rfl
  have jwv : (Tryd.prog.info? 27).map (·.size) = some (arrV wv).size := by rw [arr_size, v0]; exact blockInfo
  have kwv : (#[.int .i64 0, .int .i64 0, .int .i64 0, .int .i64 0, .int .i64 0, .int .i64 0, .int .i64 0, .int .i64 0, .int .i64 0, .int .i64 0, .int .i64 0, .int .i64 0, .int .i64 0, .int .i64 0, .int .i64 0, .int .i64 0] : Array Value).size = (arrV wv).size := by rw [arr_size, v0]; rfl
  have hlz : ∀ b, b < 4 → (lzS ls).getD b 0 = ls.getD b 0 % 32 % 21 := fun b hb => by simp [lzS, List.getD_eq_getElem?_getD, hb]
  obtain ⟨l, hl⟩ : ∃ l, lzS ls = l := ⟨_, rfl⟩
  simp only [hl] at hpa hlo ql il4 jl4 kl4 hlz
  have HPA := Lib.hid hpa
  have HPB := Lib.hid hpb
  have HQ16 := Lib.hid q16
  have HQ4 := Lib.hid q4
  have HQL := Lib.hid ql
  have HSZ := Lib.hid sz
  have HBZ := Lib.hid bz
  have HG16 := Lib.hid g16
  have HG4 := Lib.hid g4
  have HLZ := Lib.hid hlz
  clear hq hqi
  clear hpa hpb q16 q4 ql sz bz g16 g4 hZ16 hZ4 hM hMq e0 p0 e1 p1 v1 hwv hl hlz
  have hlev0 := Blk.new w (arrV ls) 23
  have hpos := hW.lt
  obtain ⟨B, hB⟩ : ∃ B, w.heap.size = B := ⟨_, rfl⟩
  rw [hB] at hlev0 hpos
  have hY0 : ZerW w (w.alloc (.cells (arrV ls) 23)) B ls := ⟨hlev0, Blk.alloc hW _, by have h := (Below.refl w.heap.size w).alloc (Nat.le_refl _) (.cells (arrV ls) 23); rwa [hB] at h, by simp; omega, hpos⟩
  clear hlev0
  go_enter Tryd.func4, Tryd.ntmps4
  go_upto_region 1 with (fail)
  generalize (w.alloc (.cells (arrV ls) 23)) = w0 at hY0 ⊢
  go_wp2_with fail
  refine (awake_any _ hY0.bands).mono ?_
  rintro e w1 ⟨rfl, hb1⟩
  have hY1 := hY0.below hb1
  clear hY0
  go_wp2_with fail
  go_loopw [6] (fun i wr => ∃ b : Nat, b ≤ 4 ∧ i = .int .i64 b ∧ ZerW w wr B (l.take b ++ ls.drop b)) (fun i _ => 4 - (intOf i).toNat)
  case atStart => exact ⟨0, by omega, rfl, by simpa using hY1⟩
  case round =>
    obtain ⟨b, hb, rfl, hY⟩ := hrel
    by_cases hlt : b < 4
    · have hps := part_step l ls b (by omega) (by omega)
      rw [HLZ.out b hlt] at hps
      have hlen : (l.take b ++ ls.drop b).length = 4 := by rw [List.length_append, List.length_take, List.length_drop, hlo, h1]; omega
      have hcur : (l.take b ++ ls.drop b).getD b 0 = ls.getD b 0 := by
        rw [List.getD_eq_getElem?_getD, List.getElem?_append_right (by rw [List.length_take]; omega), List.getElem?_drop, List.length_take, List.getD_eq_getElem?_getD]
        congr 2
        omega
      obtain ⟨x, hx⟩ : ∃ x, ls.getD b 0 = x := ⟨_, rfl⟩
      rw [hx] at hps hcur
      have hand := i64_and5 x
      have htm : (x % 32).tmod 21 = x % 32 % 21 := Int.tmod_eq_emod_of_nonneg (by omega)
      have hx0 : 0 ≤ x % 32 := by omega
      have hx1 : x % 32 ≤ 31 := by omega
      obtain ⟨z, hz⟩ : ∃ z, x % 32 = z := ⟨_, rfl⟩
      rw [hz] at hps hand htm hx0 hx1
      obtain ⟨y, hy⟩ : ∃ y, z % 21 = y := ⟨_, rfl⟩
      rw [hy] at hps htm
      obtain ⟨pk, hpk⟩ : ∃ p, l.take b ++ ls.drop b = p := ⟨_, rfl⟩
      rw [hpk] at hY hps hlen hcur
      have c1 := (hY.lev.cell b).trans (arr_get (l := pk) (by omega))
      rw [hcur] at c1
      have f1 := hY.lev.frozen b
      have hY2 := hY.set b y
      have HPS := Lib.hid hps
      clear hps hcur hx hz hy hpk hlen
      go_wp2_with fail
      go_roundw
      case rel => exact ⟨b + 1, hlt, by go_num, by rw [← HPS.out]; exact hY2⟩
      case measure => simp [intOf]; omega
    · obtain rfl : b = 4 := by omega
      have hll4 : l.take 4 ++ ls.drop 4 = l := by rw [List.take_of_length_le (by omega), List.drop_of_length_le (by omega), List.append_nil]
      rw [hll4] at hY
      clear hll4
      go_upto_region 8 with (fail)
      go_cut [7, 8, 9] from 30 (fun s7 s8 s9 wx => ∃ a b : Nat, s7 = .pointer (some ⟨a, 0, none⟩) ∧ s8 = .pointer (some ⟨b, 0, none⟩) ∧ s9 = .int .i64 0 ∧ ZerW w wx B l ∧ Blk wx a (arrV l) 23 ∧ Blk wx b (arrV wv) 27)
      case first =>
        refine wp_region_held_drew (S := (fun W => ZerW w W B l)) (by kernel_rfl) hY.drew (fun hH => ?_)
        refine wpAnyH_take (i := 0) (oi := { dst := some 31, op := Op.load 23 (Operand.tmp 2), type := 23, pos := "law.go:103", after := _, guard := none }) (v := .agg (arrV l)) rfl (by kernel_rfl) (by kernel_rfl) (by kernel_rfl) (fun _ _ _ h => h) (yieldsIf_load_mid (by rfl) 23 (.tmp 2) rfl B 0 rfl (intsV l) (.array 4 3) (fun _ h => h.lev.rangeAll) Tryd.underlying23 rfl il4) hH ?_
        try simp only [Act.put, List.setIfInBounds_toArray, List.set_cons_zero, List.set_cons_succ]
        refine wpAnyH_take (i := 1) (oi := { dst := some 32, op := Op.move (Operand.tmp 5), type := 3, pos := "law.go:103", after := _, guard := none }) (v := .int .i64 (10 + (r : Int))) rfl (by kernel_rfl) (by kernel_rfl) (by kernel_rfl) (fun _ _ _ h => h) (.inl ⟨by rfl, fun w hS => by go_simp⟩) hH ?_
        try simp only [Act.put, List.setIfInBounds_toArray, List.set_cons_zero, List.set_cons_succ]
        refine wpAnyH_ready (rs := [2, 9, 10]) (by kernel_rfl) (by simp) ?_
        refine AllReadyH.cons (o := { dst := some 33, op := Op.makeSlice 38 (Operand.tmp 32) (Operand.tmp 32), type := 38, pos := "law.go:103", after := _, guard := none }) rfl (fun K hK => ?_) ?_
        · rw [if_pos (by rfl)]
          go_simp
          have hz1 : (World.heap wr.drew).size = wr.heap.size := rfl
          have hn1 := blk_at (M q) 5 hz1
          have hs1 : B + 1 ≤ wr.heap.size := Nat.le_trans hH.size (Nat.le_of_eq hz1)
          refine hK.out _ _ (hH.alloc _) (fun hH => ?_)
          clear hK K
          try simp only [Act.put, List.setIfInBounds_toArray, List.set_cons_zero, List.set_cons_succ]
          refine wpAnyH_ready (rs := [3, 9, 10]) (by kernel_rfl) (by simp) ?_
          refine AllReadyH.cons (o := { dst := some 34, op := Op.convert 38 9 (Operand.tmp 33), type := 9, pos := "law.go:103", after := _, guard := none }) rfl (fun K hK => ?_) ?_
          · rw [if_pos (by rfl)]
            have hm2 := hn1
            refine wp_convert 38 9 (.tmp 33) rfl _ rfl _ (hcv _ _ hm2) ?_
            refine hK.out _ _ hH (fun hH => ?_)
            clear hK K
            try simp only [Act.put, List.setIfInBounds_toArray, List.set_cons_zero, List.set_cons_succ]
            refine wpAnyH_ready (rs := [4, 9, 10]) (by kernel_rfl) (by simp) ?_
            refine AllReadyH.cons (o := { dst := some 35, op := Op.call { callee := Callee.value (Operand.func 9), args := #[Operand.tmp 31, Operand.tmp 34], argTypes := #[23, 9] }, type := 36, pos := "law.go:103", after := _, guard := none }) rfl (fun K hK => ?_) ?_
            · rw [if_pos (by rfl)]
              go_simp
              refine (HPA.out _ hH.bands).mono ?_
              rintro e wc3 ⟨rfl, hb3⟩
              go_wp2_with fail
              refine hK.out _ _ (hH.below hb3) (fun hH => ?_)
              clear hK K
              try simp only [Act.put, List.setIfInBounds_toArray, List.set_cons_zero, List.set_cons_succ]
              refine wpAnyH_take (i := 5) (oi := { dst := some 30, op := Op.move (Operand.tmp 35), type := 36, pos := "law.go:103", after := _, guard := none }) (v := .tuple #[.agg (arrV l), .agg (arrV wv), .int .i64 0]) rfl (by kernel_rfl) (by kernel_rfl) (by kernel_rfl) (fun _ _ _ h => h) (.inl ⟨by rfl, fun w hS => by go_simp⟩) hH ?_
              try simp only [Act.put, List.setIfInBounds_toArray, List.set_cons_zero, List.set_cons_succ]
              refine wpAnyH_take (i := 6) (oi := { dst := some 36, op := Op.extract (Operand.tmp 30) 0, type := 23, pos := "law.go:103", after := _, guard := none }) (v := .agg (arrV l)) rfl (by kernel_rfl) (by kernel_rfl) (by kernel_rfl) (fun _ _ _ h => h) (.inl ⟨by rfl, fun w hS => by go_simp⟩) hH ?_
              try simp only [Act.put, List.setIfInBounds_toArray, List.set_cons_zero, List.set_cons_succ]
              refine wpAnyH_take (i := 7) (oi := { dst := some 37, op := Op.extract (Operand.tmp 30) 1, type := 27, pos := "law.go:103", after := _, guard := none }) (v := .agg (arrV wv)) rfl (by kernel_rfl) (by kernel_rfl) (by kernel_rfl) (fun _ _ _ h => h) (.inl ⟨by rfl, fun w hS => by go_simp⟩) hH ?_
              try simp only [Act.put, List.setIfInBounds_toArray, List.set_cons_zero, List.set_cons_succ]
              refine wpAnyH_take (i := 8) (oi := { dst := some 38, op := Op.extract (Operand.tmp 30) 2, type := 30, pos := "law.go:103", after := _, guard := none }) (v := .int .i64 0) rfl (by kernel_rfl) (by kernel_rfl) (by kernel_rfl) (fun _ _ _ h => h) (.inl ⟨by rfl, fun w hS => by go_simp⟩) hH ?_
              try simp only [Act.put, List.setIfInBounds_toArray, List.set_cons_zero, List.set_cons_succ]
              refine wpAnyH_ready (rs := [9, 10]) (by kernel_rfl) (by simp) ?_
              refine AllReadyH.cons (o := { dst := some 7, op := Op.alloc 23, type := 0, pos := "law.go:103", after := _, guard := none }) rfl (fun K hK => ?_) ?_
              · rw [if_pos (by rfl)]
                go_simp
                have hz4 : (World.heap wc3).size = wc3.heap.size := rfl
                have hn4 := blk_at #[.int .i64 0, .int .i64 0, .int .i64 0, .int .i64 0] 23 hz4
                have hs4 : B + 1 ≤ wc3.heap.size := Nat.le_trans hH.size (Nat.le_of_eq hz4)
                refine hK.out _ _ (hH.alloc _) (fun hH => ?_)
                clear hK K
                try simp only [Act.put, List.setIfInBounds_toArray, List.set_cons_zero, List.set_cons_succ]
                refine wpAnyH_ready (rs := [10]) (by kernel_rfl) (by simp) ?_
                refine AllReadyH.cons (o := { dst := some 8, op := Op.alloc 27, type := 0, pos := "law.go:103", after := _, guard := none }) rfl (fun K hK => ?_) AllReadyH.nil
                rw [if_pos (by rfl)]
                go_simp
                have hz5 : (World.heap (wc3.alloc (.cells #[.int .i64 0, .int .i64 0, .int .i64 0, .int .i64 0] 23))).size = wc3.heap.size + 1 := ((World.size_alloc _ _).trans (congrArg (· + 1) rfl))
                have hn5 := blk_at #[.int .i64 0, .int .i64 0, .int .i64 0, .int .i64 0, .int .i64 0, .int .i64 0, .int .i64 0, .int .i64 0, .int .i64 0, .int .i64 0, .int .i64 0, .int .i64 0, .int .i64 0, .int .i64 0, .int .i64 0, .int .i64 0] 27 hz5
                have hs5 : B + 1 ≤ wc3.heap.size + 1 := Nat.le_trans hH.size (Nat.le_of_eq hz5)
                refine hK.out _ _ (hH.alloc _) (fun hH => ?_)
                clear hK K
                try simp only [Act.put, List.setIfInBounds_toArray, List.set_cons_zero, List.set_cons_succ]
                refine wpAnyH_ready (rs := [11]) (by kernel_rfl) (by simp) ?_
                refine AllReadyH.cons (o := { dst := none, op := Op.store 23 (Operand.tmp 7) (Operand.tmp 36), type := 0, pos := "law.go:103", after := _, guard := none }) rfl (fun K hK => ?_) AllReadyH.nil
                rw [if_pos (by rfl)]
                have hab := two_far (hn4.alloc (.cells #[.int .i64 0, .int .i64 0, .int .i64 0, .int .i64 0, .int .i64 0, .int .i64 0, .int .i64 0, .int .i64 0, .int .i64 0, .int .i64 0, .int .i64 0, .int .i64 0, .int .i64 0, .int .i64 0, .int .i64 0, .int .i64 0] 27)) hn5 (by decide)
                refine wp_store_blk 23 (.tmp 7) (.tmp 36) rfl (wc3.heap.size) _ (arrV l) rfl rfl 23 (hn4.alloc (.cells #[.int .i64 0, .int .i64 0, .int .i64 0, .int .i64 0, .int .i64 0, .int .i64 0, .int .i64 0, .int .i64 0, .int .i64 0, .int .i64 0, .int .i64 0, .int .i64 0, .int .i64 0, .int .i64 0, .int .i64 0, .int .i64 0] 27)) jl4 kl4 (arr_one _) ?_
                refine hK.out _ _ (hH.setRow hs4 _) (fun hH => ?_)
                clear hK K
                try simp only [Act.put]
                refine wpAnyH_ready (rs := [12]) (by kernel_rfl) (by simp) ?_
                refine AllReadyH.cons (o := { dst := none, op := Op.store 27 (Operand.tmp 8) (Operand.tmp 37), type := 0, pos := "law.go:103", after := _, guard := none }) rfl (fun K hK => ?_) AllReadyH.nil
                rw [if_pos (by rfl)]
                refine wp_store_blk 27 (.tmp 8) (.tmp 37) rfl (wc3.heap.size + 1) _ (arrV wv) rfl rfl 27 (hn5.setRowOther hab.symm) jwv kwv (arr_one _) ?_
                refine hK.out _ _ (hH.setRow hs5 _) (fun hH => ?_)
                clear hK K
                try simp only [Act.put]
                refine wpAnyH_take (i := 13) (oi := { dst := some 9, op := Op.assign (Operand.tmp 38), type := 30, pos := "law.go:103", after := _, guard := none }) (v := .int .i64 0) rfl (by kernel_rfl) (by kernel_rfl) (by kernel_rfl) (fun _ _ _ h => h) (.inl ⟨by rfl, fun w hS => by go_simp⟩) hH ?_
                try simp only [Act.put, List.setIfInBounds_toArray, List.set_cons_zero, List.set_cons_succ]
                refine wpAnyH_done (by kernel_rfl) ?_ _
                go_wp2_with fail
                go_meet
                case rel => exact ⟨wc3.heap.size, wc3.heap.size + 1, rfl, rfl, rfl, hH, ((hn4.alloc (.cells #[.int .i64 0, .int .i64 0, .int .i64 0, .int .i64 0, .int .i64 0, .int .i64 0, .int .i64 0, .int .i64 0, .int .i64 0, .int .i64 0, .int .i64 0, .int .i64 0, .int .i64 0, .int .i64 0, .int .i64 0, .int .i64 0] 27)).setRow (new := arrV l)).setRowOther hab, (hn5.setRowOther hab.symm).setRow⟩
              refine AllReadyH.cons (o := { dst := some 8, op := Op.alloc 27, type := 0, pos := "law.go:103", after := _, guard := none }) rfl (fun K hK => ?_) AllReadyH.nil
              rw [if_pos (by rfl)]
              go_simp
              have hz6 : (World.heap wc3).size = wc3.heap.size := rfl
              have hn6 := blk_at #[.int .i64 0, .int .i64 0, .int .i64 0, .int .i64 0, .int .i64 0, .int .i64 0, .int .i64 0, .int .i64 0, .int .i64 0, .int .i64 0, .int .i64 0, .int .i64 0, .int .i64 0, .int .i64 0, .int .i64 0, .int .i64 0] 27 hz6
              have hs6 : B + 1 ≤ wc3.heap.size := Nat.le_trans hH.size (Nat.le_of_eq hz6)
              refine hK.out _ _ (hH.alloc _) (fun hH => ?_)
              clear hK K
              try simp only [Act.put, List.setIfInBounds_toArray, List.set_cons_zero, List.set_cons_succ]
              refine wpAnyH_ready (rs := [9]) (by kernel_rfl) (by simp) ?_
              refine AllReadyH.cons (o := { dst := some 7, op := Op.alloc 23, type := 0, pos := "law.go:103", after := _, guard := none }) rfl (fun K hK => ?_) AllReadyH.nil
              rw [if_pos (by rfl)]
              go_simp
              have hz7 : (World.heap (wc3.alloc (.cells #[.int .i64 0, .int .i64 0, .int .i64 0, .int .i64 0, .int .i64 0, .int .i64 0, .int .i64 0, .int .i64 0, .int .i64 0, .int .i64 0, .int .i64 0, .int .i64 0, .int .i64 0, .int .i64 0, .int .i64 0, .int .i64 0] 27))).size = wc3.heap.size + 1 := ((World.size_alloc _ _).trans (congrArg (· + 1) rfl))
              have hn7 := blk_at #[.int .i64 0, .int .i64 0, .int .i64 0, .int .i64 0] 23 hz7
              have hs7 : B + 1 ≤ wc3.heap.size + 1 := Nat.le_trans hH.size (Nat.le_of_eq hz7)
              refine hK.out _ _ (hH.alloc _) (fun hH => ?_)
              clear hK K
              try simp only [Act.put, List.setIfInBounds_toArray, List.set_cons_zero, List.set_cons_succ]
              refine wpAnyH_ready (rs := [11]) (by kernel_rfl) (by simp) ?_
              refine AllReadyH.cons (o := { dst := none, op := Op.store 23 (Operand.tmp 7) (Operand.tmp 36), type := 0, pos := "law.go:103", after := _, guard := none }) rfl (fun K hK => ?_) AllReadyH.nil
              rw [if_pos (by rfl)]
              have hab := two_far hn7 (hn6.alloc (.cells #[.int .i64 0, .int .i64 0, .int .i64 0, .int .i64 0] 23)) (by decide)
              refine wp_store_blk 23 (.tmp 7) (.tmp 36) rfl (wc3.heap.size + 1) _ (arrV l) rfl rfl 23 hn7 jl4 kl4 (arr_one _) ?_
              refine hK.out _ _ (hH.setRow hs7 _) (fun hH => ?_)
              clear hK K
              try simp only [Act.put]
              refine wpAnyH_ready (rs := [12]) (by kernel_rfl) (by simp) ?_
              refine AllReadyH.cons (o := { dst := none, op := Op.store 27 (Operand.tmp 8) (Operand.tmp 37), type := 0, pos := "law.go:103", after := _, guard := none }) rfl (fun K hK => ?_) AllReadyH.nil
              rw [if_pos (by rfl)]
              refine wp_store_blk 27 (.tmp 8) (.tmp 37) rfl (wc3.heap.size) _ (arrV wv) rfl rfl 27 ((hn6.alloc (.cells #[.int .i64 0, .int .i64 0, .int .i64 0, .int .i64 0] 23)).setRowOther hab.symm) jwv kwv (arr_one _) ?_
              refine hK.out _ _ (hH.setRow hs6 _) (fun hH => ?_)
              clear hK K
              try simp only [Act.put]
              refine wpAnyH_take (i := 13) (oi := { dst := some 9, op := Op.assign (Operand.tmp 38), type := 30, pos := "law.go:103", after := _, guard := none }) (v := .int .i64 0) rfl (by kernel_rfl) (by kernel_rfl) (by kernel_rfl) (fun _ _ _ h => h) (.inl ⟨by rfl, fun w hS => by go_simp⟩) hH ?_
              try simp only [Act.put, List.setIfInBounds_toArray, List.set_cons_zero, List.set_cons_succ]
              refine wpAnyH_done (by kernel_rfl) ?_ _
              go_wp2_with fail
              go_meet
              case rel => exact ⟨wc3.heap.size + 1, wc3.heap.size, rfl, rfl, rfl, hH, (hn7.setRow (new := arrV l)).setRowOther hab, ((hn6.alloc (.cells #[.int .i64 0, .int .i64 0, .int .i64 0, .int .i64 0] 23)).setRowOther hab.symm).setRow⟩
            refine AllReadyH.cons (o := { dst := some 7, op := Op.alloc 23, type := 0, pos := "law.go:103", after := _, guard := none }) rfl (fun K hK => ?_) ?_
            · rw [if_pos (by rfl)]
              go_simp
              have hz8 : (World.heap (wr.drew.alloc (.cells (M q) 5))).size = wr.heap.size + 1 := ((World.size_alloc _ _).trans (congrArg (· + 1) rfl))
              have hn8 := blk_at #[.int .i64 0, .int .i64 0, .int .i64 0, .int .i64 0] 23 hz8
              have hs8 : B + 1 ≤ wr.heap.size + 1 := Nat.le_trans hH.size (Nat.le_of_eq hz8)
              refine hK.out _ _ (hH.alloc _) (fun hH => ?_)
              clear hK K
              try simp only [Act.put, List.setIfInBounds_toArray, List.set_cons_zero, List.set_cons_succ]
              refine wpAnyH_ready (rs := [4, 10]) (by kernel_rfl) (by simp) ?_
              refine AllReadyH.cons (o := { dst := some 35, op := Op.call { callee := Callee.value (Operand.func 9), args := #[Operand.tmp 31, Operand.tmp 34], argTypes := #[23, 9] }, type := 36, pos := "law.go:103", after := _, guard := none }) rfl (fun K hK => ?_) ?_
              · rw [if_pos (by rfl)]
                go_simp
                refine (HPA.out _ hH.bands).mono ?_
                rintro e wc9 ⟨rfl, hb9⟩
                go_wp2_with fail
                refine hK.out _ _ (hH.below hb9) (fun hH => ?_)
                clear hK K
                try simp only [Act.put, List.setIfInBounds_toArray, List.set_cons_zero, List.set_cons_succ]
                refine wpAnyH_take (i := 5) (oi := { dst := some 30, op := Op.move (Operand.tmp 35), type := 36, pos := "law.go:103", after := _, guard := none }) (v := .tuple #[.agg (arrV l), .agg (arrV wv), .int .i64 0]) rfl (by kernel_rfl) (by kernel_rfl) (by kernel_rfl) (fun _ _ _ h => h) (.inl ⟨by rfl, fun w hS => by go_simp⟩) hH ?_
                try simp only [Act.put, List.setIfInBounds_toArray, List.set_cons_zero, List.set_cons_succ]
                refine wpAnyH_take (i := 6) (oi := { dst := some 36, op := Op.extract (Operand.tmp 30) 0, type := 23, pos := "law.go:103", after := _, guard := none }) (v := .agg (arrV l)) rfl (by kernel_rfl) (by kernel_rfl) (by kernel_rfl) (fun _ _ _ h => h) (.inl ⟨by rfl, fun w hS => by go_simp⟩) hH ?_
                try simp only [Act.put, List.setIfInBounds_toArray, List.set_cons_zero, List.set_cons_succ]
                refine wpAnyH_take (i := 7) (oi := { dst := some 37, op := Op.extract (Operand.tmp 30) 1, type := 27, pos := "law.go:103", after := _, guard := none }) (v := .agg (arrV wv)) rfl (by kernel_rfl) (by kernel_rfl) (by kernel_rfl) (fun _ _ _ h => h) (.inl ⟨by rfl, fun w hS => by go_simp⟩) hH ?_
                try simp only [Act.put, List.setIfInBounds_toArray, List.set_cons_zero, List.set_cons_succ]
                refine wpAnyH_take (i := 8) (oi := { dst := some 38, op := Op.extract (Operand.tmp 30) 2, type := 30, pos := "law.go:103", after := _, guard := none }) (v := .int .i64 0) rfl (by kernel_rfl) (by kernel_rfl) (by kernel_rfl) (fun _ _ _ h => h) (.inl ⟨by rfl, fun w hS => by go_simp⟩) hH ?_
                try simp only [Act.put, List.setIfInBounds_toArray, List.set_cons_zero, List.set_cons_succ]
                refine wpAnyH_ready (rs := [10]) (by kernel_rfl) (by simp) ?_
                refine AllReadyH.cons (o := { dst := some 8, op := Op.alloc 27, type := 0, pos := "law.go:103", after := _, guard := none }) rfl (fun K hK => ?_) AllReadyH.nil
                rw [if_pos (by rfl)]
                go_simp
                have hz10 : (World.heap wc9).size = wc9.heap.size := rfl
                have hn10 := blk_at #[.int .i64 0, .int .i64 0, .int .i64 0, .int .i64 0, .int .i64 0, .int .i64 0, .int .i64 0, .int .i64 0, .int .i64 0, .int .i64 0, .int .i64 0, .int .i64 0, .int .i64 0, .int .i64 0, .int .i64 0, .int .i64 0] 27 hz10
                have hs10 : B + 1 ≤ wc9.heap.size := Nat.le_trans hH.size (Nat.le_of_eq hz10)
                refine hK.out _ _ (hH.alloc _) (fun hH => ?_)
                clear hK K
                try simp only [Act.put, List.setIfInBounds_toArray, List.set_cons_zero, List.set_cons_succ]
                refine wpAnyH_ready (rs := [11]) (by kernel_rfl) (by simp) ?_
                refine AllReadyH.cons (o := { dst := none, op := Op.store 23 (Operand.tmp 7) (Operand.tmp 36), type := 0, pos := "law.go:103", after := _, guard := none }) rfl (fun K hK => ?_) AllReadyH.nil
                rw [if_pos (by rfl)]
                have hab := two_far ((hn8.newB hb9).alloc (.cells #[.int .i64 0, .int .i64 0, .int .i64 0, .int .i64 0, .int .i64 0, .int .i64 0, .int .i64 0, .int .i64 0, .int .i64 0, .int .i64 0, .int .i64 0, .int .i64 0, .int .i64 0, .int .i64 0, .int .i64 0, .int .i64 0] 27)) hn10 (by decide)
                refine wp_store_blk 23 (.tmp 7) (.tmp 36) rfl (wr.heap.size + 1) _ (arrV l) rfl rfl 23 ((hn8.newB hb9).alloc (.cells #[.int .i64 0, .int .i64 0, .int .i64 0, .int .i64 0, .int .i64 0, .int .i64 0, .int .i64 0, .int .i64 0, .int .i64 0, .int .i64 0, .int .i64 0, .int .i64 0, .int .i64 0, .int .i64 0, .int .i64 0, .int .i64 0] 27)) jl4 kl4 (arr_one _) ?_
                refine hK.out _ _ (hH.setRow hs8 _) (fun hH => ?_)
                clear hK K
                try simp only [Act.put]
                refine wpAnyH_ready (rs := [12]) (by kernel_rfl) (by simp) ?_
                refine AllReadyH.cons (o := { dst := none, op := Op.store 27 (Operand.tmp 8) (Operand.tmp 37), type := 0, pos := "law.go:103", after := _, guard := none }) rfl (fun K hK => ?_) AllReadyH.nil
                rw [if_pos (by rfl)]
                refine wp_store_blk 27 (.tmp 8) (.tmp 37) rfl (wc9.heap.size) _ (arrV wv) rfl rfl 27 (hn10.setRowOther hab.symm) jwv kwv (arr_one _) ?_
                refine hK.out _ _ (hH.setRow hs10 _) (fun hH => ?_)
                clear hK K
                try simp only [Act.put]
                refine wpAnyH_take (i := 13) (oi := { dst := some 9, op := Op.assign (Operand.tmp 38), type := 30, pos := "law.go:103", after := _, guard := none }) (v := .int .i64 0) rfl (by kernel_rfl) (by kernel_rfl) (by kernel_rfl) (fun _ _ _ h => h) (.inl ⟨by rfl, fun w hS => by go_simp⟩) hH ?_
                try simp only [Act.put, List.setIfInBounds_toArray, List.set_cons_zero, List.set_cons_succ]
                refine wpAnyH_done (by kernel_rfl) ?_ _
                go_wp2_with fail
                go_meet
                case rel => exact ⟨wr.heap.size + 1, wc9.heap.size, rfl, rfl, rfl, hH, (((hn8.newB hb9).alloc (.cells #[.int .i64 0, .int .i64 0, .int .i64 0, .int .i64 0, .int .i64 0, .int .i64 0, .int .i64 0, .int .i64 0, .int .i64 0, .int .i64 0, .int .i64 0, .int .i64 0, .int .i64 0, .int .i64 0, .int .i64 0, .int .i64 0] 27)).setRow (new := arrV l)).setRowOther hab, (hn10.setRowOther hab.symm).setRow⟩
              refine AllReadyH.cons (o := { dst := some 8, op := Op.alloc 27, type := 0, pos := "law.go:103", after := _, guard := none }) rfl (fun K hK => ?_) AllReadyH.nil
              rw [if_pos (by rfl)]
              go_simp
              have hz11 : (World.heap ((wr.drew.alloc (.cells (M q) 5)).alloc (.cells #[.int .i64 0, .int .i64 0, .int .i64 0, .int .i64 0] 23))).size = wr.heap.size + 1 + 1 := ((World.size_alloc _ _).trans (congrArg (· + 1) ((World.size_alloc _ _).trans (congrArg (· + 1) rfl))))
              have hn11 := blk_at #[.int .i64 0, .int .i64 0, .int .i64 0, .int .i64 0, .int .i64 0, .int .i64 0, .int .i64 0, .int .i64 0, .int .i64 0, .int .i64 0, .int .i64 0, .int .i64 0, .int .i64 0, .int .i64 0, .int .i64 0, .int .i64 0] 27 hz11
              have hs11 : B + 1 ≤ wr.heap.size + 1 + 1 := Nat.le_trans hH.size (Nat.le_of_eq hz11)
              refine hK.out _ _ (hH.alloc _) (fun hH => ?_)
              clear hK K
              try simp only [Act.put, List.setIfInBounds_toArray, List.set_cons_zero, List.set_cons_succ]
              refine wpAnyH_ready (rs := [4]) (by kernel_rfl) (by simp) ?_
              refine AllReadyH.cons (o := { dst := some 35, op := Op.call { callee := Callee.value (Operand.func 9), args := #[Operand.tmp 31, Operand.tmp 34], argTypes := #[23, 9] }, type := 36, pos := "law.go:103", after := _, guard := none }) rfl (fun K hK => ?_) AllReadyH.nil
              rw [if_pos (by rfl)]
              go_simp
              refine (HPA.out _ hH.bands).mono ?_
              rintro e wc12 ⟨rfl, hb12⟩
              go_wp2_with fail
              refine hK.out _ _ (hH.below hb12) (fun hH => ?_)
              clear hK K
              try simp only [Act.put, List.setIfInBounds_toArray, List.set_cons_zero, List.set_cons_succ]
              refine wpAnyH_take (i := 5) (oi := { dst := some 30, op := Op.move (Operand.tmp 35), type := 36, pos := "law.go:103", after := _, guard := none }) (v := .tuple #[.agg (arrV l), .agg (arrV wv), .int .i64 0]) rfl (by kernel_rfl) (by kernel_rfl) (by kernel_rfl) (fun _ _ _ h => h) (.inl ⟨by rfl, fun w hS => by go_simp⟩) hH ?_
              try simp only [Act.put, List.setIfInBounds_toArray, List.set_cons_zero, List.set_cons_succ]
              refine wpAnyH_take (i := 6) (oi := { dst := some 36, op := Op.extract (Operand.tmp 30) 0, type := 23, pos := "law.go:103", after := _, guard := none }) (v := .agg (arrV l)) rfl (by kernel_rfl) (by kernel_rfl) (by kernel_rfl) (fun _ _ _ h => h) (.inl ⟨by rfl, fun w hS => by go_simp⟩) hH ?_
              try simp only [Act.put, List.setIfInBounds_toArray, List.set_cons_zero, List.set_cons_succ]
              refine wpAnyH_take (i := 7) (oi := { dst := some 37, op := Op.extract (Operand.tmp 30) 1, type := 27, pos := "law.go:103", after := _, guard := none }) (v := .agg (arrV wv)) rfl (by kernel_rfl) (by kernel_rfl) (by kernel_rfl) (fun _ _ _ h => h) (.inl ⟨by rfl, fun w hS => by go_simp⟩) hH ?_
              try simp only [Act.put, List.setIfInBounds_toArray, List.set_cons_zero, List.set_cons_succ]
              refine wpAnyH_take (i := 8) (oi := { dst := some 38, op := Op.extract (Operand.tmp 30) 2, type := 30, pos := "law.go:103", after := _, guard := none }) (v := .int .i64 0) rfl (by kernel_rfl) (by kernel_rfl) (by kernel_rfl) (fun _ _ _ h => h) (.inl ⟨by rfl, fun w hS => by go_simp⟩) hH ?_
              try simp only [Act.put, List.setIfInBounds_toArray, List.set_cons_zero, List.set_cons_succ]
              refine wpAnyH_ready (rs := [11]) (by kernel_rfl) (by simp) ?_
              refine AllReadyH.cons (o := { dst := none, op := Op.store 23 (Operand.tmp 7) (Operand.tmp 36), type := 0, pos := "law.go:103", after := _, guard := none }) rfl (fun K hK => ?_) AllReadyH.nil
              rw [if_pos (by rfl)]
              have hab := two_far ((hn8.alloc (.cells #[.int .i64 0, .int .i64 0, .int .i64 0, .int .i64 0, .int .i64 0, .int .i64 0, .int .i64 0, .int .i64 0, .int .i64 0, .int .i64 0, .int .i64 0, .int .i64 0, .int .i64 0, .int .i64 0, .int .i64 0, .int .i64 0] 27)).newB hb12) (hn11.newB hb12) (by decide)
              refine wp_store_blk 23 (.tmp 7) (.tmp 36) rfl (wr.heap.size + 1) _ (arrV l) rfl rfl 23 ((hn8.alloc (.cells #[.int .i64 0, .int .i64 0, .int .i64 0, .int .i64 0, .int .i64 0, .int .i64 0, .int .i64 0, .int .i64 0, .int .i64 0, .int .i64 0, .int .i64 0, .int .i64 0, .int .i64 0, .int .i64 0, .int .i64 0, .int .i64 0] 27)).newB hb12) jl4 kl4 (arr_one _) ?_
              refine hK.out _ _ (hH.setRow hs8 _) (fun hH => ?_)
              clear hK K
              try simp only [Act.put]
              refine wpAnyH_ready (rs := [12]) (by kernel_rfl) (by simp) ?_
              refine AllReadyH.cons (o := { dst := none, op := Op.store 27 (Operand.tmp 8) (Operand.tmp 37), type := 0, pos := "law.go:103", after := _, guard := none }) rfl (fun K hK => ?_) AllReadyH.nil
              rw [if_pos (by rfl)]
              refine wp_store_blk 27 (.tmp 8) (.tmp 37) rfl (wr.heap.size + 1 + 1) _ (arrV wv) rfl rfl 27 ((hn11.newB hb12).setRowOther hab.symm) jwv kwv (arr_one _) ?_
              refine hK.out _ _ (hH.setRow hs11 _) (fun hH => ?_)
              clear hK K
              try simp only [Act.put]
              refine wpAnyH_take (i := 13) (oi := { dst := some 9, op := Op.assign (Operand.tmp 38), type := 30, pos := "law.go:103", after := _, guard := none }) (v := .int .i64 0) rfl (by kernel_rfl) (by kernel_rfl) (by kernel_rfl) (fun _ _ _ h => h) (.inl ⟨by rfl, fun w hS => by go_simp⟩) hH ?_
              try simp only [Act.put, List.setIfInBounds_toArray, List.set_cons_zero, List.set_cons_succ]
              refine wpAnyH_done (by kernel_rfl) ?_ _
              go_wp2_with fail
              go_meet
              case rel => exact ⟨wr.heap.size + 1, wr.heap.size + 1 + 1, rfl, rfl, rfl, hH, (((hn8.alloc (.cells #[.int .i64 0, .int .i64 0, .int .i64 0, .int .i64 0, .int .i64 0, .int .i64 0, .int .i64 0, .int .i64 0, .int .i64 0, .int .i64 0, .int .i64 0, .int .i64 0, .int .i64 0, .int .i64 0, .int .i64 0, .int .i64 0] 27)).newB hb12).setRow (new := arrV l)).setRowOther hab, ((hn11.newB hb12).setRowOther hab.symm).setRow⟩
            refine AllReadyH.cons (o := { dst := some 8, op := Op.alloc 27, type := 0, pos := "law.go:103", after := _, guard := none }) rfl (fun K hK => ?_) AllReadyH.nil
            rw [if_pos (by rfl)]
            go_simp
            have hz13 : (World.heap (wr.drew.alloc (.cells (M q) 5))).size = wr.heap.size + 1 := ((World.size_alloc _ _).trans (congrArg (· + 1) rfl))
            have hn13 := blk_at #[.int .i64 0, .int .i64 0, .int .i64 0, .int .i64 0, .int .i64 0, .int .i64 0, .int .i64 0, .int .i64 0, .int .i64 0, .int .i64 0, .int .i64 0, .int .i64 0, .int .i64 0, .int .i64 0, .int .i64 0, .int .i64 0] 27 hz13
            have hs13 : B + 1 ≤ wr.heap.size + 1 := Nat.le_trans hH.size (Nat.le_of_eq hz13)
            refine hK.out _ _ (hH.alloc _) (fun hH => ?_)
            clear hK K
            try simp only [Act.put, List.setIfInBounds_toArray, List.set_cons_zero, List.set_cons_succ]
            refine wpAnyH_ready (rs := [4, 9]) (by kernel_rfl) (by simp) ?_
            refine AllReadyH.cons (o := { dst := some 35, op := Op.call { callee := Callee.value (Operand.func 9), args := #[Operand.tmp 31, Operand.tmp 34], argTypes := #[23, 9] }, type := 36, pos := "law.go:103", after := _, guard := none }) rfl (fun K hK => ?_) ?_
            · rw [if_pos (by rfl)]
              go_simp
              refine (HPA.out _ hH.bands).mono ?_
              rintro e wc14 ⟨rfl, hb14⟩
              go_wp2_with fail
              refine hK.out _ _ (hH.below hb14) (fun hH => ?_)
              clear hK K
              try simp only [Act.put, List.setIfInBounds_toArray, List.set_cons_zero, List.set_cons_succ]
              refine wpAnyH_take (i := 5) (oi := { dst := some 30, op := Op.move (Operand.tmp 35), type := 36, pos := "law.go:103", after := _, guard := none }) (v := .tuple #[.agg (arrV l), .agg (arrV wv), .int .i64 0]) rfl (by kernel_rfl) (by kernel_rfl) (by kernel_rfl) (fun _ _ _ h => h) (.inl ⟨by rfl, fun w hS => by go_simp⟩) hH ?_
              try simp only [Act.put, List.setIfInBounds_toArray, List.set_cons_zero, List.set_cons_succ]
              refine wpAnyH_take (i := 6) (oi := { dst := some 36, op := Op.extract (Operand.tmp 30) 0, type := 23, pos := "law.go:103", after := _, guard := none }) (v := .agg (arrV l)) rfl (by kernel_rfl) (by kernel_rfl) (by kernel_rfl) (fun _ _ _ h => h) (.inl ⟨by rfl, fun w hS => by go_simp⟩) hH ?_
              try simp only [Act.put, List.setIfInBounds_toArray, List.set_cons_zero, List.set_cons_succ]
              refine wpAnyH_take (i := 7) (oi := { dst := some 37, op := Op.extract (Operand.tmp 30) 1, type := 27, pos := "law.go:103", after := _, guard := none }) (v := .agg (arrV wv)) rfl (by kernel_rfl) (by kernel_rfl) (by kernel_rfl) (fun _ _ _ h => h) (.inl ⟨by rfl, fun w hS => by go_simp⟩) hH ?_
              try simp only [Act.put, List.setIfInBounds_toArray, List.set_cons_zero, List.set_cons_succ]
              refine wpAnyH_take (i := 8) (oi := { dst := some 38, op := Op.extract (Operand.tmp 30) 2, type := 30, pos := "law.go:103", after := _, guard := none }) (v := .int .i64 0) rfl (by kernel_rfl) (by kernel_rfl) (by kernel_rfl) (fun _ _ _ h => h) (.inl ⟨by rfl, fun w hS => by go_simp⟩) hH ?_
              try simp only [Act.put, List.setIfInBounds_toArray, List.set_cons_zero, List.set_cons_succ]
              refine wpAnyH_ready (rs := [9]) (by kernel_rfl) (by simp) ?_
              refine AllReadyH.cons (o := { dst := some 7, op := Op.alloc 23, type := 0, pos := "law.go:103", after := _, guard := none }) rfl (fun K hK => ?_) AllReadyH.nil
              rw [if_pos (by rfl)]
              go_simp
              have hz15 : (World.heap wc14).size = wc14.heap.size := rfl
              have hn15 := blk_at #[.int .i64 0, .int .i64 0, .int .i64 0, .int .i64 0] 23 hz15
              have hs15 : B + 1 ≤ wc14.heap.size := Nat.le_trans hH.size (Nat.le_of_eq hz15)
              refine hK.out _ _ (hH.alloc _) (fun hH => ?_)
              clear hK K
              try simp only [Act.put, List.setIfInBounds_toArray, List.set_cons_zero, List.set_cons_succ]
              refine wpAnyH_ready (rs := [11]) (by kernel_rfl) (by simp) ?_
              refine AllReadyH.cons (o := { dst := none, op := Op.store 23 (Operand.tmp 7) (Operand.tmp 36), type := 0, pos := "law.go:103", after := _, guard := none }) rfl (fun K hK => ?_) AllReadyH.nil
              rw [if_pos (by rfl)]
              have hab := two_far hn15 ((hn13.newB hb14).alloc (.cells #[.int .i64 0, .int .i64 0, .int .i64 0, .int .i64 0] 23)) (by decide)
              refine wp_store_blk 23 (.tmp 7) (.tmp 36) rfl (wc14.heap.size) _ (arrV l) rfl rfl 23 hn15 jl4 kl4 (arr_one _) ?_
              refine hK.out _ _ (hH.setRow hs15 _) (fun hH => ?_)
              clear hK K
              try simp only [Act.put]
              refine wpAnyH_ready (rs := [12]) (by kernel_rfl) (by simp) ?_
              refine AllReadyH.cons (o := { dst := none, op := Op.store 27 (Operand.tmp 8) (Operand.tmp 37), type := 0, pos := "law.go:103", after := _, guard := none }) rfl (fun K hK => ?_) AllReadyH.nil
              rw [if_pos (by rfl)]
              refine wp_store_blk 27 (.tmp 8) (.tmp 37) rfl (wr.heap.size + 1) _ (arrV wv) rfl rfl 27 (((hn13.newB hb14).alloc (.cells #[.int .i64 0, .int .i64 0, .int .i64 0, .int .i64 0] 23)).setRowOther hab.symm) jwv kwv (arr_one _) ?_
              refine hK.out _ _ (hH.setRow hs13 _) (fun hH => ?_)
              clear hK K
              try simp only [Act.put]
              refine wpAnyH_take (i := 13) (oi := { dst := some 9, op := Op.assign (Operand.tmp 38), type := 30, pos := "law.go:103", after := _, guard := none }) (v := .int .i64 0) rfl (by kernel_rfl) (by kernel_rfl) (by kernel_rfl) (fun _ _ _ h => h) (.inl ⟨by rfl, fun w hS => by go_simp⟩) hH ?_
              try simp only [Act.put, List.setIfInBounds_toArray, List.set_cons_zero, List.set_cons_succ]
              refine wpAnyH_done (by kernel_rfl) ?_ _
              go_wp2_with fail
              go_meet
              case rel => exact ⟨wc14.heap.size, wr.heap.size + 1, rfl, rfl, rfl, hH, (hn15.setRow (new := arrV l)).setRowOther hab, (((hn13.newB hb14).alloc (.cells #[.int .i64 0, .int .i64 0, .int .i64 0, .int .i64 0] 23)).setRowOther hab.symm).setRow⟩
            refine AllReadyH.cons (o := { dst := some 7, op := Op.alloc 23, type := 0, pos := "law.go:103", after := _, guard := none }) rfl (fun K hK => ?_) AllReadyH.nil
            rw [if_pos (by rfl)]
            go_simp
            have hz16 : (World.heap ((wr.drew.alloc (.cells (M q) 5)).alloc (.cells #[.int .i64 0, .int .i64 0, .int .i64 0, .int .i64 0, .int .i64 0, .int .i64 0, .int .i64 0, .int .i64 0, .int .i64 0, .int .i64 0, .int .i64 0, .int .i64 0, .int .i64 0, .int .i64 0, .int .i64 0, .int .i64 0] 27))).size = wr.heap.size + 1 + 1 := ((World.size_alloc _ _).trans (congrArg (· + 1) ((World.size_alloc _ _).trans (congrArg (· + 1) rfl))))
            have hn16 := blk_at #[.int .i64 0, .int .i64 0, .int .i64 0, .int .i64 0] 23 hz16
            have hs16 : B + 1 ≤ wr.heap.size + 1 + 1 := Nat.le_trans hH.size (Nat.le_of_eq hz16)
            refine hK.out _ _ (hH.alloc _) (fun hH => ?_)
            clear hK K
            try simp only [Act.put, List.setIfInBounds_toArray, List.set_cons_zero, List.set_cons_succ]
            refine wpAnyH_ready (rs := [4]) (by kernel_rfl) (by simp) ?_
            refine AllReadyH.cons (o := { dst := some 35, op := Op.call { callee := Callee.value (Operand.func 9), args := #[Operand.tmp 31, Operand.tmp 34], argTypes := #[23, 9] }, type := 36, pos := "law.go:103", after := _, guard := none }) rfl (fun K hK => ?_) AllReadyH.nil
            rw [if_pos (by rfl)]
            go_simp
            refine (HPA.out _ hH.bands).mono ?_
            rintro e wc17 ⟨rfl, hb17⟩
            go_wp2_with fail
            refine hK.out _ _ (hH.below hb17) (fun hH => ?_)
            clear hK K
            try simp only [Act.put, List.setIfInBounds_toArray, List.set_cons_zero, List.set_cons_succ]
            refine wpAnyH_take (i := 5) (oi := { dst := some 30, op := Op.move (Operand.tmp 35), type := 36, pos := "law.go:103", after := _, guard := none }) (v := .tuple #[.agg (arrV l), .agg (arrV wv), .int .i64 0]) rfl (by kernel_rfl) (by kernel_rfl) (by kernel_rfl) (fun _ _ _ h => h) (.inl ⟨by rfl, fun w hS => by go_simp⟩) hH ?_
            try simp only [Act.put, List.setIfInBounds_toArray, List.set_cons_zero, List.set_cons_succ]
            refine wpAnyH_take (i := 6) (oi := { dst := some 36, op := Op.extract (Operand.tmp 30) 0, type := 23, pos := "law.go:103", after := _, guard := none }) (v := .agg (arrV l)) rfl (by kernel_rfl) (by kernel_rfl) (by kernel_rfl) (fun _ _ _ h => h) (.inl ⟨by rfl, fun w hS => by go_simp⟩) hH ?_
            try simp only [Act.put, List.setIfInBounds_toArray, List.set_cons_zero, List.set_cons_succ]
            refine wpAnyH_take (i := 7) (oi := { dst := some 37, op := Op.extract (Operand.tmp 30) 1, type := 27, pos := "law.go:103", after := _, guard := none }) (v := .agg (arrV wv)) rfl (by kernel_rfl) (by kernel_rfl) (by kernel_rfl) (fun _ _ _ h => h) (.inl ⟨by rfl, fun w hS => by go_simp⟩) hH ?_
            try simp only [Act.put, List.setIfInBounds_toArray, List.set_cons_zero, List.set_cons_succ]
            refine wpAnyH_take (i := 8) (oi := { dst := some 38, op := Op.extract (Operand.tmp 30) 2, type := 30, pos := "law.go:103", after := _, guard := none }) (v := .int .i64 0) rfl (by kernel_rfl) (by kernel_rfl) (by kernel_rfl) (fun _ _ _ h => h) (.inl ⟨by rfl, fun w hS => by go_simp⟩) hH ?_
            try simp only [Act.put, List.setIfInBounds_toArray, List.set_cons_zero, List.set_cons_succ]
            refine wpAnyH_ready (rs := [11]) (by kernel_rfl) (by simp) ?_
            refine AllReadyH.cons (o := { dst := none, op := Op.store 23 (Operand.tmp 7) (Operand.tmp 36), type := 0, pos := "law.go:103", after := _, guard := none }) rfl (fun K hK => ?_) AllReadyH.nil
            rw [if_pos (by rfl)]
            have hab := two_far (hn16.newB hb17) ((hn13.alloc (.cells #[.int .i64 0, .int .i64 0, .int .i64 0, .int .i64 0] 23)).newB hb17) (by decide)
            refine wp_store_blk 23 (.tmp 7) (.tmp 36) rfl (wr.heap.size + 1 + 1) _ (arrV l) rfl rfl 23 (hn16.newB hb17) jl4 kl4 (arr_one _) ?_
            refine hK.out _ _ (hH.setRow hs16 _) (fun hH => ?_)
            clear hK K
            try simp only [Act.put]
            refine wpAnyH_ready (rs := [12]) (by kernel_rfl) (by simp) ?_
            refine AllReadyH.cons (o := { dst := none, op := Op.store 27 (Operand.tmp 8) (Operand.tmp 37), type := 0, pos := "law.go:103", after := _, guard := none }) rfl (fun K hK => ?_) AllReadyH.nil
            rw [if_pos (by rfl)]
            refine wp_store_blk 27 (.tmp 8) (.tmp 37) rfl (wr.heap.size + 1) _ (arrV wv) rfl rfl 27 (((hn13.alloc (.cells #[.int .i64 0, .int .i64 0, .int .i64 0, .int .i64 0] 23)).newB hb17).setRowOther hab.symm) jwv kwv (arr_one _) ?_
            refine hK.out _ _ (hH.setRow hs13 _) (fun hH => ?_)
            clear hK K
            try simp only [Act.put]
            refine wpAnyH_take (i := 13) (oi := { dst := some 9, op := Op.assign (Operand.tmp 38), type := 30, pos := "law.go:103", after := _, guard := none }) (v := .int .i64 0) rfl (by kernel_rfl) (by kernel_rfl) (by kernel_rfl) (fun _ _ _ h => h) (.inl ⟨by rfl, fun w hS => by go_simp⟩) hH ?_
            try simp only [Act.put, List.setIfInBounds_toArray, List.set_cons_zero, List.set_cons_succ]
            refine wpAnyH_done (by kernel_rfl) ?_ _
            go_wp2_with fail
            go_meet
            case rel => exact ⟨wr.heap.size + 1 + 1, wr.heap.size + 1, rfl, rfl, rfl, hH, ((hn16.newB hb17).setRow (new := arrV l)).setRowOther hab, (((hn13.alloc (.cells #[.int .i64 0, .int .i64 0, .int .i64 0, .int .i64 0] 23)).newB hb17).setRowOther hab.symm).setRow⟩
          refine AllReadyH.cons (o := { dst := some 7, op := Op.alloc 23, type := 0, pos := "law.go:103", after := _, guard := none }) rfl (fun K hK => ?_) ?_
          · rw [if_pos (by rfl)]
            go_simp
            have hz18 : (World.heap (wr.drew.alloc (.cells (M q) 5))).size = wr.heap.size + 1 := ((World.size_alloc _ _).trans (congrArg (· + 1) rfl))
            have hn18 := blk_at #[.int .i64 0, .int .i64 0, .int .i64 0, .int .i64 0] 23 hz18
            have hs18 : B + 1 ≤ wr.heap.size + 1 := Nat.le_trans hH.size (Nat.le_of_eq hz18)
            refine hK.out _ _ (hH.alloc _) (fun hH => ?_)
            clear hK K
            try simp only [Act.put, List.setIfInBounds_toArray, List.set_cons_zero, List.set_cons_succ]
            refine wpAnyH_ready (rs := [3, 10]) (by kernel_rfl) (by simp) ?_
            refine AllReadyH.cons (o := { dst := some 34, op := Op.convert 38 9 (Operand.tmp 33), type := 9, pos := "law.go:103", after := _, guard := none }) rfl (fun K hK => ?_) ?_
            · rw [if_pos (by rfl)]
              have hm19 := (hn1.alloc (.cells #[.int .i64 0, .int .i64 0, .int .i64 0, .int .i64 0] 23))
              refine wp_convert 38 9 (.tmp 33) rfl _ rfl _ (hcv _ _ hm19) ?_
              refine hK.out _ _ hH (fun hH => ?_)
              clear hK K
              try simp only [Act.put, List.setIfInBounds_toArray, List.set_cons_zero, List.set_cons_succ]
              refine wpAnyH_ready (rs := [4, 10]) (by kernel_rfl) (by simp) ?_
              refine AllReadyH.cons (o := { dst := some 35, op := Op.call { callee := Callee.value (Operand.func 9), args := #[Operand.tmp 31, Operand.tmp 34], argTypes := #[23, 9] }, type := 36, pos := "law.go:103", after := _, guard := none }) rfl (fun K hK => ?_) ?_
              · rw [if_pos (by rfl)]
                go_simp
                refine (HPA.out _ hH.bands).mono ?_
                rintro e wc20 ⟨rfl, hb20⟩
                go_wp2_with fail
                refine hK.out _ _ (hH.below hb20) (fun hH => ?_)
                clear hK K
                try simp only [Act.put, List.setIfInBounds_toArray, List.set_cons_zero, List.set_cons_succ]
                refine wpAnyH_take (i := 5) (oi := { dst := some 30, op := Op.move (Operand.tmp 35), type := 36, pos := "law.go:103", after := _, guard := none }) (v := .tuple #[.agg (arrV l), .agg (arrV wv), .int .i64 0]) rfl (by kernel_rfl) (by kernel_rfl) (by kernel_rfl) (fun _ _ _ h => h) (.inl ⟨by rfl, fun w hS => by go_simp⟩) hH ?_
                try simp only [Act.put, List.setIfInBounds_toArray, List.set_cons_zero, List.set_cons_succ]
                refine wpAnyH_take (i := 6) (oi := { dst := some 36, op := Op.extract (Operand.tmp 30) 0, type := 23, pos := "law.go:103", after := _, guard := none }) (v := .agg (arrV l)) rfl (by kernel_rfl) (by kernel_rfl) (by kernel_rfl) (fun _ _ _ h => h) (.inl ⟨by rfl, fun w hS => by go_simp⟩) hH ?_
                try simp only [Act.put, List.setIfInBounds_toArray, List.set_cons_zero, List.set_cons_succ]
                refine wpAnyH_take (i := 7) (oi := { dst := some 37, op := Op.extract (Operand.tmp 30) 1, type := 27, pos := "law.go:103", after := _, guard := none }) (v := .agg (arrV wv)) rfl (by kernel_rfl) (by kernel_rfl) (by kernel_rfl) (fun _ _ _ h => h) (.inl ⟨by rfl, fun w hS => by go_simp⟩) hH ?_
                try simp only [Act.put, List.setIfInBounds_toArray, List.set_cons_zero, List.set_cons_succ]
                refine wpAnyH_take (i := 8) (oi := { dst := some 38, op := Op.extract (Operand.tmp 30) 2, type := 30, pos := "law.go:103", after := _, guard := none }) (v := .int .i64 0) rfl (by kernel_rfl) (by kernel_rfl) (by kernel_rfl) (fun _ _ _ h => h) (.inl ⟨by rfl, fun w hS => by go_simp⟩) hH ?_
                try simp only [Act.put, List.setIfInBounds_toArray, List.set_cons_zero, List.set_cons_succ]
                refine wpAnyH_ready (rs := [10]) (by kernel_rfl) (by simp) ?_
                refine AllReadyH.cons (o := { dst := some 8, op := Op.alloc 27, type := 0, pos := "law.go:103", after := _, guard := none }) rfl (fun K hK => ?_) AllReadyH.nil
                rw [if_pos (by rfl)]
                go_simp
                have hz21 : (World.heap wc20).size = wc20.heap.size := rfl
                have hn21 := blk_at #[.int .i64 0, .int .i64 0, .int .i64 0, .int .i64 0, .int .i64 0, .int .i64 0, .int .i64 0, .int .i64 0, .int .i64 0, .int .i64 0, .int .i64 0, .int .i64 0, .int .i64 0, .int .i64 0, .int .i64 0, .int .i64 0] 27 hz21
                have hs21 : B + 1 ≤ wc20.heap.size := Nat.le_trans hH.size (Nat.le_of_eq hz21)
                refine hK.out _ _ (hH.alloc _) (fun hH => ?_)
                clear hK K
                try simp only [Act.put, List.setIfInBounds_toArray, List.set_cons_zero, List.set_cons_succ]
                refine wpAnyH_ready (rs := [11]) (by kernel_rfl) (by simp) ?_
                refine AllReadyH.cons (o := { dst := none, op := Op.store 23 (Operand.tmp 7) (Operand.tmp 36), type := 0, pos := "law.go:103", after := _, guard := none }) rfl (fun K hK => ?_) AllReadyH.nil
                rw [if_pos (by rfl)]
                have hab := two_far ((hn18.newB hb20).alloc (.cells #[.int .i64 0, .int .i64 0, .int .i64 0, .int .i64 0, .int .i64 0, .int .i64 0, .int .i64 0, .int .i64 0, .int .i64 0, .int .i64 0, .int .i64 0, .int .i64 0, .int .i64 0, .int .i64 0, .int .i64 0, .int .i64 0] 27)) hn21 (by decide)
                refine wp_store_blk 23 (.tmp 7) (.tmp 36) rfl (wr.heap.size + 1) _ (arrV l) rfl rfl 23 ((hn18.newB hb20).alloc (.cells #[.int .i64 0, .int .i64 0, .int .i64 0, .int .i64 0, .int .i64 0, .int .i64 0, .int .i64 0, .int .i64 0, .int .i64 0, .int .i64 0, .int .i64 0, .int .i64 0, .int .i64 0, .int .i64 0, .int .i64 0, .int .i64 0] 27)) jl4 kl4 (arr_one _) ?_
                refine hK.out _ _ (hH.setRow hs18 _) (fun hH => ?_)
                clear hK K
                try simp only [Act.put]
                refine wpAnyH_ready (rs := [12]) (by kernel_rfl) (by simp) ?_
                refine AllReadyH.cons (o := { dst := none, op := Op.store 27 (Operand.tmp 8) (Operand.tmp 37), type := 0, pos := "law.go:103", after := _, guard := none }) rfl (fun K hK => ?_) AllReadyH.nil
                rw [if_pos (by rfl)]
                refine wp_store_blk 27 (.tmp 8) (.tmp 37) rfl (wc20.heap.size) _ (arrV wv) rfl rfl 27 (hn21.setRowOther hab.symm) jwv kwv (arr_one _) ?_
                refine hK.out _ _ (hH.setRow hs21 _) (fun hH => ?_)
                clear hK K
                try simp only [Act.put]
                refine wpAnyH_take (i := 13) (oi := { dst := some 9, op := Op.assign (Operand.tmp 38), type := 30, pos := "law.go:103", after := _, guard := none }) (v := .int .i64 0) rfl (by kernel_rfl) (by kernel_rfl) (by kernel_rfl) (fun _ _ _ h => h) (.inl ⟨by rfl, fun w hS => by go_simp⟩) hH ?_
                try simp only [Act.put, List.setIfInBounds_toArray, List.set_cons_zero, List.set_cons_succ]
                refine wpAnyH_done (by kernel_rfl) ?_ _
                go_wp2_with fail
                go_meet
                case rel => exact ⟨wr.heap.size + 1, wc20.heap.size, rfl, rfl, rfl, hH, (((hn18.newB hb20).alloc (.cells #[.int .i64 0, .int .i64 0, .int .i64 0, .int .i64 0, .int .i64 0, .int .i64 0, .int .i64 0, .int .i64 0, .int .i64 0, .int .i64 0, .int .i64 0, .int .i64 0, .int .i64 0, .int .i64 0, .int .i64 0, .int .i64 0] 27)).setRow (new := arrV l)).setRowOther hab, (hn21.setRowOther hab.symm).setRow⟩
              refine AllReadyH.cons (o := { dst := some 8, op := Op.alloc 27, type := 0, pos := "law.go:103", after := _, guard := none }) rfl (fun K hK => ?_) AllReadyH.nil
              rw [if_pos (by rfl)]
              go_simp
              have hz22 : (World.heap ((wr.drew.alloc (.cells (M q) 5)).alloc (.cells #[.int .i64 0, .int .i64 0, .int .i64 0, .int .i64 0] 23))).size = wr.heap.size + 1 + 1 := ((World.size_alloc _ _).trans (congrArg (· + 1) ((World.size_alloc _ _).trans (congrArg (· + 1) rfl))))
              have hn22 := blk_at #[.int .i64 0, .int .i64 0, .int .i64 0, .int .i64 0, .int .i64 0, .int .i64 0, .int .i64 0, .int .i64 0, .int .i64 0, .int .i64 0, .int .i64 0, .int .i64 0, .int .i64 0, .int .i64 0, .int .i64 0, .int .i64 0] 27 hz22
              have hs22 : B + 1 ≤ wr.heap.size + 1 + 1 := Nat.le_trans hH.size (Nat.le_of_eq hz22)
              refine hK.out _ _ (hH.alloc _) (fun hH => ?_)
              clear hK K
              try simp only [Act.put, List.setIfInBounds_toArray, List.set_cons_zero, List.set_cons_succ]
              refine wpAnyH_ready (rs := [4]) (by kernel_rfl) (by simp) ?_
              refine AllReadyH.cons (o := { dst := some 35, op := Op.call { callee := Callee.value (Operand.func 9), args := #[Operand.tmp 31, Operand.tmp 34], argTypes := #[23, 9] }, type := 36, pos := "law.go:103", after := _, guard := none }) rfl (fun K hK => ?_) AllReadyH.nil
              rw [if_pos (by rfl)]
              go_simp
              refine (HPA.out _ hH.bands).mono ?_
              rintro e wc23 ⟨rfl, hb23⟩
              go_wp2_with fail
              refine hK.out _ _ (hH.below hb23) (fun hH => ?_)
              clear hK K
              try simp only [Act.put, List.setIfInBounds_toArray, List.set_cons_zero, List.set_cons_succ]
              refine wpAnyH_take (i := 5) (oi := { dst := some 30, op := Op.move (Operand.tmp 35), type := 36, pos := "law.go:103", after := _, guard := none }) (v := .tuple #[.agg (arrV l), .agg (arrV wv), .int .i64 0]) rfl (by kernel_rfl) (by kernel_rfl) (by kernel_rfl) (fun _ _ _ h => h) (.inl ⟨by rfl, fun w hS => by go_simp⟩) hH ?_
              try simp only [Act.put, List.setIfInBounds_toArray, List.set_cons_zero, List.set_cons_succ]
              refine wpAnyH_take (i := 6) (oi := { dst := some 36, op := Op.extract (Operand.tmp 30) 0, type := 23, pos := "law.go:103", after := _, guard := none }) (v := .agg (arrV l)) rfl (by kernel_rfl) (by kernel_rfl) (by kernel_rfl) (fun _ _ _ h => h) (.inl ⟨by rfl, fun w hS => by go_simp⟩) hH ?_
              try simp only [Act.put, List.setIfInBounds_toArray, List.set_cons_zero, List.set_cons_succ]
              refine wpAnyH_take (i := 7) (oi := { dst := some 37, op := Op.extract (Operand.tmp 30) 1, type := 27, pos := "law.go:103", after := _, guard := none }) (v := .agg (arrV wv)) rfl (by kernel_rfl) (by kernel_rfl) (by kernel_rfl) (fun _ _ _ h => h) (.inl ⟨by rfl, fun w hS => by go_simp⟩) hH ?_
              try simp only [Act.put, List.setIfInBounds_toArray, List.set_cons_zero, List.set_cons_succ]
              refine wpAnyH_take (i := 8) (oi := { dst := some 38, op := Op.extract (Operand.tmp 30) 2, type := 30, pos := "law.go:103", after := _, guard := none }) (v := .int .i64 0) rfl (by kernel_rfl) (by kernel_rfl) (by kernel_rfl) (fun _ _ _ h => h) (.inl ⟨by rfl, fun w hS => by go_simp⟩) hH ?_
              try simp only [Act.put, List.setIfInBounds_toArray, List.set_cons_zero, List.set_cons_succ]
              refine wpAnyH_ready (rs := [11]) (by kernel_rfl) (by simp) ?_
              refine AllReadyH.cons (o := { dst := none, op := Op.store 23 (Operand.tmp 7) (Operand.tmp 36), type := 0, pos := "law.go:103", after := _, guard := none }) rfl (fun K hK => ?_) AllReadyH.nil
              rw [if_pos (by rfl)]
              have hab := two_far ((hn18.alloc (.cells #[.int .i64 0, .int .i64 0, .int .i64 0, .int .i64 0, .int .i64 0, .int .i64 0, .int .i64 0, .int .i64 0, .int .i64 0, .int .i64 0, .int .i64 0, .int .i64 0, .int .i64 0, .int .i64 0, .int .i64 0, .int .i64 0] 27)).newB hb23) (hn22.newB hb23) (by decide)
              refine wp_store_blk 23 (.tmp 7) (.tmp 36) rfl (wr.heap.size + 1) _ (arrV l) rfl rfl 23 ((hn18.alloc (.cells #[.int .i64 0, .int .i64 0, .int .i64 0, .int .i64 0, .int .i64 0, .int .i64 0, .int .i64 0, .int .i64 0, .int .i64 0, .int .i64 0, .int .i64 0, .int .i64 0, .int .i64 0, .int .i64 0, .int .i64 0, .int .i64 0] 27)).newB hb23) jl4 kl4 (arr_one _) ?_
              refine hK.out _ _ (hH.setRow hs18 _) (fun hH => ?_)
              clear hK K
              try simp only [Act.put]
              refine wpAnyH_ready (rs := [12]) (by kernel_rfl) (by simp) ?_
              refine AllReadyH.cons (o := { dst := none, op := Op.store 27 (Operand.tmp 8) (Operand.tmp 37), type := 0, pos := "law.go:103", after := _, guard := none }) rfl (fun K hK => ?_) AllReadyH.nil
              rw [if_pos (by rfl)]
              refine wp_store_blk 27 (.tmp 8) (.tmp 37) rfl (wr.heap.size + 1 + 1) _ (arrV wv) rfl rfl 27 ((hn22.newB hb23).setRowOther hab.symm) jwv kwv (arr_one _) ?_
              refine hK.out _ _ (hH.setRow hs22 _) (fun hH => ?_)
              clear hK K
              try simp only [Act.put]
              refine wpAnyH_take (i := 13) (oi := { dst := some 9, op := Op.assign (Operand.tmp 38), type := 30, pos := "law.go:103", after := _, guard := none }) (v := .int .i64 0) rfl (by kernel_rfl) (by kernel_rfl) (by kernel_rfl) (fun _ _ _ h => h) (.inl ⟨by rfl, fun w hS => by go_simp⟩) hH ?_
              try simp only [Act.put, List.setIfInBounds_toArray, List.set_cons_zero, List.set_cons_succ]
              refine wpAnyH_done (by kernel_rfl) ?_ _
              go_wp2_with fail
              go_meet
              case rel => exact ⟨wr.heap.size + 1, wr.heap.size + 1 + 1, rfl, rfl, rfl, hH, (((hn18.alloc (.cells #[.int .i64 0, .int .i64 0, .int .i64 0, .int .i64 0, .int .i64 0, .int .i64 0, .int .i64 0, .int .i64 0, .int .i64 0, .int .i64 0, .int .i64 0, .int .i64 0, .int .i64 0, .int .i64 0, .int .i64 0, .int .i64 0] 27)).newB hb23).setRow (new := arrV l)).setRowOther hab, ((hn22.newB hb23).setRowOther hab.symm).setRow⟩
            refine AllReadyH.cons (o := { dst := some 8, op := Op.alloc 27, type := 0, pos := "law.go:103", after := _, guard := none }) rfl (fun K hK => ?_) AllReadyH.nil
            rw [if_pos (by rfl)]
            go_simp
            have hz24 : (World.heap ((wr.drew.alloc (.cells (M q) 5)).alloc (.cells #[.int .i64 0, .int .i64 0, .int .i64 0, .int .i64 0] 23))).size = wr.heap.size + 1 + 1 := ((World.size_alloc _ _).trans (congrArg (· + 1) ((World.size_alloc _ _).trans (congrArg (· + 1) rfl))))
            have hn24 := blk_at #[.int .i64 0, .int .i64 0, .int .i64 0, .int .i64 0, .int .i64 0, .int .i64 0, .int .i64 0, .int .i64 0, .int .i64 0, .int .i64 0, .int .i64 0, .int .i64 0, .int .i64 0, .int .i64 0, .int .i64 0, .int .i64 0] 27 hz24
            have hs24 : B + 1 ≤ wr.heap.size + 1 + 1 := Nat.le_trans hH.size (Nat.le_of_eq hz24)
            refine hK.out _ _ (hH.alloc _) (fun hH => ?_)
            clear hK K
            try simp only [Act.put, List.setIfInBounds_toArray, List.set_cons_zero, List.set_cons_succ]
            refine wpAnyH_ready (rs := [3]) (by kernel_rfl) (by simp) ?_
            refine AllReadyH.cons (o := { dst := some 34, op := Op.convert 38 9 (Operand.tmp 33), type := 9, pos := "law.go:103", after := _, guard := none }) rfl (fun K hK => ?_) AllReadyH.nil
            rw [if_pos (by rfl)]
            have hm25 := ((hn1.alloc (.cells #[.int .i64 0, .int .i64 0, .int .i64 0, .int .i64 0] 23)).alloc (.cells #[.int .i64 0, .int .i64 0, .int .i64 0, .int .i64 0, .int .i64 0, .int .i64 0, .int .i64 0, .int .i64 0, .int .i64 0, .int .i64 0, .int .i64 0, .int .i64 0, .int .i64 0, .int .i64 0, .int .i64 0, .int .i64 0] 27))
            refine wp_convert 38 9 (.tmp 33) rfl _ rfl _ (hcv _ _ hm25) ?_
            refine hK.out _ _ hH (fun hH => ?_)
            clear hK K
            try simp only [Act.put, List.setIfInBounds_toArray, List.set_cons_zero, List.set_cons_succ]
            refine wpAnyH_ready (rs := [4]) (by kernel_rfl) (by simp) ?_
            refine AllReadyH.cons (o := { dst := some 35, op := Op.call { callee := Callee.value (Operand.func 9), args := #[Operand.tmp 31, Operand.tmp 34], argTypes := #[23, 9] }, type := 36, pos := "law.go:103", after := _, guard := none }) rfl (fun K hK => ?_) AllReadyH.nil
            rw [if_pos (by rfl)]
            go_simp
            refine (HPA.out _ hH.bands).mono ?_
            rintro e wc26 ⟨rfl, hb26⟩
            go_wp2_with fail
            refine hK.out _ _ (hH.below hb26) (fun hH => ?_)
            clear hK K
            try simp only [Act.put, List.setIfInBounds_toArray, List.set_cons_zero, List.set_cons_succ]
            refine wpAnyH_take (i := 5) (oi := { dst := some 30, op := Op.move (Operand.tmp 35), type := 36, pos := "law.go:103", after := _, guard := none }) (v := .tuple #[.agg (arrV l), .agg (arrV wv), .int .i64 0]) rfl (by kernel_rfl) (by kernel_rfl) (by kernel_rfl) (fun _ _ _ h => h) (.inl ⟨by rfl, fun w hS => by go_simp⟩) hH ?_
            try simp only [Act.put, List.setIfInBounds_toArray, List.set_cons_zero, List.set_cons_succ]
            refine wpAnyH_take (i := 6) (oi := { dst := some 36, op := Op.extract (Operand.tmp 30) 0, type := 23, pos := "law.go:103", after := _, guard := none }) (v := .agg (arrV l)) rfl (by kernel_rfl) (by kernel_rfl) (by kernel_rfl) (fun _ _ _ h => h) (.inl ⟨by rfl, fun w hS => by go_simp⟩) hH ?_
            try simp only [Act.put, List.setIfInBounds_toArray, List.set_cons_zero, List.set_cons_succ]
            refine wpAnyH_take (i := 7) (oi := { dst := some 37, op := Op.extract (Operand.tmp 30) 1, type := 27, pos := "law.go:103", after := _, guard := none }) (v := .agg (arrV wv)) rfl (by kernel_rfl) (by kernel_rfl) (by kernel_rfl) (fun _ _ _ h => h) (.inl ⟨by rfl, fun w hS => by go_simp⟩) hH ?_
            try simp only [Act.put, List.setIfInBounds_toArray, List.set_cons_zero, List.set_cons_succ]
            refine wpAnyH_take (i := 8) (oi := { dst := some 38, op := Op.extract (Operand.tmp 30) 2, type := 30, pos := "law.go:103", after := _, guard := none }) (v := .int .i64 0) rfl (by kernel_rfl) (by kernel_rfl) (by kernel_rfl) (fun _ _ _ h => h) (.inl ⟨by rfl, fun w hS => by go_simp⟩) hH ?_
            try simp only [Act.put, List.setIfInBounds_toArray, List.set_cons_zero, List.set_cons_succ]
            refine wpAnyH_ready (rs := [11]) (by kernel_rfl) (by simp) ?_
            refine AllReadyH.cons (o := { dst := none, op := Op.store 23 (Operand.tmp 7) (Operand.tmp 36), type := 0, pos := "law.go:103", after := _, guard := none }) rfl (fun K hK => ?_) AllReadyH.nil
            rw [if_pos (by rfl)]
            have hab := two_far ((hn18.alloc (.cells #[.int .i64 0, .int .i64 0, .int .i64 0, .int .i64 0, .int .i64 0, .int .i64 0, .int .i64 0, .int .i64 0, .int .i64 0, .int .i64 0, .int .i64 0, .int .i64 0, .int .i64 0, .int .i64 0, .int .i64 0, .int .i64 0] 27)).newB hb26) (hn24.newB hb26) (by decide)
            refine wp_store_blk 23 (.tmp 7) (.tmp 36) rfl (wr.heap.size + 1) _ (arrV l) rfl rfl 23 ((hn18.alloc (.cells #[.int .i64 0, .int .i64 0, .int .i64 0, .int .i64 0, .int .i64 0, .int .i64 0, .int .i64 0, .int .i64 0, .int .i64 0, .int .i64 0, .int .i64 0, .int .i64 0, .int .i64 0, .int .i64 0, .int .i64 0, .int .i64 0] 27)).newB hb26) jl4 kl4 (arr_one _) ?_
            refine hK.out _ _ (hH.setRow hs18 _) (fun hH => ?_)
            clear hK K
            try simp only [Act.put]
            refine wpAnyH_ready (rs := [12]) (by kernel_rfl) (by simp) ?_
            refine AllReadyH.cons (o := { dst := none, op := Op.store 27 (Operand.tmp 8) (Operand.tmp 37), type := 0, pos := "law.go:103", after := _, guard := none }) rfl (fun K hK => ?_) AllReadyH.nil
            rw [if_pos (by rfl)]
            refine wp_store_blk 27 (.tmp 8) (.tmp 37) rfl (wr.heap.size + 1 + 1) _ (arrV wv) rfl rfl 27 ((hn24.newB hb26).setRowOther hab.symm) jwv kwv (arr_one _) ?_
            refine hK.out _ _ (hH.setRow hs24 _) (fun hH => ?_)
            clear hK K
            try simp only [Act.put]
            refine wpAnyH_take (i := 13) (oi := { dst := some 9, op := Op.assign (Operand.tmp 38), type := 30, pos := "law.go:103", after := _, guard := none }) (v := .int .i64 0) rfl (by kernel_rfl) (by kernel_rfl) (by kernel_rfl) (fun _ _ _ h => h) (.inl ⟨by rfl, fun w hS => by go_simp⟩) hH ?_
            try simp only [Act.put, List.setIfInBounds_toArray, List.set_cons_zero, List.set_cons_succ]
            refine wpAnyH_done (by kernel_rfl) ?_ _
            go_wp2_with fail
            go_meet
            case rel => exact ⟨wr.heap.size + 1, wr.heap.size + 1 + 1, rfl, rfl, rfl, hH, (((hn18.alloc (.cells #[.int .i64 0, .int .i64 0, .int .i64 0, .int .i64 0, .int .i64 0, .int .i64 0, .int .i64 0, .int .i64 0, .int .i64 0, .int .i64 0, .int .i64 0, .int .i64 0, .int .i64 0, .int .i64 0, .int .i64 0, .int .i64 0] 27)).newB hb26).setRow (new := arrV l)).setRowOther hab, ((hn24.newB hb26).setRowOther hab.symm).setRow⟩
          refine AllReadyH.cons (o := { dst := some 8, op := Op.alloc 27, type := 0, pos := "law.go:103", after := _, guard := none }) rfl (fun K hK => ?_) AllReadyH.nil
          rw [if_pos (by rfl)]
          go_simp
          have hz27 : (World.heap (wr.drew.alloc (.cells (M q) 5))).size = wr.heap.size + 1 := ((World.size_alloc _ _).trans (congrArg (· + 1) rfl))
          have hn27 := blk_at #[.int .i64 0, .int .i64 0, .int .i64 0, .int .i64 0, .int .i64 0, .int .i64 0, .int .i64 0, .int .i64 0, .int .i64 0, .int .i64 0, .int .i64 0, .int .i64 0, .int .i64 0, .int .i64 0, .int .i64 0, .int .i64 0] 27 hz27
          have hs27 : B + 1 ≤ wr.heap.size + 1 := Nat.le_trans hH.size (Nat.le_of_eq hz27)
          refine hK.out _ _ (hH.alloc _) (fun hH => ?_)
          clear hK K
          try simp only [Act.put, List.setIfInBounds_toArray, List.set_cons_zero, List.set_cons_succ]
          refine wpAnyH_ready (rs := [3, 9]) (by kernel_rfl) (by simp) ?_
          refine AllReadyH.cons (o := { dst := some 34, op := Op.convert 38 9 (Operand.tmp 33), type := 9, pos := "law.go:103", after := _, guard := none }) rfl (fun K hK => ?_) ?_
          · rw [if_pos (by rfl)]
            have hm28 := (hn1.alloc (.cells #[.int .i64 0, .int .i64 0, .int .i64 0, .int .i64 0, .int .i64 0, .int .i64 0, .int .i64 0, .int .i64 0, .int .i64 0, .int .i64 0, .int .i64 0, .int .i64 0, .int .i64 0, .int .i64 0, .int .i64 0, .int .i64 0] 27))
            refine wp_convert 38 9 (.tmp 33) rfl _ rfl _ (hcv _ _ hm28) ?_
            refine hK.out _ _ hH (fun hH => ?_)
            clear hK K
            try simp only [Act.put, List.setIfInBounds_toArray, List.set_cons_zero, List.set_cons_succ]
            refine wpAnyH_ready (rs := [4, 9]) (by kernel_rfl) (by simp) ?_
            refine AllReadyH.cons (o := { dst := some 35, op := Op.call { callee := Callee.value (Operand.func 9), args := #[Operand.tmp 31, Operand.tmp 34], argTypes := #[23, 9] }, type := 36, pos := "law.go:103", after := _, guard := none }) rfl (fun K hK => ?_) ?_
            · rw [if_pos (by rfl)]
              go_simp
              refine (HPA.out _ hH.bands).mono ?_
              rintro e wc29 ⟨rfl, hb29⟩
              go_wp2_with fail
              refine hK.out _ _ (hH.below hb29) (fun hH => ?_)
              clear hK K
              try simp only [Act.put, List.setIfInBounds_toArray, List.set_cons_zero, List.set_cons_succ]
              refine wpAnyH_take (i := 5) (oi := { dst := some 30, op := Op.move (Operand.tmp 35), type := 36, pos := "law.go:103", after := _, guard := none }) (v := .tuple #[.agg (arrV l), .agg (arrV wv), .int .i64 0]) rfl (by kernel_rfl) (by kernel_rfl) (by kernel_rfl) (fun _ _ _ h => h) (.inl ⟨by rfl, fun w hS => by go_simp⟩) hH ?_
              try simp only [Act.put, List.setIfInBounds_toArray, List.set_cons_zero, List.set_cons_succ]
              refine wpAnyH_take (i := 6) (oi := { dst := some 36, op := Op.extract (Operand.tmp 30) 0, type := 23, pos := "law.go:103", after := _, guard := none }) (v := .agg (arrV l)) rfl (by kernel_rfl) (by kernel_rfl) (by kernel_rfl) (fun _ _ _ h => h) (.inl ⟨by rfl, fun w hS => by go_simp⟩) hH ?_
              try simp only [Act.put, List.setIfInBounds_toArray, List.set_cons_zero, List.set_cons_succ]
              refine wpAnyH_take (i := 7) (oi := { dst := some 37, op := Op.extract (Operand.tmp 30) 1, type := 27, pos := "law.go:103", after := _, guard := none }) (v := .agg (arrV wv)) rfl (by kernel_rfl) (by kernel_rfl) (by kernel_rfl) (fun _ _ _ h => h) (.inl ⟨by rfl, fun w hS => by go_simp⟩) hH ?_
              try simp only [Act.put, List.setIfInBounds_toArray, List.set_cons_zero, List.set_cons_succ]
              refine wpAnyH_take (i := 8) (oi := { dst := some 38, op := Op.extract (Operand.tmp 30) 2, type := 30, pos := "law.go:103", after := _, guard := none }) (v := .int .i64 0) rfl (by kernel_rfl) (by kernel_rfl) (by kernel_rfl) (fun _ _ _ h => h) (.inl ⟨by rfl, fun w hS => by go_simp⟩) hH ?_
              try simp only [Act.put, List.setIfInBounds_toArray, List.set_cons_zero, List.set_cons_succ]
              refine wpAnyH_ready (rs := [9]) (by kernel_rfl) (by simp) ?_
              refine AllReadyH.cons (o := { dst := some 7, op := Op.alloc 23, type := 0, pos := "law.go:103", after := _, guard := none }) rfl (fun K hK => ?_) AllReadyH.nil
              rw [if_pos (by rfl)]
              go_simp
              have hz30 : (World.heap wc29).size = wc29.heap.size := rfl
              have hn30 := blk_at #[.int .i64 0, .int .i64 0, .int .i64 0, .int .i64 0] 23 hz30
              have hs30 : B + 1 ≤ wc29.heap.size := Nat.le_trans hH.size (Nat.le_of_eq hz30)
              refine hK.out _ _ (hH.alloc _) (fun hH => ?_)
              clear hK K
              try simp only [Act.put, List.setIfInBounds_toArray, List.set_cons_zero, List.set_cons_succ]
              refine wpAnyH_ready (rs := [11]) (by kernel_rfl) (by simp) ?_
              refine AllReadyH.cons (o := { dst := none, op := Op.store 23 (Operand.tmp 7) (Operand.tmp 36), type := 0, pos := "law.go:103", after := _, guard := none }) rfl (fun K hK => ?_) AllReadyH.nil
              rw [if_pos (by rfl)]
              have hab := two_far hn30 ((hn27.newB hb29).alloc (.cells #[.int .i64 0, .int .i64 0, .int .i64 0, .int .i64 0] 23)) (by decide)
              refine wp_store_blk 23 (.tmp 7) (.tmp 36) rfl (wc29.heap.size) _ (arrV l) rfl rfl 23 hn30 jl4 kl4 (arr_one _) ?_
              refine hK.out _ _ (hH.setRow hs30 _) (fun hH => ?_)
              clear hK K
              try simp only [Act.put]
              refine wpAnyH_ready (rs := [12]) (by kernel_rfl) (by simp) ?_
              refine AllReadyH.cons (o := { dst := none, op := Op.store 27 (Operand.tmp 8) (Operand.tmp 37), type := 0, pos := "law.go:103", after := _, guard := none }) rfl (fun K hK => ?_) AllReadyH.nil
              rw [if_pos (by rfl)]
              refine wp_store_blk 27 (.tmp 8) (.tmp 37) rfl (wr.heap.size + 1) _ (arrV wv) rfl rfl 27 (((hn27.newB hb29).alloc (.cells #[.int .i64 0, .int .i64 0, .int .i64 0, .int .i64 0] 23)).setRowOther hab.symm) jwv kwv (arr_one _) ?_
              refine hK.out _ _ (hH.setRow hs27 _) (fun hH => ?_)
              clear hK K
              try simp only [Act.put]
              refine wpAnyH_take (i := 13) (oi := { dst := some 9, op := Op.assign (Operand.tmp 38), type := 30, pos := "law.go:103", after := _, guard := none }) (v := .int .i64 0) rfl (by kernel_rfl) (by kernel_rfl) (by kernel_rfl) (fun _ _ _ h => h) (.inl ⟨by rfl, fun w hS => by go_simp⟩) hH ?_
              try simp only [Act.put, List.setIfInBounds_toArray, List.set_cons_zero, List.set_cons_succ]
              refine wpAnyH_done (by kernel_rfl) ?_ _
              go_wp2_with fail
              go_meet
              case rel => exact ⟨wc29.heap.size, wr.heap.size + 1, rfl, rfl, rfl, hH, (hn30.setRow (new := arrV l)).setRowOther hab, (((hn27.newB hb29).alloc (.cells #[.int .i64 0, .int .i64 0, .int .i64 0, .int .i64 0] 23)).setRowOther hab.symm).setRow⟩
            refine AllReadyH.cons (o := { dst := some 7, op := Op.alloc 23, type := 0, pos := "law.go:103", after := _, guard := none }) rfl (fun K hK => ?_) AllReadyH.nil
            rw [if_pos (by rfl)]
            go_simp
            have hz31 : (World.heap ((wr.drew.alloc (.cells (M q) 5)).alloc (.cells #[.int .i64 0, .int .i64 0, .int .i64 0, .int .i64 0, .int .i64 0, .int .i64 0, .int .i64 0, .int .i64 0, .int .i64 0, .int .i64 0, .int .i64 0, .int .i64 0, .int .i64 0, .int .i64 0, .int .i64 0, .int .i64 0] 27))).size = wr.heap.size + 1 + 1 := ((World.size_alloc _ _).trans (congrArg (· + 1) ((World.size_alloc _ _).trans (congrArg (· + 1) rfl))))
            have hn31 := blk_at #[.int .i64 0, .int .i64 0, .int .i64 0, .int .i64 0] 23 hz31
            have hs31 : B + 1 ≤ wr.heap.size + 1 + 1 := Nat.le_trans hH.size (Nat.le_of_eq hz31)
            refine hK.out _ _ (hH.alloc _) (fun hH => ?_)
            clear hK K
            try simp only [Act.put, List.setIfInBounds_toArray, List.set_cons_zero, List.set_cons_succ]
            refine wpAnyH_ready (rs := [4]) (by kernel_rfl) (by simp) ?_
            refine AllReadyH.cons (o := { dst := some 35, op := Op.call { callee := Callee.value (Operand.func 9), args := #[Operand.tmp 31, Operand.tmp 34], argTypes := #[23, 9] }, type := 36, pos := "law.go:103", after := _, guard := none }) rfl (fun K hK => ?_) AllReadyH.nil
            rw [if_pos (by rfl)]
            go_simp
            refine (HPA.out _ hH.bands).mono ?_
            rintro e wc32 ⟨rfl, hb32⟩
            go_wp2_with fail
            refine hK.out _ _ (hH.below hb32) (fun hH => ?_)
            clear hK K
            try simp only [Act.put, List.setIfInBounds_toArray, List.set_cons_zero, List.set_cons_succ]
            refine wpAnyH_take (i := 5) (oi := { dst := some 30, op := Op.move (Operand.tmp 35), type := 36, pos := "law.go:103", after := _, guard := none }) (v := .tuple #[.agg (arrV l), .agg (arrV wv), .int .i64 0]) rfl (by kernel_rfl) (by kernel_rfl) (by kernel_rfl) (fun _ _ _ h => h) (.inl ⟨by rfl, fun w hS => by go_simp⟩) hH ?_
            try simp only [Act.put, List.setIfInBounds_toArray, List.set_cons_zero, List.set_cons_succ]
            refine wpAnyH_take (i := 6) (oi := { dst := some 36, op := Op.extract (Operand.tmp 30) 0, type := 23, pos := "law.go:103", after := _, guard := none }) (v := .agg (arrV l)) rfl (by kernel_rfl) (by kernel_rfl) (by kernel_rfl) (fun _ _ _ h => h) (.inl ⟨by rfl, fun w hS => by go_simp⟩) hH ?_
            try simp only [Act.put, List.setIfInBounds_toArray, List.set_cons_zero, List.set_cons_succ]
            refine wpAnyH_take (i := 7) (oi := { dst := some 37, op := Op.extract (Operand.tmp 30) 1, type := 27, pos := "law.go:103", after := _, guard := none }) (v := .agg (arrV wv)) rfl (by kernel_rfl) (by kernel_rfl) (by kernel_rfl) (fun _ _ _ h => h) (.inl ⟨by rfl, fun w hS => by go_simp⟩) hH ?_
            try simp only [Act.put, List.setIfInBounds_toArray, List.set_cons_zero, List.set_cons_succ]
            refine wpAnyH_take (i := 8) (oi := { dst := some 38, op := Op.extract (Operand.tmp 30) 2, type := 30, pos := "law.go:103", after := _, guard := none }) (v := .int .i64 0) rfl (by kernel_rfl) (by kernel_rfl) (by kernel_rfl) (fun _ _ _ h => h) (.inl ⟨by rfl, fun w hS => by go_simp⟩) hH ?_
            try simp only [Act.put, List.setIfInBounds_toArray, List.set_cons_zero, List.set_cons_succ]
            refine wpAnyH_ready (rs := [11]) (by kernel_rfl) (by simp) ?_
            refine AllReadyH.cons (o := { dst := none, op := Op.store 23 (Operand.tmp 7) (Operand.tmp 36), type := 0, pos := "law.go:103", after := _, guard := none }) rfl (fun K hK => ?_) AllReadyH.nil
            rw [if_pos (by rfl)]
            have hab := two_far (hn31.newB hb32) ((hn27.alloc (.cells #[.int .i64 0, .int .i64 0, .int .i64 0, .int .i64 0] 23)).newB hb32) (by decide)
            refine wp_store_blk 23 (.tmp 7) (.tmp 36) rfl (wr.heap.size + 1 + 1) _ (arrV l) rfl rfl 23 (hn31.newB hb32) jl4 kl4 (arr_one _) ?_
            refine hK.out _ _ (hH.setRow hs31 _) (fun hH => ?_)
            clear hK K
            try simp only [Act.put]
            refine wpAnyH_ready (rs := [12]) (by kernel_rfl) (by simp) ?_
            refine AllReadyH.cons (o := { dst := none, op := Op.store 27 (Operand.tmp 8) (Operand.tmp 37), type := 0, pos := "law.go:103", after := _, guard := none }) rfl (fun K hK => ?_) AllReadyH.nil
            rw [if_pos (by rfl)]
            refine wp_store_blk 27 (.tmp 8) (.tmp 37) rfl (wr.heap.size + 1) _ (arrV wv) rfl rfl 27 (((hn27.alloc (.cells #[.int .i64 0, .int .i64 0, .int .i64 0, .int .i64 0] 23)).newB hb32).setRowOther hab.symm) jwv kwv (arr_one _) ?_
            refine hK.out _ _ (hH.setRow hs27 _) (fun hH => ?_)
            clear hK K
            try simp only [Act.put]
            refine wpAnyH_take (i := 13) (oi := { dst := some 9, op := Op.assign (Operand.tmp 38), type := 30, pos := "law.go:103", after := _, guard := none }) (v := .int .i64 0) rfl (by kernel_rfl) (by kernel_rfl) (by kernel_rfl) (fun _ _ _ h => h) (.inl ⟨by rfl, fun w hS => by go_simp⟩) hH ?_
            try simp only [Act.put, List.setIfInBounds_toArray, List.set_cons_zero, List.set_cons_succ]
            refine wpAnyH_done (by kernel_rfl) ?_ _
            go_wp2_with fail
            go_meet
            case rel => exact ⟨wr.heap.size + 1 + 1, wr.heap.size + 1, rfl, rfl, rfl, hH, ((hn31.newB hb32).setRow (new := arrV l)).setRowOther hab, (((hn27.alloc (.cells #[.int .i64 0, .int .i64 0, .int .i64 0, .int .i64 0] 23)).newB hb32).setRowOther hab.symm).setRow⟩
          refine AllReadyH.cons (o := { dst := some 7, op := Op.alloc 23, type := 0, pos := "law.go:103", after := _, guard := none }) rfl (fun K hK => ?_) AllReadyH.nil
          rw [if_pos (by rfl)]
          go_simp
          have hz33 : (World.heap ((wr.drew.alloc (.cells (M q) 5)).alloc (.cells #[.int .i64 0, .int .i64 0, .int .i64 0, .int .i64 0, .int .i64 0, .int .i64 0, .int .i64 0, .int .i64 0, .int .i64 0, .int .i64 0, .int .i64 0, .int .i64 0, .int .i64 0, .int .i64 0, .int .i64 0, .int .i64 0] 27))).size = wr.heap.size + 1 + 1 := ((World.size_alloc _ _).trans (congrArg (· + 1) ((World.size_alloc _ _).trans (congrArg (· + 1) rfl))))
          have hn33 := blk_at #[.int .i64 0, .int .i64 0, .int .i64 0, .int .i64 0] 23 hz33
          have hs33 : B + 1 ≤ wr.heap.size + 1 + 1 := Nat.le_trans hH.size (Nat.le_of_eq hz33)
          refine hK.out _ _ (hH.alloc _) (fun hH => ?_)
          clear hK K
          try simp only [Act.put, List.setIfInBounds_toArray, List.set_cons_zero, List.set_cons_succ]
          refine wpAnyH_ready (rs := [3]) (by kernel_rfl) (by simp) ?_
          refine AllReadyH.cons (o := { dst := some 34, op := Op.convert 38 9 (Operand.tmp 33), type := 9, pos := "law.go:103", after := _, guard := none }) rfl (fun K hK => ?_) AllReadyH.nil
          rw [if_pos (by rfl)]
          have hm34 := ((hn1.alloc (.cells #[.int .i64 0, .int .i64 0, .int .i64 0, .int .i64 0, .int .i64 0, .int .i64 0, .int .i64 0, .int .i64 0, .int .i64 0, .int .i64 0, .int .i64 0, .int .i64 0, .int .i64 0, .int .i64 0, .int .i64 0, .int .i64 0] 27)).alloc (.cells #[.int .i64 0, .int .i64 0, .int .i64 0, .int .i64 0] 23))
          refine wp_convert 38 9 (.tmp 33) rfl _ rfl _ (hcv _ _ hm34) ?_
          refine hK.out _ _ hH (fun hH => ?_)
          clear hK K
          try simp only [Act.put, List.setIfInBounds_toArray, List.set_cons_zero, List.set_cons_succ]
          refine wpAnyH_ready (rs := [4]) (by kernel_rfl) (by simp) ?_
          refine AllReadyH.cons (o := { dst := some 35, op := Op.call { callee := Callee.value (Operand.func 9), args := #[Operand.tmp 31, Operand.tmp 34], argTypes := #[23, 9] }, type := 36, pos := "law.go:103", after := _, guard := none }) rfl (fun K hK => ?_) AllReadyH.nil
          rw [if_pos (by rfl)]
          go_simp
          refine (HPA.out _ hH.bands).mono ?_
          rintro e wc35 ⟨rfl, hb35⟩
          go_wp2_with fail
          refine hK.out _ _ (hH.below hb35) (fun hH => ?_)
          clear hK K
          try simp only [Act.put, List.setIfInBounds_toArray, List.set_cons_zero, List.set_cons_succ]
          refine wpAnyH_take (i := 5) (oi := { dst := some 30, op := Op.move (Operand.tmp 35), type := 36, pos := "law.go:103", after := _, guard := none }) (v := .tuple #[.agg (arrV l), .agg (arrV wv), .int .i64 0]) rfl (by kernel_rfl) (by kernel_rfl) (by kernel_rfl) (fun _ _ _ h => h) (.inl ⟨by rfl, fun w hS => by go_simp⟩) hH ?_
          try simp only [Act.put, List.setIfInBounds_toArray, List.set_cons_zero, List.set_cons_succ]
          refine wpAnyH_take (i := 6) (oi := { dst := some 36, op := Op.extract (Operand.tmp 30) 0, type := 23, pos := "law.go:103", after := _, guard := none }) (v := .agg (arrV l)) rfl (by kernel_rfl) (by kernel_rfl) (by kernel_rfl) (fun _ _ _ h => h) (.inl ⟨by rfl, fun w hS => by go_simp⟩) hH ?_
          try simp only [Act.put, List.setIfInBounds_toArray, List.set_cons_zero, List.set_cons_succ]
          refine wpAnyH_take (i := 7) (oi := { dst := some 37, op := Op.extract (Operand.tmp 30) 1, type := 27, pos := "law.go:103", after := _, guard := none }) (v := .agg (arrV wv)) rfl (by kernel_rfl) (by kernel_rfl) (by kernel_rfl) (fun _ _ _ h => h) (.inl ⟨by rfl, fun w hS => by go_simp⟩) hH ?_
          try simp only [Act.put, List.setIfInBounds_toArray, List.set_cons_zero, List.set_cons_succ]
          refine wpAnyH_take (i := 8) (oi := { dst := some 38, op := Op.extract (Operand.tmp 30) 2, type := 30, pos := "law.go:103", after := _, guard := none }) (v := .int .i64 0) rfl (by kernel_rfl) (by kernel_rfl) (by kernel_rfl) (fun _ _ _ h => h) (.inl ⟨by rfl, fun w hS => by go_simp⟩) hH ?_
          try simp only [Act.put, List.setIfInBounds_toArray, List.set_cons_zero, List.set_cons_succ]
          refine wpAnyH_ready (rs := [11]) (by kernel_rfl) (by simp) ?_
          refine AllReadyH.cons (o := { dst := none, op := Op.store 23 (Operand.tmp 7) (Operand.tmp 36), type := 0, pos := "law.go:103", after := _, guard := none }) rfl (fun K hK => ?_) AllReadyH.nil
          rw [if_pos (by rfl)]
          have hab := two_far (hn33.newB hb35) ((hn27.alloc (.cells #[.int .i64 0, .int .i64 0, .int .i64 0, .int .i64 0] 23)).newB hb35) (by decide)
          refine wp_store_blk 23 (.tmp 7) (.tmp 36) rfl (wr.heap.size + 1 + 1) _ (arrV l) rfl rfl 23 (hn33.newB hb35) jl4 kl4 (arr_one _) ?_
          refine hK.out _ _ (hH.setRow hs33 _) (fun hH => ?_)
          clear hK K
          try simp only [Act.put]
          refine wpAnyH_ready (rs := [12]) (by kernel_rfl) (by simp) ?_
          refine AllReadyH.cons (o := { dst := none, op := Op.store 27 (Operand.tmp 8) (Operand.tmp 37), type := 0, pos := "law.go:103", after := _, guard := none }) rfl (fun K hK => ?_) AllReadyH.nil
          rw [if_pos (by rfl)]
          refine wp_store_blk 27 (.tmp 8) (.tmp 37) rfl (wr.heap.size + 1) _ (arrV wv) rfl rfl 27 (((hn27.alloc (.cells #[.int .i64 0, .int .i64 0, .int .i64 0, .int .i64 0] 23)).newB hb35).setRowOther hab.symm) jwv kwv (arr_one _) ?_
          refine hK.out _ _ (hH.setRow hs27 _) (fun hH => ?_)
          clear hK K
          try simp only [Act.put]
          refine wpAnyH_take (i := 13) (oi := { dst := some 9, op := Op.assign (Operand.tmp 38), type := 30, pos := "law.go:103", after := _, guard := none }) (v := .int .i64 0) rfl (by kernel_rfl) (by kernel_rfl) (by kernel_rfl) (fun _ _ _ h => h) (.inl ⟨by rfl, fun w hS => by go_simp⟩) hH ?_
          try simp only [Act.put, List.setIfInBounds_toArray, List.set_cons_zero, List.set_cons_succ]
          refine wpAnyH_done (by kernel_rfl) ?_ _
          go_wp2_with fail
          go_meet
          case rel => exact ⟨wr.heap.size + 1 + 1, wr.heap.size + 1, rfl, rfl, rfl, hH, ((hn33.newB hb35).setRow (new := arrV l)).setRowOther hab, (((hn27.alloc (.cells #[.int .i64 0, .int .i64 0, .int .i64 0, .int .i64 0] 23)).newB hb35).setRowOther hab.symm).setRow⟩
        refine AllReadyH.cons (o := { dst := some 7, op := Op.alloc 23, type := 0, pos := "law.go:103", after := _, guard := none }) rfl (fun K hK => ?_) ?_
        · rw [if_pos (by rfl)]
          go_simp
          have hz36 : (World.heap wr.drew).size = wr.heap.size := rfl
          have hn36 := blk_at #[.int .i64 0, .int .i64 0, .int .i64 0, .int .i64 0] 23 hz36
          have hs36 : B + 1 ≤ wr.heap.size := Nat.le_trans hH.size (Nat.le_of_eq hz36)
          refine hK.out _ _ (hH.alloc _) (fun hH => ?_)
          clear hK K
          try simp only [Act.put, List.setIfInBounds_toArray, List.set_cons_zero, List.set_cons_succ]
          refine wpAnyH_ready (rs := [2, 10]) (by kernel_rfl) (by simp) ?_
          refine AllReadyH.cons (o := { dst := some 33, op := Op.makeSlice 38 (Operand.tmp 32) (Operand.tmp 32), type := 38, pos := "law.go:103", after := _, guard := none }) rfl (fun K hK => ?_) ?_
          · rw [if_pos (by rfl)]
            go_simp
            have hz37 : (World.heap (wr.drew.alloc (.cells #[.int .i64 0, .int .i64 0, .int .i64 0, .int .i64 0] 23))).size = wr.heap.size + 1 := ((World.size_alloc _ _).trans (congrArg (· + 1) rfl))
            have hn37 := blk_at (M q) 5 hz37
            have hs37 : B + 1 ≤ wr.heap.size + 1 := Nat.le_trans hH.size (Nat.le_of_eq hz37)
            refine hK.out _ _ (hH.alloc _) (fun hH => ?_)
            clear hK K
            try simp only [Act.put, List.setIfInBounds_toArray, List.set_cons_zero, List.set_cons_succ]
            refine wpAnyH_ready (rs := [3, 10]) (by kernel_rfl) (by simp) ?_
            refine AllReadyH.cons (o := { dst := some 34, op := Op.convert 38 9 (Operand.tmp 33), type := 9, pos := "law.go:103", after := _, guard := none }) rfl (fun K hK => ?_) ?_
            · rw [if_pos (by rfl)]
              have hm38 := hn37
              refine wp_convert 38 9 (.tmp 33) rfl _ rfl _ (hcv _ _ hm38) ?_
              refine hK.out _ _ hH (fun hH => ?_)
              clear hK K
              try simp only [Act.put, List.setIfInBounds_toArray, List.set_cons_zero, List.set_cons_succ]
              refine wpAnyH_ready (rs := [4, 10]) (by kernel_rfl) (by simp) ?_
              refine AllReadyH.cons (o := { dst := some 35, op := Op.call { callee := Callee.value (Operand.func 9), args := #[Operand.tmp 31, Operand.tmp 34], argTypes := #[23, 9] }, type := 36, pos := "law.go:103", after := _, guard := none }) rfl (fun K hK => ?_) ?_
              · rw [if_pos (by rfl)]
                go_simp
                refine (HPA.out _ hH.bands).mono ?_
                rintro e wc39 ⟨rfl, hb39⟩
                go_wp2_with fail
                refine hK.out _ _ (hH.below hb39) (fun hH => ?_)
                clear hK K
                try simp only [Act.put, List.setIfInBounds_toArray, List.set_cons_zero, List.set_cons_succ]
                refine wpAnyH_take (i := 5) (oi := { dst := some 30, op := Op.move (Operand.tmp 35), type := 36, pos := "law.go:103", after := _, guard := none }) (v := .tuple #[.agg (arrV l), .agg (arrV wv), .int .i64 0]) rfl (by kernel_rfl) (by kernel_rfl) (by kernel_rfl) (fun _ _ _ h => h) (.inl ⟨by rfl, fun w hS => by go_simp⟩) hH ?_
                try simp only [Act.put, List.setIfInBounds_toArray, List.set_cons_zero, List.set_cons_succ]
                refine wpAnyH_take (i := 6) (oi := { dst := some 36, op := Op.extract (Operand.tmp 30) 0, type := 23, pos := "law.go:103", after := _, guard := none }) (v := .agg (arrV l)) rfl (by kernel_rfl) (by kernel_rfl) (by kernel_rfl) (fun _ _ _ h => h) (.inl ⟨by rfl, fun w hS => by go_simp⟩) hH ?_
                try simp only [Act.put, List.setIfInBounds_toArray, List.set_cons_zero, List.set_cons_succ]
                refine wpAnyH_take (i := 7) (oi := { dst := some 37, op := Op.extract (Operand.tmp 30) 1, type := 27, pos := "law.go:103", after := _, guard := none }) (v := .agg (arrV wv)) rfl (by kernel_rfl) (by kernel_rfl) (by kernel_rfl) (fun _ _ _ h => h) (.inl ⟨by rfl, fun w hS => by go_simp⟩) hH ?_
                try simp only [Act.put, List.setIfInBounds_toArray, List.set_cons_zero, List.set_cons_succ]
                refine wpAnyH_take (i := 8) (oi := { dst := some 38, op := Op.extract (Operand.tmp 30) 2, type := 30, pos := "law.go:103", after := _, guard := none }) (v := .int .i64 0) rfl (by kernel_rfl) (by kernel_rfl) (by kernel_rfl) (fun _ _ _ h => h) (.inl ⟨by rfl, fun w hS => by go_simp⟩) hH ?_
                try simp only [Act.put, List.setIfInBounds_toArray, List.set_cons_zero, List.set_cons_succ]
                refine wpAnyH_ready (rs := [10]) (by kernel_rfl) (by simp) ?_
                refine AllReadyH.cons (o := { dst := some 8, op := Op.alloc 27, type := 0, pos := "law.go:103", after := _, guard := none }) rfl (fun K hK => ?_) AllReadyH.nil
                rw [if_pos (by rfl)]
                go_simp
                have hz40 : (World.heap wc39).size = wc39.heap.size := rfl
                have hn40 := blk_at #[.int .i64 0, .int .i64 0, .int .i64 0, .int .i64 0, .int .i64 0, .int .i64 0, .int .i64 0, .int .i64 0, .int .i64 0, .int .i64 0, .int .i64 0, .int .i64 0, .int .i64 0, .int .i64 0, .int .i64 0, .int .i64 0] 27 hz40
                have hs40 : B + 1 ≤ wc39.heap.size := Nat.le_trans hH.size (Nat.le_of_eq hz40)
                refine hK.out _ _ (hH.alloc _) (fun hH => ?_)
                clear hK K
                try simp only [Act.put, List.setIfInBounds_toArray, List.set_cons_zero, List.set_cons_succ]
                refine wpAnyH_ready (rs := [11]) (by kernel_rfl) (by simp) ?_
                refine AllReadyH.cons (o := { dst := none, op := Op.store 23 (Operand.tmp 7) (Operand.tmp 36), type := 0, pos := "law.go:103", after := _, guard := none }) rfl (fun K hK => ?_) AllReadyH.nil
                rw [if_pos (by rfl)]
                have hab := two_far (((hn36.alloc (.cells (M q) 5)).newB hb39).alloc (.cells #[.int .i64 0, .int .i64 0, .int .i64 0, .int .i64 0, .int .i64 0, .int .i64 0, .int .i64 0, .int .i64 0, .int .i64 0, .int .i64 0, .int .i64 0, .int .i64 0, .int .i64 0, .int .i64 0, .int .i64 0, .int .i64 0] 27)) hn40 (by decide)
                refine wp_store_blk 23 (.tmp 7) (.tmp 36) rfl (wr.heap.size) _ (arrV l) rfl rfl 23 (((hn36.alloc (.cells (M q) 5)).newB hb39).alloc (.cells #[.int .i64 0, .int .i64 0, .int .i64 0, .int .i64 0, .int .i64 0, .int .i64 0, .int .i64 0, .int .i64 0, .int .i64 0, .int .i64 0, .int .i64 0, .int .i64 0, .int .i64 0, .int .i64 0, .int .i64 0, .int .i64 0] 27)) jl4 kl4 (arr_one _) ?_
                refine hK.out _ _ (hH.setRow hs36 _) (fun hH => ?_)
                clear hK K
                try simp only [Act.put]
                refine wpAnyH_ready (rs := [12]) (by kernel_rfl) (by simp) ?_
                refine AllReadyH.cons (o := { dst := none, op := Op.store 27 (Operand.tmp 8) (Operand.tmp 37), type := 0, pos := "law.go:103", after := _, guard := none }) rfl (fun K hK => ?_) AllReadyH.nil
                rw [if_pos (by rfl)]
                refine wp_store_blk 27 (.tmp 8) (.tmp 37) rfl (wc39.heap.size) _ (arrV wv) rfl rfl 27 (hn40.setRowOther hab.symm) jwv kwv (arr_one _) ?_
                refine hK.out _ _ (hH.setRow hs40 _) (fun hH => ?_)
                clear hK K
                try simp only [Act.put]
                refine wpAnyH_take (i := 13) (oi := { dst := some 9, op := Op.assign (Operand.tmp 38), type := 30, pos := "law.go:103", after := _, guard := none }) (v := .int .i64 0) rfl (by kernel_rfl) (by kernel_rfl) (by kernel_rfl) (fun _ _ _ h => h) (.inl ⟨by rfl, fun w hS => by go_simp⟩) hH ?_
                try simp only [Act.put, List.setIfInBounds_toArray, List.set_cons_zero, List.set_cons_succ]
                refine wpAnyH_done (by kernel_rfl) ?_ _
                go_wp2_with fail
                go_meet
                case rel => exact ⟨wr.heap.size, wc39.heap.size, rfl, rfl, rfl, hH, ((((hn36.alloc (.cells (M q) 5)).newB hb39).alloc (.cells #[.int .i64 0, .int .i64 0, .int .i64 0, .int .i64 0, .int .i64 0, .int .i64 0, .int .i64 0, .int .i64 0, .int .i64 0, .int .i64 0, .int .i64 0, .int .i64 0, .int .i64 0, .int .i64 0, .int .i64 0, .int .i64 0] 27)).setRow (new := arrV l)).setRowOther hab, (hn40.setRowOther hab.symm).setRow⟩
              refine AllReadyH.cons (o := { dst := some 8, op := Op.alloc 27, type := 0, pos := "law.go:103", after := _, guard := none }) rfl (fun K hK => ?_) AllReadyH.nil
              rw [if_pos (by rfl)]
              go_simp
              have hz41 : (World.heap ((wr.drew.alloc (.cells #[.int .i64 0, .int .i64 0, .int .i64 0, .int .i64 0] 23)).alloc (.cells (M q) 5))).size = wr.heap.size + 1 + 1 := ((World.size_alloc _ _).trans (congrArg (· + 1) ((World.size_alloc _ _).trans (congrArg (· + 1) rfl))))
              have hn41 := blk_at #[.int .i64 0, .int .i64 0, .int .i64 0, .int .i64 0, .int .i64 0, .int .i64 0, .int .i64 0, .int .i64 0, .int .i64 0, .int .i64 0, .int .i64 0, .int .i64 0, .int .i64 0, .int .i64 0, .int .i64 0, .int .i64 0] 27 hz41
              have hs41 : B + 1 ≤ wr.heap.size + 1 + 1 := Nat.le_trans hH.size (Nat.le_of_eq hz41)
              refine hK.out _ _ (hH.alloc _) (fun hH => ?_)
              clear hK K
              try simp only [Act.put, List.setIfInBounds_toArray, List.set_cons_zero, List.set_cons_succ]
              refine wpAnyH_ready (rs := [4]) (by kernel_rfl) (by simp) ?_
              refine AllReadyH.cons (o := { dst := some 35, op := Op.call { callee := Callee.value (Operand.func 9), args := #[Operand.tmp 31, Operand.tmp 34], argTypes := #[23, 9] }, type := 36, pos := "law.go:103", after := _, guard := none }) rfl (fun K hK => ?_) AllReadyH.nil
              rw [if_pos (by rfl)]
              go_simp
              refine (HPA.out _ hH.bands).mono ?_
              rintro e wc42 ⟨rfl, hb42⟩
              go_wp2_with fail
              refine hK.out _ _ (hH.below hb42) (fun hH => ?_)
              clear hK K
              try simp only [Act.put, List.setIfInBounds_toArray, List.set_cons_zero, List.set_cons_succ]
              refine wpAnyH_take (i := 5) (oi := { dst := some 30, op := Op.move (Operand.tmp 35), type := 36, pos := "law.go:103", after := _, guard := none }) (v := .tuple #[.agg (arrV l), .agg (arrV wv), .int .i64 0]) rfl (by kernel_rfl) (by kernel_rfl) (by kernel_rfl) (fun _ _ _ h => h) (.inl ⟨by rfl, fun w hS => by go_simp⟩) hH ?_
              try simp only [Act.put, List.setIfInBounds_toArray, List.set_cons_zero, List.set_cons_succ]
              refine wpAnyH_take (i := 6) (oi := { dst := some 36, op := Op.extract (Operand.tmp 30) 0, type := 23, pos := "law.go:103", after := _, guard := none }) (v := .agg (arrV l)) rfl (by kernel_rfl) (by kernel_rfl) (by kernel_rfl) (fun _ _ _ h => h) (.inl ⟨by rfl, fun w hS => by go_simp⟩) hH ?_
              try simp only [Act.put, List.setIfInBounds_toArray, List.set_cons_zero, List.set_cons_succ]
              refine wpAnyH_take (i := 7) (oi := { dst := some 37, op := Op.extract (Operand.tmp 30) 1, type := 27, pos := "law.go:103", after := _, guard := none }) (v := .agg (arrV wv)) rfl (by kernel_rfl) (by kernel_rfl) (by kernel_rfl) (fun _ _ _ h => h) (.inl ⟨by rfl, fun w hS => by go_simp⟩) hH ?_
              try simp only [Act.put, List.setIfInBounds_toArray, List.set_cons_zero, List.set_cons_succ]
              refine wpAnyH_take (i := 8) (oi := { dst := some 38, op := Op.extract (Operand.tmp 30) 2, type := 30, pos := "law.go:103", after := _, guard := none }) (v := .int .i64 0) rfl (by kernel_rfl) (by kernel_rfl) (by kernel_rfl) (fun _ _ _ h => h) (.inl ⟨by rfl, fun w hS => by go_simp⟩) hH ?_
              try simp only [Act.put, List.setIfInBounds_toArray, List.set_cons_zero, List.set_cons_succ]
              refine wpAnyH_ready (rs := [11]) (by kernel_rfl) (by simp) ?_
              refine AllReadyH.cons (o := { dst := none, op := Op.store 23 (Operand.tmp 7) (Operand.tmp 36), type := 0, pos := "law.go:103", after := _, guard := none }) rfl (fun K hK => ?_) AllReadyH.nil
              rw [if_pos (by rfl)]
              have hab := two_far (((hn36.alloc (.cells (M q) 5)).alloc (.cells #[.int .i64 0, .int .i64 0, .int .i64 0, .int .i64 0, .int .i64 0, .int .i64 0, .int .i64 0, .int .i64 0, .int .i64 0, .int .i64 0, .int .i64 0, .int .i64 0, .int .i64 0, .int .i64 0, .int .i64 0, .int .i64 0] 27)).newB hb42) (hn41.newB hb42) (by decide)
              refine wp_store_blk 23 (.tmp 7) (.tmp 36) rfl (wr.heap.size) _ (arrV l) rfl rfl 23 (((hn36.alloc (.cells (M q) 5)).alloc (.cells #[.int .i64 0, .int .i64 0, .int .i64 0, .int .i64 0, .int .i64 0, .int .i64 0, .int .i64 0, .int .i64 0, .int .i64 0, .int .i64 0, .int .i64 0, .int .i64 0, .int .i64 0, .int .i64 0, .int .i64 0, .int .i64 0] 27)).newB hb42) jl4 kl4 (arr_one _) ?_
              refine hK.out _ _ (hH.setRow hs36 _) (fun hH => ?_)
              clear hK K
              try simp only [Act.put]
              refine wpAnyH_ready (rs := [12]) (by kernel_rfl) (by simp) ?_
              refine AllReadyH.cons (o := { dst := none, op := Op.store 27 (Operand.tmp 8) (Operand.tmp 37), type := 0, pos := "law.go:103", after := _, guard := none }) rfl (fun K hK => ?_) AllReadyH.nil
              rw [if_pos (by rfl)]
              refine wp_store_blk 27 (.tmp 8) (.tmp 37) rfl (wr.heap.size + 1 + 1) _ (arrV wv) rfl rfl 27 ((hn41.newB hb42).setRowOther hab.symm) jwv kwv (arr_one _) ?_
              refine hK.out _ _ (hH.setRow hs41 _) (fun hH => ?_)
              clear hK K
              try simp only [Act.put]
              refine wpAnyH_take (i := 13) (oi := { dst := some 9, op := Op.assign (Operand.tmp 38), type := 30, pos := "law.go:103", after := _, guard := none }) (v := .int .i64 0) rfl (by kernel_rfl) (by kernel_rfl) (by kernel_rfl) (fun _ _ _ h => h) (.inl ⟨by rfl, fun w hS => by go_simp⟩) hH ?_
              try simp only [Act.put, List.setIfInBounds_toArray, List.set_cons_zero, List.set_cons_succ]
              refine wpAnyH_done (by kernel_rfl) ?_ _
              go_wp2_with fail
              go_meet
              case rel => exact ⟨wr.heap.size, wr.heap.size + 1 + 1, rfl, rfl, rfl, hH, ((((hn36.alloc (.cells (M q) 5)).alloc (.cells #[.int .i64 0, .int .i64 0, .int .i64 0, .int .i64 0, .int .i64 0, .int .i64 0, .int .i64 0, .int .i64 0, .int .i64 0, .int .i64 0, .int .i64 0, .int .i64 0, .int .i64 0, .int .i64 0, .int .i64 0, .int .i64 0] 27)).newB hb42).setRow (new := arrV l)).setRowOther hab, ((hn41.newB hb42).setRowOther hab.symm).setRow⟩
            refine AllReadyH.cons (o := { dst := some 8, op := Op.alloc 27, type := 0, pos := "law.go:103", after := _, guard := none }) rfl (fun K hK => ?_) AllReadyH.nil
            rw [if_pos (by rfl)]
            go_simp
            have hz43 : (World.heap ((wr.drew.alloc (.cells #[.int .i64 0, .int .i64 0, .int .i64 0, .int .i64 0] 23)).alloc (.cells (M q) 5))).size = wr.heap.size + 1 + 1 := ((World.size_alloc _ _).trans (congrArg (· + 1) ((World.size_alloc _ _).trans (congrArg (· + 1) rfl))))
            have hn43 := blk_at #[.int .i64 0, .int .i64 0, .int .i64 0, .int .i64 0, .int .i64 0, .int .i64 0, .int .i64 0, .int .i64 0, .int .i64 0, .int .i64 0, .int .i64 0, .int .i64 0, .int .i64 0, .int .i64 0, .int .i64 0, .int .i64 0] 27 hz43
            have hs43 : B + 1 ≤ wr.heap.size + 1 + 1 := Nat.le_trans hH.size (Nat.le_of_eq hz43)
            refine hK.out _ _ (hH.alloc _) (fun hH => ?_)
            clear hK K
            try simp only [Act.put, List.setIfInBounds_toArray, List.set_cons_zero, List.set_cons_succ]
            refine wpAnyH_ready (rs := [3]) (by kernel_rfl) (by simp) ?_
            refine AllReadyH.cons (o := { dst := some 34, op := Op.convert 38 9 (Operand.tmp 33), type := 9, pos := "law.go:103", after := _, guard := none }) rfl (fun K hK => ?_) AllReadyH.nil
            rw [if_pos (by rfl)]
            have hm44 := (hn37.alloc (.cells #[.int .i64 0, .int .i64 0, .int .i64 0, .int .i64 0, .int .i64 0, .int .i64 0, .int .i64 0, .int .i64 0, .int .i64 0, .int .i64 0, .int .i64 0, .int .i64 0, .int .i64 0, .int .i64 0, .int .i64 0, .int .i64 0] 27))
            refine wp_convert 38 9 (.tmp 33) rfl _ rfl _ (hcv _ _ hm44) ?_
            refine hK.out _ _ hH (fun hH => ?_)
            clear hK K
            try simp only [Act.put, List.setIfInBounds_toArray, List.set_cons_zero, List.set_cons_succ]
            refine wpAnyH_ready (rs := [4]) (by kernel_rfl) (by simp) ?_
            refine AllReadyH.cons (o := { dst := some 35, op := Op.call { callee := Callee.value (Operand.func 9), args := #[Operand.tmp 31, Operand.tmp 34], argTypes := #[23, 9] }, type := 36, pos := "law.go:103", after := _, guard := none }) rfl (fun K hK => ?_) AllReadyH.nil
            rw [if_pos (by rfl)]
            go_simp
            refine (HPA.out _ hH.bands).mono ?_
            rintro e wc45 ⟨rfl, hb45⟩
            go_wp2_with fail
            refine hK.out _ _ (hH.below hb45) (fun hH => ?_)
            clear hK K
            try simp only [Act.put, List.setIfInBounds_toArray, List.set_cons_zero, List.set_cons_succ]
            refine wpAnyH_take (i := 5) (oi := { dst := some 30, op := Op.move (Operand.tmp 35), type := 36, pos := "law.go:103", after := _, guard := none }) (v := .tuple #[.agg (arrV l), .agg (arrV wv), .int .i64 0]) rfl (by kernel_rfl) (by kernel_rfl) (by kernel_rfl) (fun _ _ _ h => h) (.inl ⟨by rfl, fun w hS => by go_simp⟩) hH ?_
            try simp only [Act.put, List.setIfInBounds_toArray, List.set_cons_zero, List.set_cons_succ]
            refine wpAnyH_take (i := 6) (oi := { dst := some 36, op := Op.extract (Operand.tmp 30) 0, type := 23, pos := "law.go:103", after := _, guard := none }) (v := .agg (arrV l)) rfl (by kernel_rfl) (by kernel_rfl) (by kernel_rfl) (fun _ _ _ h => h) (.inl ⟨by rfl, fun w hS => by go_simp⟩) hH ?_
            try simp only [Act.put, List.setIfInBounds_toArray, List.set_cons_zero, List.set_cons_succ]
            refine wpAnyH_take (i := 7) (oi := { dst := some 37, op := Op.extract (Operand.tmp 30) 1, type := 27, pos := "law.go:103", after := _, guard := none }) (v := .agg (arrV wv)) rfl (by kernel_rfl) (by kernel_rfl) (by kernel_rfl) (fun _ _ _ h => h) (.inl ⟨by rfl, fun w hS => by go_simp⟩) hH ?_
            try simp only [Act.put, List.setIfInBounds_toArray, List.set_cons_zero, List.set_cons_succ]
            refine wpAnyH_take (i := 8) (oi := { dst := some 38, op := Op.extract (Operand.tmp 30) 2, type := 30, pos := "law.go:103", after := _, guard := none }) (v := .int .i64 0) rfl (by kernel_rfl) (by kernel_rfl) (by kernel_rfl) (fun _ _ _ h => h) (.inl ⟨by rfl, fun w hS => by go_simp⟩) hH ?_
            try simp only [Act.put, List.setIfInBounds_toArray, List.set_cons_zero, List.set_cons_succ]
            refine wpAnyH_ready (rs := [11]) (by kernel_rfl) (by simp) ?_
            refine AllReadyH.cons (o := { dst := none, op := Op.store 23 (Operand.tmp 7) (Operand.tmp 36), type := 0, pos := "law.go:103", after := _, guard := none }) rfl (fun K hK => ?_) AllReadyH.nil
            rw [if_pos (by rfl)]
            have hab := two_far (((hn36.alloc (.cells (M q) 5)).alloc (.cells #[.int .i64 0, .int .i64 0, .int .i64 0, .int .i64 0, .int .i64 0, .int .i64 0, .int .i64 0, .int .i64 0, .int .i64 0, .int .i64 0, .int .i64 0, .int .i64 0, .int .i64 0, .int .i64 0, .int .i64 0, .int .i64 0] 27)).newB hb45) (hn43.newB hb45) (by decide)
            refine wp_store_blk 23 (.tmp 7) (.tmp 36) rfl (wr.heap.size) _ (arrV l) rfl rfl 23 (((hn36.alloc (.cells (M q) 5)).alloc (.cells #[.int .i64 0, .int .i64 0, .int .i64 0, .int .i64 0, .int .i64 0, .int .i64 0, .int .i64 0, .int .i64 0, .int .i64 0, .int .i64 0, .int .i64 0, .int .i64 0, .int .i64 0, .int .i64 0, .int .i64 0, .int .i64 0] 27)).newB hb45) jl4 kl4 (arr_one _) ?_
            refine hK.out _ _ (hH.setRow hs36 _) (fun hH => ?_)
            clear hK K
            try simp only [Act.put]
            refine wpAnyH_ready (rs := [12]) (by kernel_rfl) (by simp) ?_
            refine AllReadyH.cons (o := { dst := none, op := Op.store 27 (Operand.tmp 8) (Operand.tmp 37), type := 0, pos := "law.go:103", after := _, guard := none }) rfl (fun K hK => ?_) AllReadyH.nil
            rw [if_pos (by rfl)]
            refine wp_store_blk 27 (.tmp 8) (.tmp 37) rfl (wr.heap.size + 1 + 1) _ (arrV wv) rfl rfl 27 ((hn43.newB hb45).setRowOther hab.symm) jwv kwv (arr_one _) ?_
            refine hK.out _ _ (hH.setRow hs43 _) (fun hH => ?_)
            clear hK K
            try simp only [Act.put]
            refine wpAnyH_take (i := 13) (oi := { dst := some 9, op := Op.assign (Operand.tmp 38), type := 30, pos := "law.go:103", after := _, guard := none }) (v := .int .i64 0) rfl (by kernel_rfl) (by kernel_rfl) (by kernel_rfl) (fun _ _ _ h => h) (.inl ⟨by rfl, fun w hS => by go_simp⟩) hH ?_
            try simp only [Act.put, List.setIfInBounds_toArray, List.set_cons_zero, List.set_cons_succ]
            refine wpAnyH_done (by kernel_rfl) ?_ _
            go_wp2_with fail
            go_meet
            case rel => exact ⟨wr.heap.size, wr.heap.size + 1 + 1, rfl, rfl, rfl, hH, ((((hn36.alloc (.cells (M q) 5)).alloc (.cells #[.int .i64 0, .int .i64 0, .int .i64 0, .int .i64 0, .int .i64 0, .int .i64 0, .int .i64 0, .int .i64 0, .int .i64 0, .int .i64 0, .int .i64 0, .int .i64 0, .int .i64 0, .int .i64 0, .int .i64 0, .int .i64 0] 27)).newB hb45).setRow (new := arrV l)).setRowOther hab, ((hn43.newB hb45).setRowOther hab.symm).setRow⟩
          refine AllReadyH.cons (o := { dst := some 8, op := Op.alloc 27, type := 0, pos := "law.go:103", after := _, guard := none }) rfl (fun K hK => ?_) AllReadyH.nil
          rw [if_pos (by rfl)]
          go_simp
          have hz46 : (World.heap (wr.drew.alloc (.cells #[.int .i64 0, .int .i64 0, .int .i64 0, .int .i64 0] 23))).size = wr.heap.size + 1 := ((World.size_alloc _ _).trans (congrArg (· + 1) rfl))
          have hn46 := blk_at #[.int .i64 0, .int .i64 0, .int .i64 0, .int .i64 0, .int .i64 0, .int .i64 0, .int .i64 0, .int .i64 0, .int .i64 0, .int .i64 0, .int .i64 0, .int .i64 0, .int .i64 0, .int .i64 0, .int .i64 0, .int .i64 0] 27 hz46
          have hs46 : B + 1 ≤ wr.heap.size + 1 := Nat.le_trans hH.size (Nat.le_of_eq hz46)
          refine hK.out _ _ (hH.alloc _) (fun hH => ?_)
          clear hK K
          try simp only [Act.put, List.setIfInBounds_toArray, List.set_cons_zero, List.set_cons_succ]
          refine wpAnyH_ready (rs := [2]) (by kernel_rfl) (by simp) ?_
          refine AllReadyH.cons (o := { dst := some 33, op := Op.makeSlice 38 (Operand.tmp 32) (Operand.tmp 32), type := 38, pos := "law.go:103", after := _, guard := none }) rfl (fun K hK => ?_) AllReadyH.nil
          rw [if_pos (by rfl)]
          go_simp
          have hz47 : (World.heap ((wr.drew.alloc (.cells #[.int .i64 0, .int .i64 0, .int .i64 0, .int .i64 0] 23)).alloc (.cells #[.int .i64 0, .int .i64 0, .int .i64 0, .int .i64 0, .int .i64 0, .int .i64 0, .int .i64 0, .int .i64 0, .int .i64 0, .int .i64 0, .int .i64 0, .int .i64 0, .int .i64 0, .int .i64 0, .int .i64 0, .int .i64 0] 27))).size = wr.heap.size + 1 + 1 := ((World.size_alloc _ _).trans (congrArg (· + 1) ((World.size_alloc _ _).trans (congrArg (· + 1) rfl))))
          have hn47 := blk_at (M q) 5 hz47
          have hs47 : B + 1 ≤ wr.heap.size + 1 + 1 := Nat.le_trans hH.size (Nat.le_of_eq hz47)
          refine hK.out _ _ (hH.alloc _) (fun hH => ?_)
          clear hK K
          try simp only [Act.put, List.setIfInBounds_toArray, List.set_cons_zero, List.set_cons_succ]
          refine wpAnyH_ready (rs := [3]) (by kernel_rfl) (by simp) ?_
          refine AllReadyH.cons (o := { dst := some 34, op := Op.convert 38 9 (Operand.tmp 33), type := 9, pos := "law.go:103", after := _, guard := none }) rfl (fun K hK => ?_) AllReadyH.nil
          rw [if_pos (by rfl)]
          have hm48 := hn47
          refine wp_convert 38 9 (.tmp 33) rfl _ rfl _ (hcv _ _ hm48) ?_
          refine hK.out _ _ hH (fun hH => ?_)
          clear hK K
          try simp only [Act.put, List.setIfInBounds_toArray, List.set_cons_zero, List.set_cons_succ]
          refine wpAnyH_ready (rs := [4]) (by kernel_rfl) (by simp) ?_
          refine AllReadyH.cons (o := { dst := some 35, op := Op.call { callee := Callee.value (Operand.func 9), args := #[Operand.tmp 31, Operand.tmp 34], argTypes := #[23, 9] }, type := 36, pos := "law.go:103", after := _, guard := none }) rfl (fun K hK => ?_) AllReadyH.nil
          rw [if_pos (by rfl)]
          go_simp
          refine (HPA.out _ hH.bands).mono ?_
          rintro e wc49 ⟨rfl, hb49⟩
          go_wp2_with fail
          refine hK.out _ _ (hH.below hb49) (fun hH => ?_)
          clear hK K
          try simp only [Act.put, List.setIfInBounds_toArray, List.set_cons_zero, List.set_cons_succ]
          refine wpAnyH_take (i := 5) (oi := { dst := some 30, op := Op.move (Operand.tmp 35), type := 36, pos := "law.go:103", after := _, guard := none }) (v := .tuple #[.agg (arrV l), .agg (arrV wv), .int .i64 0]) rfl (by kernel_rfl) (by kernel_rfl) (by kernel_rfl) (fun _ _ _ h => h) (.inl ⟨by rfl, fun w hS => by go_simp⟩) hH ?_
          try simp only [Act.put, List.setIfInBounds_toArray, List.set_cons_zero, List.set_cons_succ]
          refine wpAnyH_take (i := 6) (oi := { dst := some 36, op := Op.extract (Operand.tmp 30) 0, type := 23, pos := "law.go:103", after := _, guard := none }) (v := .agg (arrV l)) rfl (by kernel_rfl) (by kernel_rfl) (by kernel_rfl) (fun _ _ _ h => h) (.inl ⟨by rfl, fun w hS => by go_simp⟩) hH ?_
          try simp only [Act.put, List.setIfInBounds_toArray, List.set_cons_zero, List.set_cons_succ]
          refine wpAnyH_take (i := 7) (oi := { dst := some 37, op := Op.extract (Operand.tmp 30) 1, type := 27, pos := "law.go:103", after := _, guard := none }) (v := .agg (arrV wv)) rfl (by kernel_rfl) (by kernel_rfl) (by kernel_rfl) (fun _ _ _ h => h) (.inl ⟨by rfl, fun w hS => by go_simp⟩) hH ?_
          try simp only [Act.put, List.setIfInBounds_toArray, List.set_cons_zero, List.set_cons_succ]
          refine wpAnyH_take (i := 8) (oi := { dst := some 38, op := Op.extract (Operand.tmp 30) 2, type := 30, pos := "law.go:103", after := _, guard := none }) (v := .int .i64 0) rfl (by kernel_rfl) (by kernel_rfl) (by kernel_rfl) (fun _ _ _ h => h) (.inl ⟨by rfl, fun w hS => by go_simp⟩) hH ?_
          try simp only [Act.put, List.setIfInBounds_toArray, List.set_cons_zero, List.set_cons_succ]
          refine wpAnyH_ready (rs := [11]) (by kernel_rfl) (by simp) ?_
          refine AllReadyH.cons (o := { dst := none, op := Op.store 23 (Operand.tmp 7) (Operand.tmp 36), type := 0, pos := "law.go:103", after := _, guard := none }) rfl (fun K hK => ?_) AllReadyH.nil
          rw [if_pos (by rfl)]
          have hab := two_far (((hn36.alloc (.cells #[.int .i64 0, .int .i64 0, .int .i64 0, .int .i64 0, .int .i64 0, .int .i64 0, .int .i64 0, .int .i64 0, .int .i64 0, .int .i64 0, .int .i64 0, .int .i64 0, .int .i64 0, .int .i64 0, .int .i64 0, .int .i64 0] 27)).alloc (.cells (M q) 5)).newB hb49) ((hn46.alloc (.cells (M q) 5)).newB hb49) (by decide)
          refine wp_store_blk 23 (.tmp 7) (.tmp 36) rfl (wr.heap.size) _ (arrV l) rfl rfl 23 (((hn36.alloc (.cells #[.int .i64 0, .int .i64 0, .int .i64 0, .int .i64 0, .int .i64 0, .int .i64 0, .int .i64 0, .int .i64 0, .int .i64 0, .int .i64 0, .int .i64 0, .int .i64 0, .int .i64 0, .int .i64 0, .int .i64 0, .int .i64 0] 27)).alloc (.cells (M q) 5)).newB hb49) jl4 kl4 (arr_one _) ?_
          refine hK.out _ _ (hH.setRow hs36 _) (fun hH => ?_)
          clear hK K
          try simp only [Act.put]
          refine wpAnyH_ready (rs := [12]) (by kernel_rfl) (by simp) ?_
          refine AllReadyH.cons (o := { dst := none, op := Op.store 27 (Operand.tmp 8) (Operand.tmp 37), type := 0, pos := "law.go:103", after := _, guard := none }) rfl (fun K hK => ?_) AllReadyH.nil
          rw [if_pos (by rfl)]
          refine wp_store_blk 27 (.tmp 8) (.tmp 37) rfl (wr.heap.size + 1) _ (arrV wv) rfl rfl 27 (((hn46.alloc (.cells (M q) 5)).newB hb49).setRowOther hab.symm) jwv kwv (arr_one _) ?_
          refine hK.out _ _ (hH.setRow hs46 _) (fun hH => ?_)
          clear hK K
          try simp only [Act.put]
          refine wpAnyH_take (i := 13) (oi := { dst := some 9, op := Op.assign (Operand.tmp 38), type := 30, pos := "law.go:103", after := _, guard := none }) (v := .int .i64 0) rfl (by kernel_rfl) (by kernel_rfl) (by kernel_rfl) (fun _ _ _ h => h) (.inl ⟨by rfl, fun w hS => by go_simp⟩) hH ?_
          try simp only [Act.put, List.setIfInBounds_toArray, List.set_cons_zero, List.set_cons_succ]
          refine wpAnyH_done (by kernel_rfl) ?_ _
          go_wp2_with fail
          go_meet
          case rel => exact ⟨wr.heap.size, wr.heap.size + 1, rfl, rfl, rfl, hH, ((((hn36.alloc (.cells #[.int .i64 0, .int .i64 0, .int .i64 0, .int .i64 0, .int .i64 0, .int .i64 0, .int .i64 0, .int .i64 0, .int .i64 0, .int .i64 0, .int .i64 0, .int .i64 0, .int .i64 0, .int .i64 0, .int .i64 0, .int .i64 0] 27)).alloc (.cells (M q) 5)).newB hb49).setRow (new := arrV l)).setRowOther hab, (((hn46.alloc (.cells (M q) 5)).newB hb49).setRowOther hab.symm).setRow⟩
        refine AllReadyH.cons (o := { dst := some 8, op := Op.alloc 27, type := 0, pos := "law.go:103", after := _, guard := none }) rfl (fun K hK => ?_) AllReadyH.nil
        rw [if_pos (by rfl)]
        go_simp
        have hz50 : (World.heap wr.drew).size = wr.heap.size := rfl
        have hn50 := blk_at #[.int .i64 0, .int .i64 0, .int .i64 0, .int .i64 0, .int .i64 0, .int .i64 0, .int .i64 0, .int .i64 0, .int .i64 0, .int .i64 0, .int .i64 0, .int .i64 0, .int .i64 0, .int .i64 0, .int .i64 0, .int .i64 0] 27 hz50
        have hs50 : B + 1 ≤ wr.heap.size := Nat.le_trans hH.size (Nat.le_of_eq hz50)
        refine hK.out _ _ (hH.alloc _) (fun hH => ?_)
        clear hK K
        try simp only [Act.put, List.setIfInBounds_toArray, List.set_cons_zero, List.set_cons_succ]
        refine wpAnyH_ready (rs := [2, 9]) (by kernel_rfl) (by simp) ?_
        refine AllReadyH.cons (o := { dst := some 33, op := Op.makeSlice 38 (Operand.tmp 32) (Operand.tmp 32), type := 38, pos := "law.go:103", after := _, guard := none }) rfl (fun K hK => ?_) ?_
        · rw [if_pos (by rfl)]
          go_simp
          have hz51 : (World.heap (wr.drew.alloc (.cells #[.int .i64 0, .int .i64 0, .int .i64 0, .int .i64 0, .int .i64 0, .int .i64 0, .int .i64 0, .int .i64 0, .int .i64 0, .int .i64 0, .int .i64 0, .int .i64 0, .int .i64 0, .int .i64 0, .int .i64 0, .int .i64 0] 27))).size = wr.heap.size + 1 := ((World.size_alloc _ _).trans (congrArg (· + 1) rfl))
          have hn51 := blk_at (M q) 5 hz51
          have hs51 : B + 1 ≤ wr.heap.size + 1 := Nat.le_trans hH.size (Nat.le_of_eq hz51)
          refine hK.out _ _ (hH.alloc _) (fun hH => ?_)
          clear hK K
          try simp only [Act.put, List.setIfInBounds_toArray, List.set_cons_zero, List.set_cons_succ]
          refine wpAnyH_ready (rs := [3, 9]) (by kernel_rfl) (by simp) ?_
          refine AllReadyH.cons (o := { dst := some 34, op := Op.convert 38 9 (Operand.tmp 33), type := 9, pos := "law.go:103", after := _, guard := none }) rfl (fun K hK => ?_) ?_
          · rw [if_pos (by rfl)]
            have hm52 := hn51
            refine wp_convert 38 9 (.tmp 33) rfl _ rfl _ (hcv _ _ hm52) ?_
            refine hK.out _ _ hH (fun hH => ?_)
            clear hK K
            try simp only [Act.put, List.setIfInBounds_toArray, List.set_cons_zero, List.set_cons_succ]
            refine wpAnyH_ready (rs := [4, 9]) (by kernel_rfl) (by simp) ?_
            refine AllReadyH.cons (o := { dst := some 35, op := Op.call { callee := Callee.value (Operand.func 9), args := #[Operand.tmp 31, Operand.tmp 34], argTypes := #[23, 9] }, type := 36, pos := "law.go:103", after := _, guard := none }) rfl (fun K hK => ?_) ?_
            · rw [if_pos (by rfl)]
              go_simp
              refine (HPA.out _ hH.bands).mono ?_
              rintro e wc53 ⟨rfl, hb53⟩
              go_wp2_with fail
              refine hK.out _ _ (hH.below hb53) (fun hH => ?_)
              clear hK K
              try simp only [Act.put, List.setIfInBounds_toArray, List.set_cons_zero, List.set_cons_succ]
              refine wpAnyH_take (i := 5) (oi := { dst := some 30, op := Op.move (Operand.tmp 35), type := 36, pos := "law.go:103", after := _, guard := none }) (v := .tuple #[.agg (arrV l), .agg (arrV wv), .int .i64 0]) rfl (by kernel_rfl) (by kernel_rfl) (by kernel_rfl) (fun _ _ _ h => h) (.inl ⟨by rfl, fun w hS => by go_simp⟩) hH ?_
              try simp only [Act.put, List.setIfInBounds_toArray, List.set_cons_zero, List.set_cons_succ]
              refine wpAnyH_take (i := 6) (oi := { dst := some 36, op := Op.extract (Operand.tmp 30) 0, type := 23, pos := "law.go:103", after := _, guard := none }) (v := .agg (arrV l)) rfl (by kernel_rfl) (by kernel_rfl) (by kernel_rfl) (fun _ _ _ h => h) (.inl ⟨by rfl, fun w hS => by go_simp⟩) hH ?_
              try simp only [Act.put, List.setIfInBounds_toArray, List.set_cons_zero, List.set_cons_succ]
              refine wpAnyH_take (i := 7) (oi := { dst := some 37, op := Op.extract (Operand.tmp 30) 1, type := 27, pos := "law.go:103", after := _, guard := none }) (v := .agg (arrV wv)) rfl (by kernel_rfl) (by kernel_rfl) (by kernel_rfl) (fun _ _ _ h => h) (.inl ⟨by rfl, fun w hS => by go_simp⟩) hH ?_
              try simp only [Act.put, List.setIfInBounds_toArray, List.set_cons_zero, List.set_cons_succ]
              refine wpAnyH_take (i := 8) (oi := { dst := some 38, op := Op.extract (Operand.tmp 30) 2, type := 30, pos := "law.go:103", after := _, guard := none }) (v := .int .i64 0) rfl (by kernel_rfl) (by kernel_rfl) (by kernel_rfl) (fun _ _ _ h => h) (.inl ⟨by rfl, fun w hS => by go_simp⟩) hH ?_
              try simp only [Act.put, List.setIfInBounds_toArray, List.set_cons_zero, List.set_cons_succ]
              refine wpAnyH_ready (rs := [9]) (by kernel_rfl) (by simp) ?_
              refine AllReadyH.cons (o := { dst := some 7, op := Op.alloc 23, type := 0, pos := "law.go:103", after := _, guard := none }) rfl (fun K hK => ?_) AllReadyH.nil
              rw [if_pos (by rfl)]
              go_simp
              have hz54 : (World.heap wc53).size = wc53.heap.size := rfl
              have hn54 := blk_at #[.int .i64 0, .int .i64 0, .int .i64 0, .int .i64 0] 23 hz54
              have hs54 : B + 1 ≤ wc53.heap.size := Nat.le_trans hH.size (Nat.le_of_eq hz54)
              refine hK.out _ _ (hH.alloc _) (fun hH => ?_)
              clear hK K
              try simp only [Act.put, List.setIfInBounds_toArray, List.set_cons_zero, List.set_cons_succ]
              refine wpAnyH_ready (rs := [11]) (by kernel_rfl) (by simp) ?_
              refine AllReadyH.cons (o := { dst := none, op := Op.store 23 (Operand.tmp 7) (Operand.tmp 36), type := 0, pos := "law.go:103", after := _, guard := none }) rfl (fun K hK => ?_) AllReadyH.nil
              rw [if_pos (by rfl)]
              have hab := two_far hn54 (((hn50.alloc (.cells (M q) 5)).newB hb53).alloc (.cells #[.int .i64 0, .int .i64 0, .int .i64 0, .int .i64 0] 23)) (by decide)
              refine wp_store_blk 23 (.tmp 7) (.tmp 36) rfl (wc53.heap.size) _ (arrV l) rfl rfl 23 hn54 jl4 kl4 (arr_one _) ?_
              refine hK.out _ _ (hH.setRow hs54 _) (fun hH => ?_)
              clear hK K
              try simp only [Act.put]
              refine wpAnyH_ready (rs := [12]) (by kernel_rfl) (by simp) ?_
              refine AllReadyH.cons (o := { dst := none, op := Op.store 27 (Operand.tmp 8) (Operand.tmp 37), type := 0, pos := "law.go:103", after := _, guard := none }) rfl (fun K hK => ?_) AllReadyH.nil
              rw [if_pos (by rfl)]
              refine wp_store_blk 27 (.tmp 8) (.tmp 37) rfl (wr.heap.size) _ (arrV wv) rfl rfl 27 ((((hn50.alloc (.cells (M q) 5)).newB hb53).alloc (.cells #[.int .i64 0, .int .i64 0, .int .i64 0, .int .i64 0] 23)).setRowOther hab.symm) jwv kwv (arr_one _) ?_
              refine hK.out _ _ (hH.setRow hs50 _) (fun hH => ?_)
              clear hK K
              try simp only [Act.put]
              refine wpAnyH_take (i := 13) (oi := { dst := some 9, op := Op.assign (Operand.tmp 38), type := 30, pos := "law.go:103", after := _, guard := none }) (v := .int .i64 0) rfl (by kernel_rfl) (by kernel_rfl) (by kernel_rfl) (fun _ _ _ h => h) (.inl ⟨by rfl, fun w hS => by go_simp⟩) hH ?_
              try simp only [Act.put, List.setIfInBounds_toArray, List.set_cons_zero, List.set_cons_succ]
              refine wpAnyH_done (by kernel_rfl) ?_ _
              go_wp2_with fail
              go_meet
              case rel => exact ⟨wc53.heap.size, wr.heap.size, rfl, rfl, rfl, hH, (hn54.setRow (new := arrV l)).setRowOther hab, ((((hn50.alloc (.cells (M q) 5)).newB hb53).alloc (.cells #[.int .i64 0, .int .i64 0, .int .i64 0, .int .i64 0] 23)).setRowOther hab.symm).setRow⟩
            refine AllReadyH.cons (o := { dst := some 7, op := Op.alloc 23, type := 0, pos := "law.go:103", after := _, guard := none }) rfl (fun K hK => ?_) AllReadyH.nil
            rw [if_pos (by rfl)]
            go_simp
            have hz55 : (World.heap ((wr.drew.alloc (.cells #[.int .i64 0, .int .i64 0, .int .i64 0, .int .i64 0, .int .i64 0, .int .i64 0, .int .i64 0, .int .i64 0, .int .i64 0, .int .i64 0, .int .i64 0, .int .i64 0, .int .i64 0, .int .i64 0, .int .i64 0, .int .i64 0] 27)).alloc (.cells (M q) 5))).size = wr.heap.size + 1 + 1 := ((World.size_alloc _ _).trans (congrArg (· + 1) ((World.size_alloc _ _).trans (congrArg (· + 1) rfl))))
            have hn55 := blk_at #[.int .i64 0, .int .i64 0, .int .i64 0, .int .i64 0] 23 hz55
            have hs55 : B + 1 ≤ wr.heap.size + 1 + 1 := Nat.le_trans hH.size (Nat.le_of_eq hz55)
            refine hK.out _ _ (hH.alloc _) (fun hH => ?_)
            clear hK K
            try simp only [Act.put, List.setIfInBounds_toArray, List.set_cons_zero, List.set_cons_succ]
            refine wpAnyH_ready (rs := [4]) (by kernel_rfl) (by simp) ?_
            refine AllReadyH.cons (o := { dst := some 35, op := Op.call { callee := Callee.value (Operand.func 9), args := #[Operand.tmp 31, Operand.tmp 34], argTypes := #[23, 9] }, type := 36, pos := "law.go:103", after := _, guard := none }) rfl (fun K hK => ?_) AllReadyH.nil
            rw [if_pos (by rfl)]
            go_simp
            refine (HPA.out _ hH.bands).mono ?_
            rintro e wc56 ⟨rfl, hb56⟩
            go_wp2_with fail
            refine hK.out _ _ (hH.below hb56) (fun hH => ?_)
            clear hK K
            try simp only [Act.put, List.setIfInBounds_toArray, List.set_cons_zero, List.set_cons_succ]
            refine wpAnyH_take (i := 5) (oi := { dst := some 30, op := Op.move (Operand.tmp 35), type := 36, pos := "law.go:103", after := _, guard := none }) (v := .tuple #[.agg (arrV l), .agg (arrV wv), .int .i64 0]) rfl (by kernel_rfl) (by kernel_rfl) (by kernel_rfl) (fun _ _ _ h => h) (.inl ⟨by rfl, fun w hS => by go_simp⟩) hH ?_
            try simp only [Act.put, List.setIfInBounds_toArray, List.set_cons_zero, List.set_cons_succ]
            refine wpAnyH_take (i := 6) (oi := { dst := some 36, op := Op.extract (Operand.tmp 30) 0, type := 23, pos := "law.go:103", after := _, guard := none }) (v := .agg (arrV l)) rfl (by kernel_rfl) (by kernel_rfl) (by kernel_rfl) (fun _ _ _ h => h) (.inl ⟨by rfl, fun w hS => by go_simp⟩) hH ?_
            try simp only [Act.put, List.setIfInBounds_toArray, List.set_cons_zero, List.set_cons_succ]
            refine wpAnyH_take (i := 7) (oi := { dst := some 37, op := Op.extract (Operand.tmp 30) 1, type := 27, pos := "law.go:103", after := _, guard := none }) (v := .agg (arrV wv)) rfl (by kernel_rfl) (by kernel_rfl) (by kernel_rfl) (fun _ _ _ h => h) (.inl ⟨by rfl, fun w hS => by go_simp⟩) hH ?_
            try simp only [Act.put, List.setIfInBounds_toArray, List.set_cons_zero, List.set_cons_succ]
            refine wpAnyH_take (i := 8) (oi := { dst := some 38, op := Op.extract (Operand.tmp 30) 2, type := 30, pos := "law.go:103", after := _, guard := none }) (v := .int .i64 0) rfl (by kernel_rfl) (by kernel_rfl) (by kernel_rfl) (fun _ _ _ h => h) (.inl ⟨by rfl, fun w hS => by go_simp⟩) hH ?_
            try simp only [Act.put, List.setIfInBounds_toArray, List.set_cons_zero, List.set_cons_succ]
            refine wpAnyH_ready (rs := [11]) (by kernel_rfl) (by simp) ?_
            refine AllReadyH.cons (o := { dst := none, op := Op.store 23 (Operand.tmp 7) (Operand.tmp 36), type := 0, pos := "law.go:103", after := _, guard := none }) rfl (fun K hK => ?_) AllReadyH.nil
            rw [if_pos (by rfl)]
            have hab := two_far (hn55.newB hb56) (((hn50.alloc (.cells (M q) 5)).alloc (.cells #[.int .i64 0, .int .i64 0, .int .i64 0, .int .i64 0] 23)).newB hb56) (by decide)
            refine wp_store_blk 23 (.tmp 7) (.tmp 36) rfl (wr.heap.size + 1 + 1) _ (arrV l) rfl rfl 23 (hn55.newB hb56) jl4 kl4 (arr_one _) ?_
            refine hK.out _ _ (hH.setRow hs55 _) (fun hH => ?_)
            clear hK K
            try simp only [Act.put]
            refine wpAnyH_ready (rs := [12]) (by kernel_rfl) (by simp) ?_
            refine AllReadyH.cons (o := { dst := none, op := Op.store 27 (Operand.tmp 8) (Operand.tmp 37), type := 0, pos := "law.go:103", after := _, guard := none }) rfl (fun K hK => ?_) AllReadyH.nil
            rw [if_pos (by rfl)]
            refine wp_store_blk 27 (.tmp 8) (.tmp 37) rfl (wr.heap.size) _ (arrV wv) rfl rfl 27 ((((hn50.alloc (.cells (M q) 5)).alloc (.cells #[.int .i64 0, .int .i64 0, .int .i64 0, .int .i64 0] 23)).newB hb56).setRowOther hab.symm) jwv kwv (arr_one _) ?_
            refine hK.out _ _ (hH.setRow hs50 _) (fun hH => ?_)
            clear hK K
            try simp only [Act.put]
            refine wpAnyH_take (i := 13) (oi := { dst := some 9, op := Op.assign (Operand.tmp 38), type := 30, pos := "law.go:103", after := _, guard := none }) (v := .int .i64 0) rfl (by kernel_rfl) (by kernel_rfl) (by kernel_rfl) (fun _ _ _ h => h) (.inl ⟨by rfl, fun w hS => by go_simp⟩) hH ?_
            try simp only [Act.put, List.setIfInBounds_toArray, List.set_cons_zero, List.set_cons_succ]
            refine wpAnyH_done (by kernel_rfl) ?_ _
            go_wp2_with fail
            go_meet
            case rel => exact ⟨wr.heap.size + 1 + 1, wr.heap.size, rfl, rfl, rfl, hH, ((hn55.newB hb56).setRow (new := arrV l)).setRowOther hab, ((((hn50.alloc (.cells (M q) 5)).alloc (.cells #[.int .i64 0, .int .i64 0, .int .i64 0, .int .i64 0] 23)).newB hb56).setRowOther hab.symm).setRow⟩
          refine AllReadyH.cons (o := { dst := some 7, op := Op.alloc 23, type := 0, pos := "law.go:103", after := _, guard := none }) rfl (fun K hK => ?_) AllReadyH.nil
          rw [if_pos (by rfl)]
          go_simp
          have hz57 : (World.heap ((wr.drew.alloc (.cells #[.int .i64 0, .int .i64 0, .int .i64 0, .int .i64 0, .int .i64 0, .int .i64 0, .int .i64 0, .int .i64 0, .int .i64 0, .int .i64 0, .int .i64 0, .int .i64 0, .int .i64 0, .int .i64 0, .int .i64 0, .int .i64 0] 27)).alloc (.cells (M q) 5))).size = wr.heap.size + 1 + 1 := ((World.size_alloc _ _).trans (congrArg (· + 1) ((World.size_alloc _ _).trans (congrArg (· + 1) rfl))))
          have hn57 := blk_at #[.int .i64 0, .int .i64 0, .int .i64 0, .int .i64 0] 23 hz57
          have hs57 : B + 1 ≤ wr.heap.size + 1 + 1 := Nat.le_trans hH.size (Nat.le_of_eq hz57)
          refine hK.out _ _ (hH.alloc _) (fun hH => ?_)
          clear hK K
          try simp only [Act.put, List.setIfInBounds_toArray, List.set_cons_zero, List.set_cons_succ]
          refine wpAnyH_ready (rs := [3]) (by kernel_rfl) (by simp) ?_
          refine AllReadyH.cons (o := { dst := some 34, op := Op.convert 38 9 (Operand.tmp 33), type := 9, pos := "law.go:103", after := _, guard := none }) rfl (fun K hK => ?_) AllReadyH.nil
          rw [if_pos (by rfl)]
          have hm58 := (hn51.alloc (.cells #[.int .i64 0, .int .i64 0, .int .i64 0, .int .i64 0] 23))
          refine wp_convert 38 9 (.tmp 33) rfl _ rfl _ (hcv _ _ hm58) ?_
          refine hK.out _ _ hH (fun hH => ?_)
          clear hK K
          try simp only [Act.put, List.setIfInBounds_toArray, List.set_cons_zero, List.set_cons_succ]
          refine wpAnyH_ready (rs := [4]) (by kernel_rfl) (by simp) ?_
          refine AllReadyH.cons (o := { dst := some 35, op := Op.call { callee := Callee.value (Operand.func 9), args := #[Operand.tmp 31, Operand.tmp 34], argTypes := #[23, 9] }, type := 36, pos := "law.go:103", after := _, guard := none }) rfl (fun K hK => ?_) AllReadyH.nil
          rw [if_pos (by rfl)]
          go_simp
          refine (HPA.out _ hH.bands).mono ?_
          rintro e wc59 ⟨rfl, hb59⟩
          go_wp2_with fail
          refine hK.out _ _ (hH.below hb59) (fun hH => ?_)
          clear hK K
          try simp only [Act.put, List.setIfInBounds_toArray, List.set_cons_zero, List.set_cons_succ]
          refine wpAnyH_take (i := 5) (oi := { dst := some 30, op := Op.move (Operand.tmp 35), type := 36, pos := "law.go:103", after := _, guard := none }) (v := .tuple #[.agg (arrV l), .agg (arrV wv), .int .i64 0]) rfl (by kernel_rfl) (by kernel_rfl) (by kernel_rfl) (fun _ _ _ h => h) (.inl ⟨by rfl, fun w hS => by go_simp⟩) hH ?_
          try simp only [Act.put, List.setIfInBounds_toArray, List.set_cons_zero, List.set_cons_succ]
          refine wpAnyH_take (i := 6) (oi := { dst := some 36, op := Op.extract (Operand.tmp 30) 0, type := 23, pos := "law.go:103", after := _, guard := none }) (v := .agg (arrV l)) rfl (by kernel_rfl) (by kernel_rfl) (by kernel_rfl) (fun _ _ _ h => h) (.inl ⟨by rfl, fun w hS => by go_simp⟩) hH ?_
          try simp only [Act.put, List.setIfInBounds_toArray, List.set_cons_zero, List.set_cons_succ]
          refine wpAnyH_take (i := 7) (oi := { dst := some 37, op := Op.extract (Operand.tmp 30) 1, type := 27, pos := "law.go:103", after := _, guard := none }) (v := .agg (arrV wv)) rfl (by kernel_rfl) (by kernel_rfl) (by kernel_rfl) (fun _ _ _ h => h) (.inl ⟨by rfl, fun w hS => by go_simp⟩) hH ?_
          try simp only [Act.put, List.setIfInBounds_toArray, List.set_cons_zero, List.set_cons_succ]
          refine wpAnyH_take (i := 8) (oi := { dst := some 38, op := Op.extract (Operand.tmp 30) 2, type := 30, pos := "law.go:103", after := _, guard := none }) (v := .int .i64 0) rfl (by kernel_rfl) (by kernel_rfl) (by kernel_rfl) (fun _ _ _ h => h) (.inl ⟨by rfl, fun w hS => by go_simp⟩) hH ?_
          try simp only [Act.put, List.setIfInBounds_toArray, List.set_cons_zero, List.set_cons_succ]
          refine wpAnyH_ready (rs := [11]) (by kernel_rfl) (by simp) ?_
          refine AllReadyH.cons (o := { dst := none, op := Op.store 23 (Operand.tmp 7) (Operand.tmp 36), type := 0, pos := "law.go:103", after := _, guard := none }) rfl (fun K hK => ?_) AllReadyH.nil
          rw [if_pos (by rfl)]
          have hab := two_far (hn57.newB hb59) (((hn50.alloc (.cells (M q) 5)).alloc (.cells #[.int .i64 0, .int .i64 0, .int .i64 0, .int .i64 0] 23)).newB hb59) (by decide)
          refine wp_store_blk 23 (.tmp 7) (.tmp 36) rfl (wr.heap.size + 1 + 1) _ (arrV l) rfl rfl 23 (hn57.newB hb59) jl4 kl4 (arr_one _) ?_
          refine hK.out _ _ (hH.setRow hs57 _) (fun hH => ?_)
          clear hK K
          try simp only [Act.put]
          refine wpAnyH_ready (rs := [12]) (by kernel_rfl) (by simp) ?_
          refine AllReadyH.cons (o := { dst := none, op := Op.store 27 (Operand.tmp 8) (Operand.tmp 37), type := 0, pos := "law.go:103", after := _, guard := none }) rfl (fun K hK => ?_) AllReadyH.nil
          rw [if_pos (by rfl)]
          refine wp_store_blk 27 (.tmp 8) (.tmp 37) rfl (wr.heap.size) _ (arrV wv) rfl rfl 27 ((((hn50.alloc (.cells (M q) 5)).alloc (.cells #[.int .i64 0, .int .i64 0, .int .i64 0, .int .i64 0] 23)).newB hb59).setRowOther hab.symm) jwv kwv (arr_one _) ?_
          refine hK.out _ _ (hH.setRow hs50 _) (fun hH => ?_)
          clear hK K
          try simp only [Act.put]
          refine wpAnyH_take (i := 13) (oi := { dst := some 9, op := Op.assign (Operand.tmp 38), type := 30, pos := "law.go:103", after := _, guard := none }) (v := .int .i64 0) rfl (by kernel_rfl) (by kernel_rfl) (by kernel_rfl) (fun _ _ _ h => h) (.inl ⟨by rfl, fun w hS => by go_simp⟩) hH ?_
          try simp only [Act.put, List.setIfInBounds_toArray, List.set_cons_zero, List.set_cons_succ]
          refine wpAnyH_done (by kernel_rfl) ?_ _
          go_wp2_with fail
          go_meet
          case rel => exact ⟨wr.heap.size + 1 + 1, wr.heap.size, rfl, rfl, rfl, hH, ((hn57.newB hb59).setRow (new := arrV l)).setRowOther hab, ((((hn50.alloc (.cells (M q) 5)).alloc (.cells #[.int .i64 0, .int .i64 0, .int .i64 0, .int .i64 0] 23)).newB hb59).setRowOther hab.symm).setRow⟩
        refine AllReadyH.cons (o := { dst := some 7, op := Op.alloc 23, type := 0, pos := "law.go:103", after := _, guard := none }) rfl (fun K hK => ?_) AllReadyH.nil
        rw [if_pos (by rfl)]
        go_simp
        have hz60 : (World.heap (wr.drew.alloc (.cells #[.int .i64 0, .int .i64 0, .int .i64 0, .int .i64 0, .int .i64 0, .int .i64 0, .int .i64 0, .int .i64 0, .int .i64 0, .int .i64 0, .int .i64 0, .int .i64 0, .int .i64 0, .int .i64 0, .int .i64 0, .int .i64 0] 27))).size = wr.heap.size + 1 := ((World.size_alloc _ _).trans (congrArg (· + 1) rfl))
        have hn60 := blk_at #[.int .i64 0, .int .i64 0, .int .i64 0, .int .i64 0] 23 hz60
        have hs60 : B + 1 ≤ wr.heap.size + 1 := Nat.le_trans hH.size (Nat.le_of_eq hz60)
        refine hK.out _ _ (hH.alloc _) (fun hH => ?_)
        clear hK K
        try simp only [Act.put, List.setIfInBounds_toArray, List.set_cons_zero, List.set_cons_succ]
        refine wpAnyH_ready (rs := [2]) (by kernel_rfl) (by simp) ?_
        refine AllReadyH.cons (o := { dst := some 33, op := Op.makeSlice 38 (Operand.tmp 32) (Operand.tmp 32), type := 38, pos := "law.go:103", after := _, guard := none }) rfl (fun K hK => ?_) AllReadyH.nil
        rw [if_pos (by rfl)]
        go_simp
        have hz61 : (World.heap ((wr.drew.alloc (.cells #[.int .i64 0, .int .i64 0, .int .i64 0, .int .i64 0, .int .i64 0, .int .i64 0, .int .i64 0, .int .i64 0, .int .i64 0, .int .i64 0, .int .i64 0, .int .i64 0, .int .i64 0, .int .i64 0, .int .i64 0, .int .i64 0] 27)).alloc (.cells #[.int .i64 0, .int .i64 0, .int .i64 0, .int .i64 0] 23))).size = wr.heap.size + 1 + 1 := ((World.size_alloc _ _).trans (congrArg (· + 1) ((World.size_alloc _ _).trans (congrArg (· + 1) rfl))))
        have hn61 := blk_at (M q) 5 hz61
        have hs61 : B + 1 ≤ wr.heap.size + 1 + 1 := Nat.le_trans hH.size (Nat.le_of_eq hz61)
        refine hK.out _ _ (hH.alloc _) (fun hH => ?_)
        clear hK K
        try simp only [Act.put, List.setIfInBounds_toArray, List.set_cons_zero, List.set_cons_succ]
        refine wpAnyH_ready (rs := [3]) (by kernel_rfl) (by simp) ?_
        refine AllReadyH.cons (o := { dst := some 34, op := Op.convert 38 9 (Operand.tmp 33), type := 9, pos := "law.go:103", after := _, guard := none }) rfl (fun K hK => ?_) AllReadyH.nil
        rw [if_pos (by rfl)]
        have hm62 := hn61
        refine wp_convert 38 9 (.tmp 33) rfl _ rfl _ (hcv _ _ hm62) ?_
        refine hK.out _ _ hH (fun hH => ?_)
        clear hK K
        try simp only [Act.put, List.setIfInBounds_toArray, List.set_cons_zero, List.set_cons_succ]
        refine wpAnyH_ready (rs := [4]) (by kernel_rfl) (by simp) ?_
        refine AllReadyH.cons (o := { dst := some 35, op := Op.call { callee := Callee.value (Operand.func 9), args := #[Operand.tmp 31, Operand.tmp 34], argTypes := #[23, 9] }, type := 36, pos := "law.go:103", after := _, guard := none }) rfl (fun K hK => ?_) AllReadyH.nil
        rw [if_pos (by rfl)]
        go_simp
        refine (HPA.out _ hH.bands).mono ?_
        rintro e wc63 ⟨rfl, hb63⟩
        go_wp2_with fail
        refine hK.out _ _ (hH.below hb63) (fun hH => ?_)
        clear hK K
        try simp only [Act.put, List.setIfInBounds_toArray, List.set_cons_zero, List.set_cons_succ]
        refine wpAnyH_take (i := 5) (oi := { dst := some 30, op := Op.move (Operand.tmp 35), type := 36, pos := "law.go:103", after := _, guard := none }) (v := .tuple #[.agg (arrV l), .agg (arrV wv), .int .i64 0]) rfl (by kernel_rfl) (by kernel_rfl) (by kernel_rfl) (fun _ _ _ h => h) (.inl ⟨by rfl, fun w hS => by go_simp⟩) hH ?_
        try simp only [Act.put, List.setIfInBounds_toArray, List.set_cons_zero, List.set_cons_succ]
        refine wpAnyH_take (i := 6) (oi := { dst := some 36, op := Op.extract (Operand.tmp 30) 0, type := 23, pos := "law.go:103", after := _, guard := none }) (v := .agg (arrV l)) rfl (by kernel_rfl) (by kernel_rfl) (by kernel_rfl) (fun _ _ _ h => h) (.inl ⟨by rfl, fun w hS => by go_simp⟩) hH ?_
        try simp only [Act.put, List.setIfInBounds_toArray, List.set_cons_zero, List.set_cons_succ]
        refine wpAnyH_take (i := 7) (oi := { dst := some 37, op := Op.extract (Operand.tmp 30) 1, type := 27, pos := "law.go:103", after := _, guard := none }) (v := .agg (arrV wv)) rfl (by kernel_rfl) (by kernel_rfl) (by kernel_rfl) (fun _ _ _ h => h) (.inl ⟨by rfl, fun w hS => by go_simp⟩) hH ?_
        try simp only [Act.put, List.setIfInBounds_toArray, List.set_cons_zero, List.set_cons_succ]
        refine wpAnyH_take (i := 8) (oi := { dst := some 38, op := Op.extract (Operand.tmp 30) 2, type := 30, pos := "law.go:103", after := _, guard := none }) (v := .int .i64 0) rfl (by kernel_rfl) (by kernel_rfl) (by kernel_rfl) (fun _ _ _ h => h) (.inl ⟨by rfl, fun w hS => by go_simp⟩) hH ?_
        try simp only [Act.put, List.setIfInBounds_toArray, List.set_cons_zero, List.set_cons_succ]
        refine wpAnyH_ready (rs := [11]) (by kernel_rfl) (by simp) ?_
        refine AllReadyH.cons (o := { dst := none, op := Op.store 23 (Operand.tmp 7) (Operand.tmp 36), type := 0, pos := "law.go:103", after := _, guard := none }) rfl (fun K hK => ?_) AllReadyH.nil
        rw [if_pos (by rfl)]
        have hab := two_far ((hn60.alloc (.cells (M q) 5)).newB hb63) (((hn50.alloc (.cells #[.int .i64 0, .int .i64 0, .int .i64 0, .int .i64 0] 23)).alloc (.cells (M q) 5)).newB hb63) (by decide)
        refine wp_store_blk 23 (.tmp 7) (.tmp 36) rfl (wr.heap.size + 1) _ (arrV l) rfl rfl 23 ((hn60.alloc (.cells (M q) 5)).newB hb63) jl4 kl4 (arr_one _) ?_
        refine hK.out _ _ (hH.setRow hs60 _) (fun hH => ?_)
        clear hK K
        try simp only [Act.put]
        refine wpAnyH_ready (rs := [12]) (by kernel_rfl) (by simp) ?_
        refine AllReadyH.cons (o := { dst := none, op := Op.store 27 (Operand.tmp 8) (Operand.tmp 37), type := 0, pos := "law.go:103", after := _, guard := none }) rfl (fun K hK => ?_) AllReadyH.nil
        rw [if_pos (by rfl)]
        refine wp_store_blk 27 (.tmp 8) (.tmp 37) rfl (wr.heap.size) _ (arrV wv) rfl rfl 27 ((((hn50.alloc (.cells #[.int .i64 0, .int .i64 0, .int .i64 0, .int .i64 0] 23)).alloc (.cells (M q) 5)).newB hb63).setRowOther hab.symm) jwv kwv (arr_one _) ?_
        refine hK.out _ _ (hH.setRow hs50 _) (fun hH => ?_)
        clear hK K
        try simp only [Act.put]
        refine wpAnyH_take (i := 13) (oi := { dst := some 9, op := Op.assign (Operand.tmp 38), type := 30, pos := "law.go:103", after := _, guard := none }) (v := .int .i64 0) rfl (by kernel_rfl) (by kernel_rfl) (by kernel_rfl) (fun _ _ _ h => h) (.inl ⟨by rfl, fun w hS => by go_simp⟩) hH ?_
        try simp only [Act.put, List.setIfInBounds_toArray, List.set_cons_zero, List.set_cons_succ]
        refine wpAnyH_done (by kernel_rfl) ?_ _
        go_wp2_with fail
        go_meet
        case rel => exact ⟨wr.heap.size + 1, wr.heap.size, rfl, rfl, rfl, hH, (((hn60.alloc (.cells (M q) 5)).newB hb63).setRow (new := arrV l)).setRowOther hab, ((((hn50.alloc (.cells #[.int .i64 0, .int .i64 0, .int .i64 0, .int .i64 0] 23)).alloc (.cells (M q) 5)).newB hb63).setRowOther hab.symm).setRow⟩
      case rest =>
        obtain ⟨a, b, rfl, rfl, rfl, hY, hA7, hB8⟩ := hcut
        obtain ⟨S, hS⟩ : ∃ S, wc.heap.size = S := ⟨_, rfl⟩
        have hq1 := Blk.new wc (M q) 5
        rw [hS] at hq1
        go_wp2_with (first | (refine wpList_build_l rfl 23 #[] rfl [] rfl (arrV Z4) HSZ.out ?_))
        refine (HPB.out _ (hY.alloc _).bands).mono ?_
        rintro e w5 ⟨rfl, hb5⟩
        have hY5 := (hY.alloc (.cells (M q) 5)).below hb5
        have hA75 := (hA7.alloc (.cells (M q) 5)).newB hb5
        obtain ⟨g, hg⟩ : ∃ g, w5.heap.size = g := ⟨_, rfl⟩
        obtain ⟨hN1, hN2, hk6, hs6⟩ := two_new (fun _ => False) w5 #[.int .i64 0, .int .i64 0, .int .i64 0, .int .i64 0] #[.int .i64 0, .int .i64 0, .int .i64 0, .int .i64 0, .int .i64 0, .int .i64 0, .int .i64 0, .int .i64 0, .int .i64 0, .int .i64 0, .int .i64 0, .int .i64 0, .int .i64 0, .int .i64 0, .int .i64 0, .int .i64 0] 23 27
        rw [hg] at hN1 hN2 hs6
        have hag : a < g := by rw [← hg]; exact hA75.lt
        have hBg : B + 1 ≤ g := by rw [← hg]; exact hY5.size
        have hM1 := (hN1.setRow (new := arrV Z4)).setRowOther (g := g + 1) (new := arrV Z16) (by omega)
        have hM2 := (hN2.setRowOther (g := g) (new := arrV Z4) (by omega)).setRow (new := arrV Z16)
        have hA76 : Blk ((((w5.alloc (.cells #[.int .i64 0, .int .i64 0, .int .i64 0, .int .i64 0] 23)).alloc (.cells #[.int .i64 0, .int .i64 0, .int .i64 0, .int .i64 0, .int .i64 0, .int .i64 0, .int .i64 0, .int .i64 0, .int .i64 0, .int .i64 0, .int .i64 0, .int .i64 0, .int .i64 0, .int .i64 0, .int .i64 0, .int .i64 0] 27)).setRow g (arrV Z4)).setRow (g + 1) (arrV Z16)) a (arrV l) 23 := (((hA75.alloc _).alloc _).setRowOther (by omega)).setRowOther (by omega)
        have hY6 : ZerW w ((((w5.alloc (.cells #[.int .i64 0, .int .i64 0, .int .i64 0, .int .i64 0] 23)).alloc (.cells #[.int .i64 0, .int .i64 0, .int .i64 0, .int .i64 0, .int .i64 0, .int .i64 0, .int .i64 0, .int .i64 0, .int .i64 0, .int .i64 0, .int .i64 0, .int .i64 0, .int .i64 0, .int .i64 0, .int .i64 0, .int .i64 0] 27)).setRow g (arrV Z4)).setRow (g + 1) (arrV Z16)) B l := (((hY5.alloc _).alloc _).setRow hBg _).setRow (by omega) _
        go_upto_region 10 with (first | (refine wpList_store_blk rfl 23 (.tmp 10) (.tmp 45) rfl g _ (arrV Z4) rfl rfl 23 hN1 z4i k4 (arr_one _) ?_) | (refine wpList_store_blk rfl 27 (.tmp 11) (.tmp 46) rfl (g + 1) _ (arrV Z16) rfl rfl 27 (hN2.setRowOther (by omega)) z16i k16 (arr_one _) ?_))
        clear hY hA7 hB8 hq1 hY5 hA75 hN1 hN2 hk6 hs6
        generalize ((((w5.alloc (.cells #[.int .i64 0, .int .i64 0, .int .i64 0, .int .i64 0] 23)).alloc (.cells #[.int .i64 0, .int .i64 0, .int .i64 0, .int .i64 0, .int .i64 0, .int .i64 0, .int .i64 0, .int .i64 0, .int .i64 0, .int .i64 0, .int .i64 0, .int .i64 0, .int .i64 0, .int .i64 0, .int .i64 0, .int .i64 0] 27)).setRow g (arrV Z4)).setRow (g + 1) (arrV Z16)) = w6 at hM1 hM2 hA76 hY6 ⊢
        have r1 := hA76.rangeAll
        have r2 := hY6.lev.rangeAll
        have r3 := hM1.rangeAll
        have r4 := hM2.rangeAll
        have hf := hY6.far
        go_wp2_with (first | (refine wpList_load_g (by rfl) 23 (.tmp 7) rfl a 0 rfl (intsV l) (.array 4 3) r1 Tryd.underlying23 rfl il4 ?_) | (refine wpList_load_g (by rfl) 23 (.tmp 2) rfl B 0 rfl (intsV l) (.array 4 3) r2 Tryd.underlying23 rfl il4 ?_) | (refine wpList_load_g (by rfl) 23 (.tmp 10) rfl g 0 rfl (intsV Z4) (.array 4 3) r3 Tryd.underlying23 rfl z4s ?_) | (refine wpList_load_g (by rfl) 27 (.tmp 11) rfl (g + 1) 0 rfl (intsV Z16) (.array 16 3) r4 Tryd.underlying27 rfl z16s ?_) | (refine wpList_build_g (by rfl) 23 #[] rfl [] rfl (arrV Z4) HSZ.out ?_) | (refine wpList_build_g (by rfl) 27 #[] rfl [] rfl (arrV Z16) HBZ.out ?_) | (refine wpList_eql_g (by rfl) 23 23 (.tmp 55) (.tmp 56) rfl (arrV l) (arrV l) rfl rfl HG4.out true (HQL.out _) ?_) | (refine wpList_eql_g (by rfl) 23 23 (.tmp 60) (.tmp 61) rfl (arrV Z4) (arrV Z4) rfl rfl HG4.out true (HQ4.out _) ?_) | (refine wpList_eql_g (by rfl) 27 27 (.tmp 65) (.tmp 66) rfl (arrV Z16) (arrV Z16) rfl rfl HG16.out true (HQ16.out _) ?_))
        go_ret
        exact ⟨rfl, by first | exact hf | (rw [hB]; exact hf)⟩
end Go.Proofs.YtnohjidoelohkaaDoor
