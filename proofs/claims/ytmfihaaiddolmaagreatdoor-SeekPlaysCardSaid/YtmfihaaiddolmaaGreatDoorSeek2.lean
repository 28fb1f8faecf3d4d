/- The walk of seek.Near: the nearest check, sought from behind. -/
import Derived.Test.YtmfihaaiddolmaaGreatDoorSeek1
set_option linter.unusedSimpArgs false
set_option linter.unusedVariables false
namespace Go.Proofs.YtmfihaaiddolmaaGreatDoor
open Go.RowKit Go.Shelf

/-- The places from i down. -/
def downs (i : Nat) : List Nat := (List.range i).reverse
theorem downs_zero : downs 0 = [] := rfl
theorem downs_succ (i : Nat) : downs (i + 1) = i :: downs i := by unfold downs; rw [List.range_succ, List.reverse_append]; rfl
theorem downs_len (i : Nat) : (downs i).length = i := by simp [downs]
theorem downs_take (i m : Nat) (h : m < i) : (downs i).take (m + 1) = (downs i).take m ++ [i - 1 - m] := by
  have hl : m < (downs i).length := by rw [downs_len]; exact h
  rw [List.take_add_one, List.getElem?_eq_getElem hl, Option.toList_some]
  congr 2
  simp [downs]
def entAt (l : List Ent) (k : Nat) : Ent := l[k]?.getD ⟨0, 0, ⟨#[]⟩⟩
theorem entAt_get {l : List Ent} {k : Nat} (h : k < l.length) : l[k]? = some (entAt l k) := by unfold entAt; rw [List.getElem?_eq_getElem h]; rfl
theorem near_miss {l : List Ent} {i : Nat} (hi : i ≤ l.length) (h : ∀ k ∈ downs i, isChk (entAt l k) = false) : nearE l i = none := by
  induction i with
  | zero => rfl
  | succ i ih =>
    rw [downs_succ] at h
    rw [near_succ (entAt_get (by omega)), h i List.mem_cons_self]
    exact ih (by omega) (fun k hk => h k (List.mem_cons_of_mem _ hk))
theorem near_hit {l : List Ent} {i x : Nat} {q : List Nat} (hi : i ≤ l.length) (hp : q ++ [x] <+: downs i) (h : ∀ k ∈ q, isChk (entAt l k) = false) (hx : isChk (entAt l x) = true) : nearE l i = some x := by
  induction i generalizing q with
  | zero => rw [downs_zero] at hp; have := hp.length_le; simp at this
  | succ i ih =>
    rw [downs_succ] at hp
    rw [near_succ (entAt_get (by omega))]
    cases q with
    | nil =>
      rw [List.nil_append, List.cons_prefix_cons] at hp
      rw [← hp.1, hx]; rfl
    | cons y r =>
      rw [List.cons_append, List.cons_prefix_cons] at hp
      have h1 := h y List.mem_cons_self
      rw [hp.1] at h1
      rw [h1]
      exact ih (by omega) hp.2 (fun k hk => h k (List.mem_cons_of_mem _ hk))
theorem Backward_any (p : Option Addr) (n cap : Nat) (w : World) : Calls Tryz.prog 69 #[.slice p n cap] w fun r w' => r = .returned (.func (.func 103) #[] #[.pointer (some ⟨w.heap.size, 0, none⟩)]) ∧ w' = w.alloc (.cells #[.slice p n cap] 45) := by
  go_enter Tryz.func69, Tryz.ntmps69
  go_wp2
  go_ret
  exact ⟨rfl, rfl⟩
/-- A load of what lies in the midst of a block, within a fence. -/
theorem ldI {F : Fence} {d : Nat} {ops : Array Oper} {rest : List Oper} {op : Oper} {a : Act} {w : World} {Q : Exit → Act → World → Prop} (ty : TypeId) {x : Operand} (ho : op.op = .load ty x) (hwd : Region.wanted op (yielded ops a.tmps) = true) {n : Nat} (hW : Whole ty n)
    {b o : Nat} (hx : a.eval x = .pointer (some ⟨b, o, none⟩)) {cs : Array Value} (hb : w.rangeAt b o cs.toList) (hs : cs.size = n) (h : wpListIn F d Tryz.prog ops Q rest (a.put op.dst (.agg cs)) w) : wpListIn F d Tryz.prog ops Q (op :: rest) a w :=
  wpListIn_step fun K hK => by
    rw [if_pos hwd]
    obtain ⟨d, hu, hd, hi⟩ := hW
    unfold Oper.wpIn
    refine ⟨?_, ?_⟩
    · intro f hf; simp [Oper.about, ho] at hf
    · rw [Oper.semAt_plain F _ _ (by rw [ho]; intro c hc'; cases hc')]
      unfold execOp
      simp only [ho, hx, Instr.loadAt, Instr.sureAddr, Sem.run_bind, Sem.run_pure, Result.andThen_ok, run_loadVar_mid w b o ty cs.toList d hb hu hd (by rw [hi, Array.length_toList, hs])]
      exact hK _ _ h
theorem Blk.range3 {W : World} {b : Nat} {cs : Array Value} {t : TypeId} (h : Blk W b cs t) : W.rangeAt b 0 cs.toList := fun j v hv => by
  rw [Nat.zero_add, h.cell j]; simpa using hv
theorem keeps_below {W W' : World} (h : Below W.heap.size W W') : KeepsOthers W W' := ⟨h.size, fun k _ hk _ => (h.block k (Array.getElem?_eq_some_iff.1 hk).1).trans hk⟩
def encB (l : List Ent) (k : Nat) : Array Value := #[.int .i64 (k : Nat), .agg (entV (entAt l k))]
attribute [local go_sem] Oper.semAt_some
set_option maxRecDepth 100000 in
set_option maxHeartbeats 2000000 in
theorem back_stops (d : Nat) (hd : 1 ≤ d) {l : List Ent} {i : Nat} (hi : i ≤ l.length) (hl : i ≤ 1000) {p : Option Addr} {lo hi2 cap Bx : Nat} {w : World} (hS : SL w lo hi2 3 p i cap (flE (l.take i))) (hBx : Blk w Bx #[.slice p i cap] 45) :
    SeqStopsK Fence.wide d Tryz.prog 103 #[.pointer (some ⟨Bx, 0, none⟩)] (encB l) (Below w.heap.size) (fun xs => xs = downs i) (fun pre => pre <+: downs i) i w := fun lp J Jx W hW _ _ hY h0 => by
  refine callsIn_of_wp Tryz.func103 rfl trivial ?_ rfl
  simp only [Tryz.ntmps103, List.size_toArray, List.length_cons, List.length_nil, Nat.reduceAdd, Nat.reduceSub, Array.replicate_succ, Array.replicate_zero, List.push_toArray, List.append_toArray, List.nil_append, List.cons_append]
  have hlt0 := hBx.lt
  have b0 := hBx.below hW (by omega)
  have c0 := b0.cell 0
  simp only [List.getElem?_toArray, List.getElem?_cons_zero] at c0
  have hcap := hS.2.1
  have hcm := hS.2.2.1
  unfold maxLen at hcm
  have hhi := hS.2.2.2.1
  clear b0
  gi_wp2
  gi_loopw [3] (fun k wr => ∃ m : Nat, m ≤ i ∧ k = .int .i64 ((i : Int) - 1 - m) ∧ J ((downs i).take m) wr ∧ Below w.heap.size w wr) (fun k _ => (intOf k + 1).toNat)
  case atStart => exact ⟨0, by omega, by go_num, h0, hW⟩
  case round =>
    clear c0
    obtain ⟨m, hm, rfl, hJ, hB⟩ := hrel
    have b0 := hBx.below hB (by omega)
    have c0 := b0.cell 0
    simp only [List.getElem?_toArray, List.getElem?_cons_zero] at c0
    have hJl : ((downs i).take m).length = m := by rw [List.length_take, downs_len]; omega
    by_cases hlt : m < i
    · obtain ⟨k, hk⟩ : ∃ k, i - 1 - m = k := ⟨_, rfl⟩
      have hkk : (i : Int) - 1 - m = k := by omega
      have hki : k < i := by omega
      have ht := downs_take i m hlt
      have hkm : i = k + 1 + m := by omega
      rw [hk] at ht
      rw [hkk]
      obtain ⟨f1, t1, a1, b1, hy1, hR1⟩ := hY _ k wr hJ (by omega)
      rw [← ht] at hR1
      dsimp only [encB] at hy1
      have hQ := hS.below (hB.mono hhi)
      have hES : ES wr lo hi2 p cap (l.take i) := by unfold ES; rw [List.length_take, Nat.min_eq_left hi]; exact hQ
      have hget : (l.take i)[k]? = some (entAt l k) := by rw [List.getElem?_take, if_pos hki]; exact entAt_get (by omega)
      obtain ⟨b, o, rfl, hb1, hb2, hr⟩ := hES.get hget
      have HKM := Lib.hid hkm
      clear hkk hk ht hES hget hQ hkm
      gi_wp2_with (first | (refine ldI 61 rfl (by rfl) w_Entry rfl (by assumption) (by rfl) ?_))
      refine hR1.mono ?_
      rintro e W1 (⟨rfl, hJ1, hk1⟩ | ⟨rfl, hx1⟩)
      · gi_wp2
        go_roundw
        case rel => exact ⟨m + 1, hlt, by have := HKM.out; congr 1; omega, hJ1, hB.trans hk1⟩
        case measure => have := HKM.out; simp [intOf] <;> omega
      · gi_wp2
        refine bodyPost_ret (results_none rfl _ _ _) rfl ?_
        exact ⟨⟨_, rfl⟩, .inr ⟨_, List.take_prefix _ _, hx1⟩⟩
    · obtain rfl : m = i := by omega
      have ht : (downs m).take m = downs m := List.take_of_length_le (by rw [downs_len]; omega)
      rw [ht] at hJ
      gi_wp2
      go_end0
      exact ⟨⟨_, rfl⟩, .inl ⟨_, rfl, hJ⟩⟩
/-- Near's two answers. -/
def optN : Option Nat → Int
  | some k => k
  | none => 0
def nearN (l : List Ent) (i : Int) : Int := if mayE l.length i then optN (nearE l i.toNat) else 0
def nearB (l : List Ent) (i : Int) : Bool := mayE l.length i && (nearE l i.toNat).isSome
def MissC (l : List Ent) (pre : List Nat) : Prop := ∀ k ∈ pre, isChk (entAt l k) = false
def IxN (l : List Ent) (b : Nat) (c : Code) (pre : List Nat) (W : World) : Prop :=
  c = .ret ∧ ∃ q x, pre = q ++ [x] ∧ MissC l q ∧ isChk (entAt l x) = true ∧ Blk W b #[.int .i64 (x : Nat)] 3 ∧ Blk W (b + 1) #[.bool true] 4
theorem missC_app {l : List Ent} {pre : List Nat} {x : Nat} (h : MissC l pre) (hx : isChk (entAt l x) = false) : MissC l (pre ++ [x]) := fun k hk => by
  rcases List.mem_append.1 hk with h1 | h1
  · exact h k h1
  · rw [List.mem_singleton.1 h1]; exact hx
set_option maxRecDepth 100000 in
set_option maxHeartbeats 4000000 in
theorem Near_in {l : List Ent} {n : Nat} (hn : l.length = n) (hl : n ≤ 1000) {p : Option Addr} {lo hi cap : Nat} {w : World} (hE : SL w lo hi 3 p n cap (flE l)) {i : Nat} (hi2 : i ≤ n) :
    Calls Tryz.prog 27 #[.slice p n cap, .int .i64 (i : Nat)] w fun r w' => r = .returned (.tuple #[.int .i64 (optN (nearE l i)), .bool (nearE l i).isSome]) ∧ Below w.heap.size w w' := by
  have hcap := hE.2.1
  have hcm := hE.2.2.1
  unfold maxLen at hcm
  have hic : (i : Int) ≤ (cap : Int) := by omega
  have hic2 : i ≤ cap := by omega
  have hQ := hE.take hi2
  rw [flat_take _ l (ent_len l)] at hQ
  have hil : i ≤ l.length := by omega
  have hmay : mayE n (i : Nat) = true := by unfold mayE; simp; omega
  obtain ⟨R1, hR1⟩ : ∃ R, optN (nearE l i) = R := ⟨_, rfl⟩
  obtain ⟨R2, hR2⟩ : ∃ R, (nearE l i).isSome = R := ⟨_, rfl⟩
  rw [hR1, hR2]
  have HR1 := Lib.hid hR1
  have HR2 := Lib.hid hR2
  clear hR1 hR2
  refine (callsIn_wide (n := 3)).1 ?_
  refine callsIn_of_wp_marks Tryz.func27 rfl trivial ?_ rfl
  simp only [Tryz.ntmps27, List.size_toArray, List.length_cons, List.length_nil, Nat.reduceAdd, Nat.reduceSub, Array.replicate_succ, Array.replicate_zero, List.push_toArray, List.append_toArray, List.nil_append, List.cons_append]
  gi_wp2_with (first | (refine ⟨trivial, ?_⟩; gi_at_call 68; refine (callsIn_wide.2 (may_any _ _ _ _ _)).mono ?_; rintro e w' ⟨rfl, rfl⟩; rw [hmay]) | (refine ⟨trivial, ?_⟩; gi_at_call 69; refine (callsIn_wide.2 (Backward_any _ _ _ _)).mono ?_; rintro e w' ⟨rfl, rfl⟩))
  clear hmay hcap hcm hic hic2 hE
  have b0 := Blk.new w #[.int .i64 0] 3
  have b1 := Blk.new (w.alloc (.cells #[.int .i64 0] 3)) #[.bool false] 4
  have b2 := Blk.new ((w.alloc (.cells #[.int .i64 0] 3)).alloc (.cells #[.bool false] 4)) #[.slice p i cap] 45
  simp only [World.size_alloc] at b1 b2
  have hB0 : Below w.heap.size w (((w.alloc (.cells #[.int .i64 0] 3)).alloc (.cells #[.bool false] 4)).alloc (.cells #[.slice p i cap] 45)) := by go_grown
  have hQ2 : SL _ lo hi 3 p i cap (flE (l.take i)) := ((hQ.alloc (.cells #[.int .i64 0] 3)).alloc (.cells #[.bool false] 4)).alloc (.cells #[.slice p i cap] 45)
  have hs3 : (((w.alloc (.cells #[.int .i64 0] 3)).alloc (.cells #[.bool false] 4)).alloc (.cells #[.slice p i cap] 45)).heap.size = w.heap.size + 3 := by simp
  replace b0 := (b0.alloc (.cells #[.bool false] 4)).alloc (.cells #[.slice p i cap] 45)
  replace b1 := b1.alloc (.cells #[.slice p i cap] 45)
  obtain ⟨W3, hW3⟩ : ∃ W3, (((w.alloc (.cells #[.int .i64 0] 3)).alloc (.cells #[.bool false] 4)).alloc (.cells #[.slice p i cap] 45)) = W3 := ⟨_, rfl⟩
  rw [hW3] at b0 b1 b2 hB0 hQ2 hs3 ⊢
  clear hW3
  refine wpIn_rangeFunc_ownH rfl (by omega) (gf := 103) (lb := #[.pointer (some ⟨w.heap.size + 1 + 1, 0, none⟩)]) rfl trivial (enters_of Tryz.func103 (by kernel_rfl) rfl)
    (back_stops 2 (by omega) hil (by omega) hQ2 b2) belowK_t (fun W l o o' hl h h1 h2 => belowK_b (Nat.le_refl _) W l o o' hl h h1 h2) (Below.refl _ _) (fun _ => rfl)
    (fun pre W => ((Blk W w.heap.size #[.int .i64 0] 3 ∧ Blk W (w.heap.size + 1) #[.bool false] 4) ∧ MissC l pre) ∧ Below W3.heap.size W3 W)
    (fun c pre W => IxN l w.heap.size c pre W ∧ Below w.heap.size w W)
    (OwnFrom.and (OwnFrom.and (OwnFrom.and (Own.from (blk_own _ _ _) _) (Own.from (blk_own _ _ _) _)) (ownFrom_pure _ _)) (ownFrom_below (Nat.le_refl _) (Nat.le_refl _)))
    (fun c => OwnFrom.and ?ix (ownFrom_below (Nat.le_refl _) (by omega)))
    ⟨⟨⟨b0, b1⟩, fun k hk => by cases hk⟩, Below.refl _ _⟩
    (fun x a' W => ∃ Bx, w.heap.size + 2 ≤ Bx ∧ Blk W Bx (entV (entAt l x)) 61 ∧ a' = { tmps := #[.slice p n cap, .int .i64 i, undef, undef, .pointer (some ⟨w.heap.size, 0, none⟩), .pointer (some ⟨w.heap.size + 1, 0, none⟩), .int .i64 (x : Nat), .pointer (some ⟨Bx, 0, none⟩), .slice p n cap, .int .i64 i, .bool true, .bool false, .slice p n cap, .int .i64 i, .slice p i cap, .func (.func 103) #[] #[.pointer (some ⟨w.heap.size + 1 + 1, 0, none⟩)], .int .i64 (x : Nat), .agg (entV (entAt l x)), undef, undef, undef, undef, undef, undef, undef, undef], defers := [] })
    ?ax ?assign ?body ?done ?stop
  case ix =>
    rintro pre A B row ⟨rfl, q, x, hq, hn, hx, k1, k2⟩ hg hr
    exact ⟨rfl, q, x, hq, hn, hx, k1.ownF hg hr, k2.ownF hg hr⟩
  case ax =>
    rintro x a' _ A B row ⟨Bx, h1, h2, h3⟩ hg hr
    exact ⟨Bx, h1, h2.ownF hg hr, h3⟩
  case assign =>
    rintro lp pre x W K ⟨⟨⟨k0, k1⟩, hf⟩, hB⟩ hK
    dsimp only [encB]
    gi_wp2
    have hsz := hB.size
    have hs1 := k1.lt
    exact hK _ _ ((KeepsOthers.alloc _ _).from _) ((Below.refl _ _).alloc (by omega) _) ⟨⟨⟨k0.alloc _, k1.alloc _⟩, hf⟩, hB.alloc (by omega) _⟩ ⟨W.heap.size, by omega, Blk.new _ _ _, rfl⟩
  case body =>
    rintro lp pre x a' W hlp ⟨r, hr⟩ ⟨⟨⟨k0, k1⟩, hf⟩, hB⟩ ⟨Bx, hBx, bX, rfl⟩ hlt
    have e0 := bX.cell 0
    have e1 := bX.cell 1
    have e2 := bX.cell 2
    have g0 := k0.cell 0
    have g1 := k1.cell 0
    simp only [List.getElem?_toArray, List.getElem?_cons_zero, List.getElem?_cons_succ] at e0 e1 e2 g0 g1
    have f0 := k0.frozen 0
    have f1 := k1.frozen 0
    have hs1 := k1.lt
    have hsz := hB.size
    by_cases h3 : (entAt l x).kind = 3
    · cases hre : rightE (entAt l x) with
      | true =>
        gi_wp2_with (first | (refine ldI 61 rfl (by rfl) w_Entry rfl (bX.range3) rfl ?_) | (refine ⟨trivial, ?_⟩; gi_at_call 65; refine (CallsIn.inRound lp (callsIn_wide.2 (ERight_any (entAt l x) _))).mono ?_; rintro e W1 ⟨rfl, hb1⟩; rw [hre]; have k0' := k0.newB hb1; have k1' := k1.newB hb1; have f0' := k0'.frozen 0; have f1' := k1'.frozen 0; have g0' := k0'.cell 0; have g1' := k1'.cell 0; simp only [List.getElem?_toArray, List.getElem?_cons_zero] at g0' g1'))
        refine ⟨?_, ⟨rfl, pre, x, rfl, hf, by unfold isChk; rw [hre, h3]; rfl, ?_, ?_⟩, ?_⟩
        · exact ((keeps_below hb1).trans ((KeepsOthers.setCell _ _ _).trans (KeepsOthers.setCell _ _ _))).from _
        · exact (k0'.set 0 _).other (by simp only []; omega) _
        · exact (k1'.other (by simp only []; omega) _).set 0 _
        · exact (((hB0.trans (hB.mono (by omega))).trans (hb1.mono (by omega))).setCell (p := ⟨_, 0, none⟩) (Nat.le_refl _) _).setCell (p := ⟨_, 0, none⟩) (by simp only []; omega) _
      | false =>
        gi_wp2_with (first | (refine ldI 61 rfl (by rfl) w_Entry rfl (bX.range3) rfl ?_) | (refine ⟨trivial, ?_⟩; gi_at_call 65; refine (CallsIn.inRound lp (callsIn_wide.2 (ERight_any (entAt l x) _))).mono ?_; rintro e W1 ⟨rfl, hb1⟩; rw [hre]))
        exact ⟨(keeps_below hb1).from _, hb1.mono (by omega), ⟨⟨k0.newB hb1, k1.newB hb1⟩, missC_app hf (by unfold isChk; rw [hre]; simp)⟩, hB.trans (hb1.mono (by omega))⟩
    · have h3' : ((entAt l x).kind == 3) = false := by simpa using h3
      gi_wp2_with (refine ⟨trivial, ?_⟩)
      exact ⟨(KeepsOthers.refl _).from _, Below.refl _ _, ⟨⟨k0, k1⟩, missC_app hf (by unfold isChk; simp [h3])⟩, hB⟩
  case done =>
    rintro D ys W hD rfl ⟨⟨⟨k0, k1⟩, hf⟩, hB⟩ hK
    have hnone := near_miss hil hf
    have e1 : R1 = 0 := by rw [← HR1.out, hnone]; rfl
    have e2 : R2 = false := by rw [← HR2.out, hnone]; rfl
    have H1 := Lib.hid e1
    have H2 := Lib.hid e2
    clear e1 e2 hnone
    have f0 := k0.frozen 0
    have f1 := k1.frozen 0
    have g0 := k0.cell 0
    have g1 := k1.cell 0
    simp only [List.getElem?_toArray, List.getElem?_cons_zero] at g0 g1
    gi_wp2
    have hK1 := (KeepsOthers.setCell W ⟨w.heap.size, 0, none⟩ (.int .i64 0)).same D _ hK rfl
    have hK3 := (KeepsOthers.setCell _ ⟨w.heap.size + 1, 0, none⟩ (.bool false)).same D _ hK1 rfl
    refine ⟨by simp, .inl ⟨_, _, rfl, run_takeDeferred hK3, ?_⟩⟩
    have hB3 : Below w.heap.size w ((W.setCell ⟨w.heap.size, 0, none⟩ (.int .i64 0)).setCell ⟨w.heap.size + 1, 0, none⟩ (.bool false)) := ((hB0.trans (hB.mono (by omega))).setCell (p := ⟨_, 0, none⟩) (Nat.le_refl _) _).setCell (p := ⟨_, 0, none⟩) (by simp only []; omega) _
    have k0' : Blk ((W.setCell ⟨w.heap.size, 0, none⟩ (.int .i64 0)).setCell ⟨w.heap.size + 1, 0, none⟩ (.bool false)) w.heap.size #[.int .i64 0] 3 := (k0.set 0 _).other (by simp only []; omega) _
    have k1' : Blk ((W.setCell ⟨w.heap.size, 0, none⟩ (.int .i64 0)).setCell ⟨w.heap.size + 1, 0, none⟩ (.bool false)) (w.heap.size + 1) #[.bool false] 4 := (k1.other (by simp only []; omega) _).set 0 _
    obtain ⟨W4, hW4⟩ : ∃ W4, (W.setCell ⟨w.heap.size, 0, none⟩ (.int .i64 0)).setCell ⟨w.heap.size + 1, 0, none⟩ (.bool false) = W4 := ⟨_, rfl⟩
    rw [hW4] at hK3 hB3 k0' k1' ⊢
    have r1 := (k0'.ownF (n := 0) (grownBy_putObj' _ D (.deferred none)) (fun r e => by cases e; exact ⟨Nat.zero_le _, _, hK3, rfl⟩)).cell 0
    have r2 := (k1'.ownF (n := 0) (grownBy_putObj' _ D (.deferred none)) (fun r e => by cases e; exact ⟨Nat.zero_le _, _, hK3, rfl⟩)).cell 0
    simp only [List.getElem?_toArray, List.getElem?_cons_zero] at r1 r2
    refine ⟨.tuple #[.int .i64 0, .bool false], ?_, by rw [H1.out, H2.out], hB3.trans (belowK_b (w := w) (Nat.le_refl _) _ D _ _ (by omega) hK3 rfl rfl)⟩
    simp [results, Tryz.f27, go_sem, r1, r2]
  case stop =>
    rintro D c pre W hD hpre ⟨⟨rfl, q, x, rfl, hq, hx, k0, k1⟩, hB⟩ hK
    have hhit := near_hit hil hpre hq hx
    have e1 : R1 = x := by rw [← HR1.out, hhit]; rfl
    have e2 : R2 = true := by rw [← HR2.out, hhit]; rfl
    have H1 := Lib.hid e1
    have H2 := Lib.hid e2
    clear e1 e2 hhit
    gi_wp2
    refine ⟨by simp, .inl ⟨_, _, rfl, run_takeDeferred hK, ?_⟩⟩
    have r1 := (k0.ownF (n := 0) (grownBy_putObj' _ D (.deferred none)) (fun r e => by cases e; exact ⟨Nat.zero_le _, _, hK, rfl⟩)).cell 0
    have r2 := (k1.ownF (n := 0) (grownBy_putObj' _ D (.deferred none)) (fun r e => by cases e; exact ⟨Nat.zero_le _, _, hK, rfl⟩)).cell 0
    simp only [List.getElem?_toArray, List.getElem?_cons_zero] at r1 r2
    refine ⟨.tuple #[.int .i64 (x : Nat), .bool true], ?_, by rw [H1.out, H2.out], hB.trans (belowK_b (w := w) (Nat.le_refl _) _ D _ _ (by omega) hK rfl rfl)⟩
    simp [results, Tryz.f27, go_sem, r1, r2]
theorem Near_out (p : Option Addr) (n cap : Nat) (i : Int) (hi : mayE n i = false) (w : World) : Calls Tryz.prog 27 #[.slice p n cap, .int .i64 i] w fun r w' => r = .returned (.tuple #[.int .i64 0, .bool false]) ∧ Below w.heap.size w w' := by
  obtain ⟨B, hB⟩ : ∃ B, w.heap.size = B := ⟨_, rfl⟩
  have hfar := Below.refl B w
  have hsz : B ≤ w.heap.size := by omega
  go_enter Tryz.func27, Tryz.ntmps27
  go_upto_region 1 with (fail)
  refine wp_gen (fun W => Blk W (B) (#[.int .i64 0]) 3 ∧ Blk W (B + 1) (#[.bool false]) 4 ∧ Below (B) w W ∧ B + 2 ≤ W.heap.size) ⟨bk_, bk_, bl_, sz_⟩ ?_
  clear hfar hsz
  rintro w1 ⟨hN, hM, hfar, hsz⟩
  go_wp2_with fail
  refine (may_any _ _ _ _ _).mono ?_
  rintro e w' ⟨rfl, rfl⟩
  rw [hi]
  have f0 := hN.frozen 0
  have f1 := hM.frozen 0
  have g0 := hN.cell 0
  have g1 := hM.cell 0
  simp only [List.getElem?_toArray, List.getElem?_cons_zero] at g0 g1
  go_wp2_with fail
  have k0 : Blk ((w1.setCell ⟨B, 0, none⟩ (.int .i64 0)).setCell ⟨B + 1, 0, none⟩ (.bool false)) B #[.int .i64 0] 3 := (hN.set 0 _).other (by simp only []; omega) _
  have k1 : Blk ((w1.setCell ⟨B, 0, none⟩ (.int .i64 0)).setCell ⟨B + 1, 0, none⟩ (.bool false)) (B + 1) #[.bool false] 4 := (hM.other (by simp only []; omega) _).set 0 _
  have r1 := k0.cell 0
  have r2 := k1.cell 0
  simp only [List.getElem?_toArray, List.getElem?_cons_zero] at r1 r2
  exact bodyPost_ret (v := .tuple #[.int .i64 0, .bool false]) (by simp [results, Tryz.f27, go_sem, r1, r2]) rfl ⟨rfl, (by (try rw [hB]); exact bl_)⟩
theorem Near_any {l : List Ent} {n : Nat} (hn : l.length = n) (hl : n ≤ 1000) {p : Option Addr} {lo hi cap : Nat} {w : World} (hE : SL w lo hi 3 p n cap (flE l)) (i : Int) :
    Calls Tryz.prog 27 #[.slice p n cap, .int .i64 i] w fun r w' => r = .returned (.tuple #[.int .i64 (nearN l i), .bool (nearB l i)]) ∧ Below w.heap.size w w' := by
  unfold nearN nearB
  rw [hn]
  cases hm : mayE n i with
  | false => exact Near_out p n cap i hm w
  | true =>
    unfold mayE at hm
    simp only [Bool.and_eq_true, decide_eq_true_eq] at hm
    obtain ⟨k, rfl⟩ : ∃ k : Nat, i = k := ⟨i.toNat, by omega⟩
    rw [Int.toNat_natCast]
    exact Near_in hn hl hE (by omega)
end Go.Proofs.YtmfihaaiddolmaaGreatDoor
