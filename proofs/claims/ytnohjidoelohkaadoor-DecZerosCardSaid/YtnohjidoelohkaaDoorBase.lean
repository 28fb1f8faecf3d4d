/- Base of all walks: imports, and small facts on blocks of cells. -/
import Derived.RangeFuncNested
import Derived.RangeFuncBound
import Derived.RangeFuncCalls
import Derived.RangeFuncLeaves
import Derived.RangeFuncFrom
import Derived.RangeFuncBox
import Derived.Shelf.Abstract
import Derived.Shelf.RegionOpen
import Derived.WalkKit
import Derived.OwnWalkIn
import Derived.TacticsInMore
import Derived.LoopNIn
import Derived.LoopIn
import Derived.WalkSpells
import Derived.WalkLawsBesides
import Derived.Handy
import Derived.Lib.Hide
import Derived.Deep.QuietTactic
import Derived.Deep.RegionWith
import Derived.Deep.RegionHeld3
import Derived.Deep.RegionLaw
import Derived.StillTailTactics
import Derived.Deep.DeepCutAuto
import Derived.BigQuiet
import Derived.ChangeAlike
import Derived.Deep.AppendLies
import Derived.Laws.OwnMore
import Derived.RegionTactic
import Derived.Test.YtnohjidoelohkaaDoorProg
namespace Go.Proofs.YtnohjidoelohkaaDoor
open Go.RowKit Go.Shelf

theorem retInt {k : IntKind} {a b : Int} (h : a = b) : Ending.returned (.int k a) = .returned (.int k b) := by rw [h]
theorem retBool {a b : Bool} (h : a = b) : Ending.returned (.bool a) = .returned (.bool b) := by rw [h]

/-- Block B holds just these cells. -/
def Blk (W : World) (B : Nat) (cs : Array Value) (t : TypeId) : Prop := W.heap[B]? = some (.cells cs t (0, 0))
theorem Blk.lt {W : World} {B : Nat} {cs : Array Value} {t : TypeId} (h : Blk W B cs t) : B < W.heap.size := (Array.getElem?_eq_some_iff.1 h).1
theorem Blk.cell {W : World} {B : Nat} {cs : Array Value} {t : TypeId} (h : Blk W B cs t) (i : Nat) : W.cell? ⟨B, i, none⟩ = cs[i]? := by
  simp [World.cell?, show W.heap[B]? = _ from h]
theorem Blk.frozen {W : World} {B : Nat} {cs : Array Value} {t : TypeId} (h : Blk W B cs t) (i : Nat) : W.frozen? ⟨B, i, none⟩ = false := by
  simp [World.frozen?, show W.heap[B]? = _ from h]
theorem Blk.new (W : World) (cs : Array Value) (t : TypeId) : Blk (W.alloc (.cells cs t)) W.heap.size cs t := World.alloc_heap_new W _
theorem Blk.kept {W W' : World} {row : Option Nat} {B : Nat} {cs : Array Value} {t : TypeId} (h : Blk W B cs t) (hg : W.grownBy W' row) (hne : some B ≠ row) : Blk W' B cs t := (hg.block B h.lt hne).trans h
theorem Blk.alloc {W : World} {B : Nat} {cs : Array Value} {t : TypeId} (h : Blk W B cs t) (o : Obj) : Blk (W.alloc o) B cs t := h.kept (World.grownBy_alloc W o none) (by simp)
theorem Blk.drew {W : World} {B : Nat} {cs : Array Value} {t : TypeId} (h : Blk W B cs t) : Blk W.drew B cs t := h
theorem Blk.drewN {W : World} {B : Nat} {cs : Array Value} {t : TypeId} (h : Blk W B cs t) (n : Nat) : Blk (W.drewN n) B cs t := h
theorem grownBy_setCell1 (W : World) (a : Addr) (v : Value) : W.grownBy (W.setCell a v) (some a.block) :=
  ⟨rfl, rfl, rfl, by simp [World.setCell], fun k _ hk => Below.heap_setCell W a v k (fun e => hk (by rw [e]))⟩
theorem Blk.other {W : World} {B : Nat} {cs : Array Value} {t : TypeId} {a : Addr} (h : Blk W B cs t) (hne : B ≠ a.block) (u : Value) : Blk (W.setCell a u) B cs t :=
  h.kept (grownBy_setCell1 W a u) (fun e => hne (by cases e; rfl))
theorem Blk.set {W : World} {B : Nat} {cs : Array Value} {t : TypeId} (h : Blk W B cs t) (i : Nat) (u : Value) : Blk (W.setCell ⟨B, i, none⟩ u) B (cs.setIfInBounds i u) t := by
  unfold Blk at h ⊢
  simp only [World.setCell, Array.getElem?_modify, h, Option.map_some]
  simp
theorem Blk.set1 {W : World} {B : Nat} {o : Value} {t : TypeId} (h : Blk W B #[o] t) (u : Value) : Blk (W.setCell ⟨B, 0, none⟩ u) B #[u] t := by simpa using h.set 0 u
theorem Blk.below {W W' : World} {B n : Nat} {cs : Array Value} {t : TypeId} (h : Blk W B cs t) (hb : Below n W W') (hn : B < n) : Blk W' B cs t := by
  unfold Blk at h ⊢; rw [← h]; exact hb.block B hn
theorem blk_own {β : Type} (B : Nat) (t : TypeId) (f : β → Array Value) : Own (fun s W => Blk W B (f s) t) := fun s X Y row hs hg hrow =>
  Blk.kept hs hg (fun e => by
    obtain ⟨o, ho, hc⟩ := hrow B e.symm
    rw [show X.heap[B]? = _ from hs] at ho
    cases ho
    simp [Obj.isCells] at hc)
theorem Blk.ownF {W W' : World} {row : Option Nat} {B : Nat} {cs : Array Value} {t : TypeId} (h : Blk W B cs t) (hg : W.grownBy W' row) {n : Nat} (hr : ∀ r, row = some r → n ≤ r ∧ ∃ o : Obj, W.heap[r]? = some o ∧ o.isCells = false) : Blk W' B cs t :=
  Own.from (blk_own (β := Unit) B t (fun _ => cs)) n () W W' row h hg hr
theorem Blk.mk_eq {W : World} {B : Nat} {cs cs' : Array Value} {t : TypeId} (h : Blk W B cs t) (e : cs = cs') : Blk W B cs' t := e ▸ h

/-- All that was there is as it was, but for the blocks of S. -/
structure Kept (S : Nat → Prop) (w w' : World) : Prop where
  os : w'.os = w.os
  tape : w'.tape = w.tape
  output : w'.output = w.output
  size : w.heap.size ≤ w'.heap.size
  block : ∀ k, k < w.heap.size → ¬ S k → w'.heap[k]? = w.heap[k]?
namespace Kept
variable {S T : Nat → Prop} {w w' w'' : World}
theorem refl (S : Nat → Prop) (w : World) : Kept S w w := ⟨rfl, rfl, rfl, Nat.le_refl _, fun _ _ _ => rfl⟩
theorem trans (h : Kept S w w') (k : Kept S w' w'') : Kept S w w'' :=
  ⟨k.os.trans h.os, k.tape.trans h.tape, k.output.trans h.output, Nat.le_trans h.size k.size, fun i hi hn => (k.block i (Nat.lt_of_lt_of_le hi h.size) hn).trans (h.block i hi hn)⟩
theorem mono (h : Kept S w w') (hst : ∀ k, S k → T k) : Kept T w w' := ⟨h.os, h.tape, h.output, h.size, fun k hk hn => h.block k hk (fun e => hn (hst k e))⟩
theorem drew (h : Kept S w w') : Kept S w w'.drew := ⟨h.os, h.tape, h.output, h.size, h.block⟩
theorem drewN (h : Kept S w w') (n : Nat) : Kept S w (w'.drewN n) := ⟨h.os, h.tape, h.output, h.size, h.block⟩
theorem alloc (h : Kept S w w') (o : Obj) : Kept S w (w'.alloc o) :=
  ⟨h.os, h.tape, h.output, by rw [World.size_alloc]; have := h.size; omega, fun k hk hn => (Below.heap_alloc w' o k (Nat.lt_of_lt_of_le hk h.size)).trans (h.block k hk hn)⟩
theorem setCell (h : Kept S w w') {p : Addr} (hp : S p.block ∨ w.heap.size ≤ p.block) (u : Value) : Kept S w (w'.setCell p u) :=
  ⟨h.os, h.tape, h.output, by simp only [World.size_setCell]; exact h.size, fun k hk hn => (Below.heap_setCell w' p u k (fun e => by subst e; rcases hp with h | h; exact hn h; omega)).trans (h.block k hk hn)⟩
theorem of_below (h : Below w.heap.size w w') : Kept S w w' := ⟨h.os, h.tape, h.output, h.size, fun k hk _ => h.block k hk⟩
theorem thenBelow (h : Kept S w w') (k : Below w'.heap.size w' w'') : Kept S w w'' := h.trans (of_below k)
theorem below (h : Kept S w w') {n : Nat} (hs : ∀ k, S k → n ≤ k) (hn : n ≤ w.heap.size) : Below n w w' :=
  ⟨h.os, h.tape, h.output, h.size, fun k hk => h.block k (by omega) (fun e => by have := hs k e; omega)⟩
/-- Behind a state in which only new blocks lie besides: what turns new blocks alone turns nothing. -/
theorem inner {n : Nat} (h : Below n w w') (hn : n ≤ w'.heap.size) (k : Kept S w' w'') (hs : ∀ i, S i → n ≤ i) : Below n w w'' := h.trans (k.below hs hn)
end Kept
theorem Blk.keep {S : Nat → Prop} {W W' : World} {B : Nat} {cs : Array Value} {t : TypeId} (h : Blk W B cs t) (hk : Kept S W W') (hn : ¬ S B) : Blk W' B cs t := (hk.block B h.lt hn).trans h
theorem Blk.newB {W W' : World} {B : Nat} {cs : Array Value} {t : TypeId} (h : Blk W B cs t) (hk : Below W.heap.size W W') : Blk W' B cs t := (hk.block B h.lt).trans h
/-- How far a whole number in memory is from 2^32: a loop's measure. -/
def far32 (W : World) (g i : Nat) : Nat := match W.cell? ⟨g, i, none⟩ with
  | some (.int _ n) => (4294967296 - n).toNat
  | _ => 0
theorem far32_eq {W : World} {g i : Nat} {k : IntKind} {n : Int} (h : W.cell? ⟨g, i, none⟩ = some (.int k n)) : far32 W g i = (4294967296 - n).toNat := by
  unfold far32; rw [h]
theorem Kept.undrew {S : Nat → Prop} {w w' : World} (h : Kept S w.drew w') : Kept S w w' := ⟨h.os, h.tape, h.output, h.size, h.block⟩
theorem u32_shl8_or (e b : Int) (h0 : 0 ≤ b) (h1 : b ≤ 255) : bits .or .u32 (e * 256 % 4294967296) b = e * 256 % 4294967296 + b := by
  rw [u32_or _ _ (by omega) (by omega) h0 (by omega)]
  obtain ⟨m, hm⟩ : ∃ m : Nat, (e * 256 % 4294967296).toNat = 2 ^ 8 * m := ⟨((e * 256 % 4294967296) / 256).toNat, by omega⟩
  rw [hm, ← Nat.two_pow_add_eq_or_of_lt (by omega : b.toNat < 2 ^ 8) m]
  omega
theorem u64_and32 (x : Int) (h0 : 0 ≤ x) (h1 : x < 18446744073709551616) : bits .and .u64 x 4294967295 = x % 4294967296 := by
  rw [u64_and _ _ h0 h1 (by omega) (by omega)]
  rw [show ((4294967295 : Int).toNat) = 2 ^ 32 - 1 from rfl, Nat.and_two_pow_sub_one_eq_mod]
  omega
theorem quiet_same {P : Program} {f : FuncId} {args : Array Value} {w : World} {n : Nat} {v : Value}
    (h : Calls P f args (w.drewN n) fun e w' => e = .returned v ∧ w.drewN n = w') : Calls P f args (w.drewN n) fun e w'' => e = .returned v ∧ ∃ m, w'' = w.drewN m :=
  h.mono fun _ _ ⟨he, hm⟩ => ⟨he, n, hm.symm⟩

/-- Whole numbers as cells. -/
abbrev intsV (l : List Int) : List Value := l.map (Value.int .i64)
/-- A slice of the call's own, of elements of one cell: nil, or at the head of a block. -/
def Row (W : World) (e : TypeId) (v : Value) (xs : List Value) : Prop := W.ownsRow 0 e 1 v xs.length xs
theorem Row.nil (W : World) (e : TypeId) : Row W e (.slice none 0 0) [] := World.ownsRow_nil _ _ _ _
theorem Row.alloc {W : World} {e : TypeId} {v : Value} {xs : List Value} (h : Row W e v xs) (o : Obj) : Row (W.alloc o) e v xs := World.ownsRow.alloc h o
theorem Row.drew {W : World} {e : TypeId} {v : Value} {xs : List Value} (h : Row W e v xs) : Row W.drew e v xs := h
theorem Row.drewN {W : World} {e : TypeId} {v : Value} {xs : List Value} (h : Row W e v xs) (n : Nat) : Row (W.drewN n) e v xs := h
theorem Row.lt {W : World} {e : TypeId} {v : Value} {xs : List Value} (h : Row W e v xs) {k : Nat} (hk : v.ownBlock = some k) : k < W.heap.size := (World.ownsRow.lt h k hk).2
theorem Row.far {W : World} {e : TypeId} {v : Value} {xs : List Value} (h : Row W e v xs) (a : Addr) (hne : v.ownBlock ≠ some a.block) (u : Value) : Row (W.setCell a u) e v xs :=
  World.ownsRow.kept h (grownBy_setCell1 W a u) (.inr hne)
theorem Row.keep {S : Nat → Prop} {W W' : World} {e : TypeId} {v : Value} {xs : List Value} (h : Row W e v xs) (hk : Kept S W W') (hn : ∀ k, v.ownBlock = some k → ¬ S k) : Row W' e v xs := by
  refine ⟨h.1, ?_⟩
  rcases h.2 with hl | ⟨g, cap, cur, rfl, hb, hg, rest⟩
  · exact .inl hl
  · refine .inr ⟨g, cap, cur, rfl, hb, ?_, rest⟩
    rw [hk.block g (Array.getElem?_eq_some_iff.1 hg).1 (hn g rfl)]
    exact hg
theorem Row.slice {W : World} {e : TypeId} {v : Value} {xs : List Value} (h : Row W e v xs) (hx : xs ≠ []) : ∃ ob cap, v = .slice (some ⟨ob, 0, none⟩) xs.length cap ∧ ob < W.heap.size := by
  obtain ⟨g, cap, hv, _, hl⟩ := World.ownsRow.form h (by cases xs <;> simp_all)
  exact ⟨g, cap, hv, hl⟩
theorem Row.mk {W : World} {e : TypeId} {v : Value} {n : Nat} {xs : List Value} (h : W.ownsRow 0 e 1 v n xs) : Row W e v xs := by
  obtain rfl : n = xs.length := by have := h.1; omega
  exact h
theorem Row.stored {W : World} {e : TypeId} {g n cap : Nat} {xs : List Value} (h : Row W e (.slice (some ⟨g, 0, none⟩) n cap) xs) (hn : xs.length = n) (j : Nat) (u : Value) :
    Row (W.setCell ⟨g, j, none⟩ u) e (.slice (some ⟨g, 0, none⟩) n cap) (xs.set j u) := by
  unfold Row at h ⊢
  rw [hn] at h
  rw [List.length_set, hn]
  exact (World.ownsRow.stored h j u).1
theorem Row.cellAt {W : World} {e : TypeId} {g n cap : Nat} {xs : List Value} (h : Row W e (.slice (some ⟨g, 0, none⟩) n cap) xs) (hn : xs.length = n) (j : Nat) (hj : j < n) : W.cell? ⟨g, j, none⟩ = xs[j]? := by
  unfold Row at h
  rw [hn] at h
  exact World.ownsRow.cellAt h j (by omega)
theorem Row.frozenAt {W : World} {e : TypeId} {g n cap : Nat} {xs : List Value} (h : Row W e (.slice (some ⟨g, 0, none⟩) n cap) xs) (hn : xs.length = n) (j : Nat) : W.frozen? ⟨g, j, none⟩ = false := by
  unfold Row at h
  rw [hn] at h
  exact World.ownsRow.frozenAt h j
/-- A row's block and a block of cells of another type are two. -/
theorem Row.ne {W : World} {e t : TypeId} {v : Value} {xs : List Value} {B : Nat} {cs : Array Value} (h : Row W e v xs) (hB : Blk W B cs t) (hte : t ≠ e) : v.ownBlock ≠ some B := by
  intro hv
  rcases h.2 with ⟨rfl, _⟩ | ⟨g, cap, cur, rfl, hb, hg, rest⟩
  · simp [Value.ownBlock] at hv
  · obtain rfl : g = B := by simpa [Value.ownBlock] using hv
    rw [show W.heap[g]? = _ from hB] at hg
    cases hg
    exact hte rfl
/-- One behind the other: what the second turns is the first's, or new. -/
theorem Kept.andThen {S T : Nat → Prop} {a b c : World} (h : Kept S a b) (k : Kept T b c) (hT : ∀ i, T i → S i ∨ a.heap.size ≤ i) : Kept S a c :=
  ⟨k.os.trans h.os, k.tape.trans h.tape, k.output.trans h.output, Nat.le_trans h.size k.size, fun i hi hn => (k.block i (Nat.lt_of_lt_of_le hi h.size) (fun e => by rcases hT i e with h | h; exact hn h; omega)).trans (h.block i hi hn)⟩
theorem Kept.grown {S : Nat → Prop} {w w' w'' : World} {row : Option Nat} (h : Kept S w w') (hg : w'.grownBy w'' row) (hr : ∀ k, row = some k → S k ∨ w.heap.size ≤ k) : Kept S w w'' :=
  ⟨hg.os.trans h.os, hg.tape.trans h.tape, hg.output.trans h.output, Nat.le_trans h.size hg.size, fun k hk hn => (hg.block k (Nat.lt_of_lt_of_le hk h.size) (fun e => by rcases hr k e.symm with h | h; exact hn h; omega)).trans (h.block k hk hn)⟩
theorem own_empty (w : World) (e : TypeId) (B : Nat) (hB : B = w.heap.size) : (w.alloc (.cells #[] e)).ownsRow 0 e 1 (.slice (some ⟨B, 0, none⟩) 0 0) 0 [] := by
  subst hB
  exact World.ownsRow_lit w #[] 0 (Nat.zero_le _) (by simp [maxLen]) (by simp)
theorem bytes_get {l : List Int} {j : Nat} (h : j < l.length) : (l.map (Value.int .u8))[j]? = some (.int .u8 (l.getD j 0)) := by
  simp [List.getElem?_map, List.getElem?_eq_getElem h, List.getD_eq_getElem?_getD]
theorem ints_get {k : IntKind} {l : List Int} {j : Nat} (h : j < l.length) : (l.map (Value.int k))[j]? = some (.int k (l.getD j 0)) := by
  simp [List.getElem?_map, List.getElem?_eq_getElem h, List.getD_eq_getElem?_getD]
theorem ints_set {k : IntKind} (l : List Int) (j : Nat) (x : Int) : (l.map (Value.int k)).set j (.int k x) = (l.set j x).map (Value.int k) := by
  rw [List.map_set]
end Go.Proofs.YtnohjidoelohkaaDoor
