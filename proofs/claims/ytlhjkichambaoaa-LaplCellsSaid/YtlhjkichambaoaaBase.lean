/- Base of all walks: imports, and small facts on blocks of cells. -/
import Derived.RangeFuncNested
import Derived.RangeFuncBound
import Derived.RangeFuncCalls
import Derived.RangeFuncLeaves
import Derived.RangeFuncFrom
import Derived.RangeFuncBox
import Derived.Shelf.Abstract
import Derived.Shelf.RegionOpen
import Derived.WalkKit
import Derived.OwnWalkIn
import Derived.TacticsInMore
import Derived.LoopNIn
import Derived.LoopIn
import Derived.WalkSpells
import Derived.WalkLawsBesides
import Derived.Handy
import Derived.Lib.Hide
import Derived.Deep.QuietTactic
import Derived.BigQuiet
import Derived.ChangeAlike
import Derived.RegionTactic
import Derived.Test.YtlhjkichambaoaaProg
namespace Go.Proofs.Ytlhjkichambaoaa
open Go.RowKit Go.Shelf

theorem retInt {k : IntKind} {a b : Int} (h : a = b) : Ending.returned (.int k a) = .returned (.int k b) := by rw [h]
theorem retBool {a b : Bool} (h : a = b) : Ending.returned (.bool a) = .returned (.bool b) := by rw [h]

/-- Block B holds just these cells. -/
def Blk (W : World) (B : Nat) (cs : Array Value) (t : TypeId) : Prop := W.heap[B]? = some (.cells cs t (0, 0))
theorem Blk.lt {W : World} {B : Nat} {cs : Array Value} {t : TypeId} (h : Blk W B cs t) : B < W.heap.size := (Array.getElem?_eq_some_iff.1 h).1
theorem Blk.cell {W : World} {B : Nat} {cs : Array Value} {t : TypeId} (h : Blk W B cs t) (i : Nat) : W.cell? ⟨B, i, none⟩ = cs[i]? := by
  simp [World.cell?, show W.heap[B]? = _ from h]
theorem Blk.frozen {W : World} {B : Nat} {cs : Array Value} {t : TypeId} (h : Blk W B cs t) (i : Nat) : W.frozen? ⟨B, i, none⟩ = false := by
  simp [World.frozen?, show W.heap[B]? = _ from h]
theorem Blk.new (W : World) (cs : Array Value) (t : TypeId) : Blk (W.alloc (.cells cs t)) W.heap.size cs t := World.alloc_heap_new W _
theorem Blk.kept {W W' : World} {row : Option Nat} {B : Nat} {cs : Array Value} {t : TypeId} (h : Blk W B cs t) (hg : W.grownBy W' row) (hne : some B ≠ row) : Blk W' B cs t := (hg.block B h.lt hne).trans h
theorem Blk.alloc {W : World} {B : Nat} {cs : Array Value} {t : TypeId} (h : Blk W B cs t) (o : Obj) : Blk (W.alloc o) B cs t := h.kept (World.grownBy_alloc W o none) (by simp)
theorem Blk.drew {W : World} {B : Nat} {cs : Array Value} {t : TypeId} (h : Blk W B cs t) : Blk W.drew B cs t := h
theorem Blk.drewN {W : World} {B : Nat} {cs : Array Value} {t : TypeId} (h : Blk W B cs t) (n : Nat) : Blk (W.drewN n) B cs t := h
theorem grownBy_setCell1 (W : World) (a : Addr) (v : Value) : W.grownBy (W.setCell a v) (some a.block) :=
  ⟨rfl, rfl, rfl, by simp [World.setCell], fun k _ hk => Below.heap_setCell W a v k (fun e => hk (by rw [e]))⟩
theorem Blk.other {W : World} {B : Nat} {cs : Array Value} {t : TypeId} {a : Addr} (h : Blk W B cs t) (hne : B ≠ a.block) (u : Value) : Blk (W.setCell a u) B cs t :=
  h.kept (grownBy_setCell1 W a u) (fun e => hne (by cases e; rfl))
theorem Blk.set {W : World} {B : Nat} {cs : Array Value} {t : TypeId} (h : Blk W B cs t) (i : Nat) (u : Value) : Blk (W.setCell ⟨B, i, none⟩ u) B (cs.setIfInBounds i u) t := by
  unfold Blk at h ⊢
  simp only [World.setCell, Array.getElem?_modify, h, Option.map_some]
  simp
theorem Blk.set1 {W : World} {B : Nat} {o : Value} {t : TypeId} (h : Blk W B #[o] t) (u : Value) : Blk (W.setCell ⟨B, 0, none⟩ u) B #[u] t := by simpa using h.set 0 u
theorem Blk.below {W W' : World} {B n : Nat} {cs : Array Value} {t : TypeId} (h : Blk W B cs t) (hb : Below n W W') (hn : B < n) : Blk W' B cs t := by
  unfold Blk at h ⊢; rw [← h]; exact hb.block B hn
theorem blk_own {β : Type} (B : Nat) (t : TypeId) (f : β → Array Value) : Own (fun s W => Blk W B (f s) t) := fun s X Y row hs hg hrow =>
  Blk.kept hs hg (fun e => by
    obtain ⟨o, ho, hc⟩ := hrow B e.symm
    rw [show X.heap[B]? = _ from hs] at ho
    cases ho
    simp [Obj.isCells] at hc)
theorem Blk.ownF {W W' : World} {row : Option Nat} {B : Nat} {cs : Array Value} {t : TypeId} (h : Blk W B cs t) (hg : W.grownBy W' row) {n : Nat} (hr : ∀ r, row = some r → n ≤ r ∧ ∃ o : Obj, W.heap[r]? = some o ∧ o.isCells = false) : Blk W' B cs t :=
  Own.from (blk_own (β := Unit) B t (fun _ => cs)) n () W W' row h hg hr
end Go.Proofs.Ytlhjkichambaoaa
