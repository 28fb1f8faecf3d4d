/- The map of what an act does. -/
import Derived.Test.YtkoljgmapclhkaaGreatDoorLot0
import Derived.Maps.Own
import Derived.Maps.OwnSet
set_option linter.unusedSimpArgs false
set_option linter.unusedVariables false
namespace Go.Proofs.YtkoljgmapclhkaaGreatDoor
open Go.RowKit

/-- The functions behind the acts. -/
def actF (i : Nat) : Nat := [37, 38, 39, 40, 41, 42, 43, 44, 45].getD i 0
def doerV (g f : Nat) : Value := .agg #[.func (.func f) #[.pointer (some ⟨g, 0, none⟩)] #[]]
/-- A doer, read: its function. -/
def rdDoer (g : Nat) (v : Value) : Option (DataW Unit × List MemPlace) :=
  match v with
  | .agg ⟨[.func (.func f) ⟨[.pointer (some ⟨b, 0, none⟩)]⟩ ⟨[]⟩]⟩ => if b = g then some (.lit (.int .i64 f), []) else none
  | .agg ⟨[.nilFunc]⟩ => some (.lit (.bool false), [])
  | _ => none
theorem rd_doer (g f : Nat) : rdDoer g (doerV g f) = some (.lit (.int .i64 f), []) := by unfold rdDoer doerV; simp
theorem rd_nil (g : Nat) : rdDoer g (.agg #[.nilFunc]) = some (.lit (.bool false), []) := rfl
theorem rd_inv {g : Nat} {f : Nat} {v : Value} {ps : List MemPlace} (h : rdDoer g v = some (.lit (.int .i64 f), ps)) : v = doerV g f := by
  unfold rdDoer at h
  split at h
  · split at h
    · next hb =>
      simp only [Option.some.injEq, Prod.mk.injEq, DataW.lit.injEq, Lit.int.injEq, true_and] at h
      have := h.1
      subst hb
      rw [Int.ofNat_inj.1 this]; rfl
    · cases h
  · cases h
  · cases h
theorem rd_inv0 {g : Nat} {v : Value} {ps : List MemPlace} (h : rdDoer g v = some (.lit (.bool false), ps)) : v = .agg #[.nilFunc] := by
  unfold rdDoer at h
  split at h
  · split at h <;> cases h
  · rfl
  · cases h
/-- What the map reads as, behind so many entries. -/
def dmap : Nat → DataW Unit
  | 0 => .map []
  | i + 1 => (dmap i).put (.int .i64 i) (.lit (.int .i64 (actF i)))
theorem intLaw : Maps.Keyed Tryz.prog 3 := Maps.int_keyed Tryz.underlying3
theorem key_int {x : Int} (h : -9223372036854775808 ≤ x ∧ x ≤ 9223372036854775807) : keyOf Tryz.prog 3 (.int .i64 x) = some (.int .i64 x) := Maps.keyOf_int_mk Tryz.underlying3 (by
  have e1 : IntKind.i64.min = -9223372036854775808 := by decide
  have e2 : IntKind.i64.max = 9223372036854775807 := by decide
  unfold Lit.wf
  simp only [e1, e2, Bool.and_eq_true, decide_eq_true_eq]
  exact h)
/-- An entry laid into the map. -/
theorem ins {ops : Array Oper} {rest : List Oper} {op : Oper} {a : Act} {w : World} {Q : Exit → Act → World → Prop} {m x v : Operand} (ho : op.op = .insert 86 m x v) (hwd : Region.wanted op (yielded ops a.tmps) = true)
    {g b n : Nat} (hown : w.ownsMap Tryz.prog 3 (rdDoer g) b n (dmap n)) (hn : n < 9) (hm : a.eval m = .map (some b)) (hx : a.eval x = .int .i64 n) (hv : a.eval v = doerV g (actF n))
    (h : ∀ w', w'.ownsMap Tryz.prog 3 (rdDoer g) b (n + 1) (dmap (n + 1)) → w.grownBy w' (some b) → wpList Tryz.prog ops Q rest (a.put op.dst undef) w') : wpList Tryz.prog ops Q (op :: rest) a w :=
  wpList_step fun K hK => by
    rw [if_pos hwd]
    obtain ⟨w', hrun, r1, r2⟩ := hown.update intLaw Tryz.underlying86 (by unfold maxLen; omega) (key_int (x := n) (by omega)) (rd_doer g (actF n))
    unfold Oper.wp execOp
    simp only [ho, hm, hx, hv, Sem.run_bind, hrun, Result.andThen_ok]
    exact hK _ _ (h w' r1 r2)
theorem dmap_has (x : Int) : ∀ (n : Nat), (∀ i : Nat, i < n → x ≠ i) → Maps.has (dmap n) (.int .i64 x) = false ∧ ∀ z, (dmap n).atKey (.int .i64 x) z = z := by
  intro n
  induction n with
  | zero => intro _; exact ⟨rfl, fun z => rfl⟩
  | succ n ih =>
    intro h
    have hne : (Lit.int .i64 x) ≠ .int .i64 n := fun e => by
      simp only [Lit.int.injEq, true_and] at e
      exact h n (by omega) e
    obtain ⟨h1, h2⟩ := ih (fun i hi => h i (by omega))
    exact ⟨by rw [dmap, Maps.has_put_other hne]; exact h1, fun z => by rw [dmap, Maps.atKey_put_other hne]; exact h2 z⟩
theorem dmap_isMap : ∀ n, Maps.IsMap (dmap n) := by
  intro n
  induction n with
  | zero => exact ⟨_, rfl⟩
  | succ n ih => exact ih.put _ _
theorem dmap_get {i : Nat} : ∀ (n : Nat), i < n → n ≤ 9 → Maps.has (dmap n) (.int .i64 i) = true ∧ ∀ z, (dmap n).atKey (.int .i64 i) z = .lit (.int .i64 (actF i)) := by
  intro n
  induction n with
  | zero => intro h; omega
  | succ n ih =>
    intro h h9
    by_cases he : i = n
    · subst he
      have hk := intLaw.key (key_int (x := i) (by omega))
      exact ⟨by rw [dmap]; exact Maps.has_put_same (dmap_isMap _) hk _, fun z => by rw [dmap]; exact Maps.atKey_put_same (dmap_isMap _) hk _ _⟩
    · have hne : (Lit.int .i64 (i : Int)) ≠ .int .i64 n := fun e => by
        simp only [Lit.int.injEq, true_and] at e
        omega
      obtain ⟨h1, h2⟩ := ih (by omega) (by omega)
      exact ⟨by rw [dmap, Maps.has_put_other hne]; exact h1, fun z => by rw [dmap, Maps.atKey_put_other hne]; exact h2 z⟩
/-- The map asked for a key. -/
theorem lkp {ops : Array Oper} {rest : List Oper} {op : Oper} {a : Act} {w : World} {Q : Exit → Act → World → Prop} {m x : Operand} (ho : op.op = .lookup 86 m x true) (hwd : Region.wanted op (yielded ops a.tmps) = true)
    {g b : Nat} (hown : w.ownsMap Tryz.prog 3 (rdDoer g) b 9 (dmap 9)) (hm : a.eval m = .map (some b)) {k : Int} (hk : -9223372036854775808 ≤ k ∧ k ≤ 9223372036854775807) (hx : a.eval x = .int .i64 k)
    {c : Bool} {v : Value} (hc : (c = false ∧ v = .agg #[.nilFunc] ∧ ∀ i : Nat, i < 9 → k ≠ i) ∨ ∃ i : Nat, i < 9 ∧ k = i ∧ c = true ∧ v = doerV g (actF i))
    (h : wpList Tryz.prog ops Q rest (a.put op.dst (.tuple #[v, .bool c])) w) : wpList Tryz.prog ops Q (op :: rest) a w :=
  wpList_step fun K hK => by
    rw [if_pos hwd]
    obtain ⟨u, ps, hrun, hu⟩ := hown.look_ok intLaw Tryz.underlying86 (z := .agg #[.nilFunc]) (by kernel_rfl) (rd_nil g) (key_int hk)
    have e : u = v ∧ Maps.has (dmap 9) (.int .i64 k) = c := by
      rcases hc with ⟨rfl, rfl, hne⟩ | ⟨i, hi, rfl, rfl, rfl⟩
      · obtain ⟨h1, h2⟩ := dmap_has k 9 hne
        rw [h2] at hu
        exact ⟨rd_inv0 hu, h1⟩
      · obtain ⟨h1, h2⟩ := dmap_get 9 hi (Nat.le_refl _)
        rw [h2] at hu
        exact ⟨rd_inv hu, h1⟩
    obtain ⟨rfl, rfl⟩ := e
    unfold Oper.wp execOp
    simp only [ho, hm, hx, Sem.run_bind, hrun, Result.andThen_ok]
    exact hK _ _ h
end Go.Proofs.YtkoljgmapclhkaaGreatDoor
