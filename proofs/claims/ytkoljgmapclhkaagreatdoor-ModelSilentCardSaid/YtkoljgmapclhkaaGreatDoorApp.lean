/- Appends whose worlds are told by what is kept. -/
import Derived.Test.YtkoljgmapclhkaaGreatDoorLot13
set_option linter.unusedSimpArgs false
set_option linter.unusedVariables false
namespace Go.Proofs.YtkoljgmapclhkaaGreatDoor
open Go.RowKit

theorem run_bs0 {t e : TypeId} {size : Nat} (ht : Tryz.prog.underlying t = some (.slice e)) (he : ElemT e size) (w : World) :
    (Instr.buildSlice t 0 #[]).run Tryz.prog w = .ok (.slice (some ⟨w.heap.size, 0, none⟩) 0 0) (w.alloc (.cells #[] e)) := by
  obtain ⟨hs, z, hz, hzs⟩ := he
  unfold Instr.buildSlice
  simp only [Sem.run_bind, run_underlying ht, Result.andThen_ok, hs, hz, if_neg (show ¬ 0 * size > 2 ^ 24 by omega), if_pos (show 0 * size = 0 by omega)]
  have h0 : ∀ f : Nat → Value, Array.map f (Array.range 0) = #[] := fun f => Array.eq_empty_of_size_eq_zero (by rw [Array.size_map, Array.size_range])
  simp [Instr.fill, newRow, Result.andThen, h0]
/-- An empty slice made. -/
theorem wp_bs0 {op : Oper} {a : Act} {w : World} {K : Act → World → Prop} {Q : Exit → Act → World → Prop} (t : TypeId) (ho : op.op = .buildSlice t 0 #[]) {e : TypeId} (ht : Tryz.prog.underlying t = some (.slice e)) {size : Nat} (he : ElemT e size)
    (h : ∀ v' w', OW w' w.heap.size w'.heap.size e size v' 0 [] → Below w.heap.size w w' → K (a.put op.dst v') w') : op.wp Tryz.prog a w K Q := by
  have hr := run_bs0 ht he w
  unfold Oper.wp execOp
  simp only [ho, List.map_toArray, List.map_nil, Sem.run_bind, hr, Result.andThen_ok]
  exact h _ _ (OW.mk0 (World.ownsRow_lit (base := w.heap.size) w #[] 0 (Nat.le_refl _) (by unfold maxLen; omega) (by simp))) ((Below.refl _ _).alloc (Nat.le_refl _) _)
/-- A slice of one element made. -/
theorem wp_bs1b {op : Oper} {a : Act} {w : World} {K : Act → World → Prop} {Q : Exit → Act → World → Prop} (t : TypeId) {x : Operand} (ho : op.op = .buildSlice t 1 #[(0, x)]) {c : Array Value} (hx : a.eval x = .agg c)
    {e : TypeId} (ht : Tryz.prog.underlying t = some (.slice e)) {size : Nat} (he : ElemT e size) (h0 : 0 < size) (h1 : size ≤ 1000) (hc : c.size = size)
    (h : ∀ b w', b = w.heap.size → Blk w' b c e → Below w.heap.size w w' → b < w'.heap.size → K (a.put op.dst (.slice (some ⟨b, 0, none⟩) 1 1)) w') : op.wp Tryz.prog a w K Q :=
  wp_bs1 t ho hx ht he h0 h1 hc (h _ _ rfl (Blk.newAt rfl) ((Below.refl _ _).alloc (Nat.le_refl _) _) (by rw [World.size_alloc]; omega))
/-- An append to a slice of the call's own. -/
theorem wp_apb {op : Oper} {a : Act} {w : World} {K : Act → World → Prop} {Q : Exit → Act → World → Prop} (t : TypeId) {s x : Operand} {ts : Array TypeId}
    (ho : op.op = .call { callee := .builtin .append, args := #[s, x], argTypes := ts }) (hts : ts = #[t, t])
    (e : TypeId) (i : TypeInfo) (z : Value) (size bytes : Nat) (ht : Tryz.prog.underlying t = some (.slice e)) (hi : Tryz.prog.info? e = some i) (hz : i.zero = some z)
    (hsize : i.size = size) (hby : i.bytes = bytes) (hzs : z.cells.size = size) (hsz : 0 < size)
    {v : Value} {n : Nat} {xs : List Value} (hv : a.eval s = v) {base hi0 : Nat} (hown : OW w base hi0 e size v n xs) (N : Nat) (hN : N ≤ base) (hNw : base ≤ w.heap.size) {lo hi2 m c : Nat} {p : Option Addr} {news : List Value} (hx : a.eval x = .slice p m c) (hs : SL w lo hi2 size p m c news) (h1 : ∀ u ∈ news, u.oneCell' = true)
    (h63 : n + m ≤ maxLen) (hbytes : (n + m) * bytes ≤ 140737488355328)
    (h : ∀ v' w', OW w' base w'.heap.size e size v' (n + m) (xs ++ news) → w.grownBy w' v.ownBlock → Below N w w' → K (a.put op.dst v') w') : op.wp Tryz.prog a w K Q :=
  wp_append_sl t ho hts base e i z size bytes ht hi hz hsize hby hzs hsz hv hown.1 hx hs h1 h63 hbytes hNw fun v' w' h2 h3 _ =>
    h v' w' (OW.mk0 h2) h3 ((Below.refl N w).grown h3 (by omega) (fun k hk => by have := (World.ownsRow.lt hown.1 k hk).1; omega))
theorem i64_wrap_id {x : Int} (h0 : -9223372036854775808 ≤ x) (h1 : x ≤ 9223372036854775807) : IntKind.i64.wrap x = x := IntWalk.i64_in _ (by omega)
theorem mod_natA (i : Int) (n : Nat) : ∃ k : Nat, i % ((n : Int) + 1) = k ∧ k ≤ n := by
  have h1 := Int.emod_nonneg i (show ((n : Int) + 1) ≠ 0 by omega)
  have h2 := Int.emod_lt_of_pos i (show 0 < (n : Int) + 1 by omega)
  exact ⟨(i % ((n : Int) + 1)).toNat, by omega, by omega⟩
end Go.Proofs.YtkoljgmapclhkaaGreatDoor
