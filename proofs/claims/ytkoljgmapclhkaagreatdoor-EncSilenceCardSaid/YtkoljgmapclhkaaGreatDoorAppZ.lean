/- An append of so many noughts to a slice of the call's own; a slice of noughts made. -/
import Derived.Test.YtkoljgmapclhkaaGreatDoorLot11
import Derived.Lib.AppendZerosOnto
import Derived.Laws.MakeOwn
set_option linter.unusedSimpArgs false
set_option linter.unusedVariables false
namespace Go.Proofs.YtkoljgmapclhkaaGreatDoor
open Go.RowKit

theorem run_append_zeros_own (w : World) (base : Nat) (t tn ty e : TypeId) (i : TypeInfo) (z : Value) (size bytes : Nat) (kn : IntKind) (ht : Tryz.prog.underlying t = some (.slice e)) (htn : Tryz.prog.underlying tn = some (.int kn)) (hi : Tryz.prog.info? e = some i) (hz : i.zero = some z)
    (hsize : i.size = size) (hby : i.bytes = bytes) (hzs : z.cells.size = size) (hsz : 0 < size)
    (v : Value) (n : Nat) (h0 : 0 < n) (xs : List Value) (hown : w.ownsRow base e size v n xs) (k : Nat) (hk0 : 0 < k) (news : List Value) (hnews : news = (Builtin.zeroCells z.cells k).toList) (h1 : ∀ u ∈ news, u.oneCell' = true)
    (h63 : n + k ≤ maxLen) (hbytes : (n + k) * bytes ≤ 140737488355328) (hbase : base ≤ w.heap.size) :
    ∃ v' w', (Builtin.append_ #[t, tn] ty #[v, .int .i64 k]).run Tryz.prog w = .ok v' w' ∧ w'.ownsRow base e size v' (n + k) (xs ++ news) ∧ w.grownBy w' v.ownBlock := by
  subst hsize
  subst hby
  have hl : news.length = k * i.size := by rw [hnews, Array.length_toList, size_zeroCells, hzs]
  have hlen : (xs ++ news).length = (n + k) * i.size := by rw [List.length_append, hown.1, hl, Nat.add_mul]
  have hm63 : n + k ≤ 9223372036854775807 := by simp only [maxLen] at h63; omega
  rcases hown.2 with ⟨rfl, hn0⟩ | ⟨g, cap, cur, rfl, hbg, hg, hnc, hcm, hcs, htake⟩
  · omega
  · have holds : ∀ j u, xs[j]? = some u → w.cell? ((⟨g, 0, none⟩ : Addr).add j) = some u := hown.cells (g := g) rfl
    by_cases hroom : n + k ≤ cap
    · have hfit : n * i.size + news.length ≤ cur.size := by rw [hl, hcs, ← Nat.add_mul]; exact Nat.mul_le_mul_right _ hroom
      have hst := run_storeCells_at Tryz.prog g (n * i.size) e news 0 cur w hg (by simpa using hfit) h1
      simp only [Nat.add_zero] at hst
      have hk : k ≠ 0 := by omega
      have hw : IntKind.i64.wrap (k : Int) = k := by rw [IntKind.wrap_i64]; omega
      have hneg : ¬ ((k : Int) < 0) := by omega
      have hns : ¬ (k * i.size = 0) := Nat.mul_ne_zero hk (by omega)
      have hkb : k * i.bytes ≤ 281474976710656 := by
        have := Nat.mul_le_mul_right i.bytes (show k ≤ n + k by omega)
        omega
      have h48i : ¬ (281474976710656 < (k : Int) * (i.bytes : Int)) := by
        rw [← Int.natCast_mul]; omega
      have hr : (Builtin.append_ #[t, tn] ty #[.slice (some ⟨g, 0, none⟩) n cap, .int .i64 k]).run Tryz.prog w =
          .ok (.slice (some ⟨g, 0, none⟩) (n + k) cap) (w.setRow g (cur.toList.take (n * i.size) ++ news ++ cur.toList.drop (n * i.size + news.length)).toArray) := by
        subst hnews
        simp [Builtin.append_, run_underlying ht, run_underlying htn, sizeOf, typeInfo, zeroValue, hi, hz, asInt, asIntOf, hw, hneg, hns, h48i, hroom, Addr.add_lit, hst]
      refine ⟨_, _, hr, ⟨hlen, .inr ⟨g, cap, _, rfl, hbg, setRow_heap w g cur _ e _ hg, hroom, hcm, ?_, ?_⟩⟩, ⟨rfl, rfl, rfl, by simp, fun k _ hk => setRow_other w g k _ (fun e => hk (by simp [Value.ownBlock, e]))⟩⟩
      · simp only [List.size_toArray, List.length_append, List.length_take, List.length_drop, Array.length_toList]
        omega
      · rw [htake, ← hlen]
        exact List.take_left
    · have hold : (Builtin.firstCells i.size n (.slice (some ⟨g, 0, none⟩) n cap)).run Tryz.prog w.drew = .ok xs.toArray w.drew := run_firstCells_some (P := Tryz.prog) w.drew i.size n ⟨g, 0, none⟩ n cap xs hown.1 (fun j u hu => holds j u hu)
      have hkb : k * i.bytes ≤ 281474976710656 := by
        have := Nat.mul_le_mul_right i.bytes (show k ≤ n + k by omega)
        omega
      have hr := Lib.run_append_grow_zeros w t tn ty e i z .i64 kn ht htn hi hz (some ⟨g, 0, none⟩) n cap xs hold k hk0 hsz (by omega) (by omega) hkb (growslice_fits (by omega) hbytes)
      have hge := grownCap_ge w (n + k) cap e
      have hcm2 : grownCap w (n + k) cap e ≤ maxLen := grownCap_le_maxLen w (n + k) cap e h63
      refine ⟨_, _, hr, ⟨hlen, .inr ⟨w.heap.size, _, _, rfl, hbase, heap_alloc_new w.drew _, hge, hcm2, ?_, ?_⟩⟩, ⟨rfl, rfl, rfl, by simp, fun k hk _ => heap_alloc_old w.drew _ k hk⟩⟩
      · simp only [Array.size_append, List.size_toArray, size_zeroCells, hzs, hown.1]
        generalize grownCap w (n + k) cap e = G at hge
        obtain ⟨d, rfl⟩ : ∃ d, G = n + k + d := ⟨G - (n + k), by omega⟩
        rw [Nat.add_sub_cancel_left, Nat.add_mul, Nat.add_mul]
      · subst hnews
        simp only [Array.toList_append, List.append_assoc]
        rw [← List.append_assoc, ← hlen]
        exact List.take_left
theorem apz {ops : Array Oper} {rest : List Oper} {op : Oper} {a : Act} {w : World} {Q : Exit → Act → World → Prop} (t tn : TypeId) {s x : Operand} {ts : Array TypeId}
    (ho : op.op = .call { callee := .builtin .append, args := #[s, x], argTypes := ts }) (hwd : Region.wanted op (yielded ops a.tmps) = true) (hts : ts = #[t, tn])
    (base : Nat) (e : TypeId) (i : TypeInfo) (z : Value) (size bytes : Nat) (kn : IntKind) (ht : Tryz.prog.underlying t = some (.slice e)) (htn : Tryz.prog.underlying tn = some (.int kn)) (hi : Tryz.prog.info? e = some i) (hz : i.zero = some z)
    (hsize : i.size = size) (hby : i.bytes = bytes) (hzs : z.cells.size = size) (hsz : 0 < size)
    {v : Value} {n : Nat} (h0 : 0 < n) {xs : List Value} (hv : a.eval s = v) (hown : w.ownsRow base e size v n xs) (k : Nat) (hk0 : 0 < k) (hx : a.eval x = .int .i64 k) (news : List Value) (hnews : news = (Builtin.zeroCells z.cells k).toList) (h1 : ∀ u ∈ news, u.oneCell' = true)
    (h63 : n + k ≤ maxLen) (hbytes : (n + k) * bytes ≤ 140737488355328) (hbase : base ≤ w.heap.size)
    (h : ∀ v' w', w'.ownsRow base e size v' (n + k) (xs ++ news) → w.grownBy w' v.ownBlock → wpList Tryz.prog ops Q rest (a.put op.dst v') w') : wpList Tryz.prog ops Q (op :: rest) a w :=
  wpList_step fun K hK => by
    rw [if_pos hwd]
    subst hts
    obtain ⟨v', w', hr, h2, h3⟩ := run_append_zeros_own w base t tn op.type e i z size bytes kn ht htn hi hz hsize hby hzs hsz v n h0 xs hown k hk0 news hnews h1 h63 hbytes hbase
    unfold Oper.wp execOp
    simp only [ho, resolve, invoke, builtin, Sem.run_bind, Sem.run_pure, Result.andThen_ok, List.map_toArray, List.map_cons, List.map_nil, hv, hx, hr]
    exact hK _ _ (h v' w' h2 h3)
end Go.Proofs.YtkoljgmapclhkaaGreatDoor
