/- What the laws of layer 23 share: slices cut in a fixed order, true entries that are cut off. -/
import Derived.Test.YtmfihaaiddolmaaGreatDoorSeek4
set_option linter.unusedSimpArgs false
set_option linter.unusedVariables false
namespace Go.Proofs.YtmfihaaiddolmaaGreatDoor
open Go.RowKit

/-- An operation whose value is known, in a fixed order. -/
theorem of_yields {ops : Array Oper} {rest : List Oper} {op : Oper} {a : Act} {w : World} {Q : Exit → Act → World → Prop} {v : Value} (hy : YieldsIf Tryz.prog ops (fun _ => True) op v a) (hwd : Region.wanted op (yielded ops a.tmps) = true)
    (h : wpList Tryz.prog ops Q rest (a.put op.dst v) w) : wpList Tryz.prog ops Q (op :: rest) a w :=
  wpList_step fun _ hK => by
    rw [if_pos hwd]
    rcases hy with ⟨_, h2⟩ | ⟨h2, _⟩
    · unfold Oper.wp
      rw [h2 w trivial, Oper.upon_value]
      exact hK _ _ h
    · rw [hwd] at h2; cases h2
theorem soundsE_le (l : List Ent) : soundsE l ≤ l.length := List.length_filter_le _ _
theorem mod_nat (i : Int) (n : Nat) : ∃ k : Nat, i % ((n : Int) + 1) = k ∧ k ≤ n := by
  have h1 := Int.emod_nonneg i (show ((n : Int) + 1) ≠ 0 by omega)
  have h2 := Int.emod_lt_of_pos i (show 0 < (n : Int) + 1 by omega)
  exact ⟨(i % ((n : Int) + 1)).toNat, by omega, by omega⟩
theorem fromO_cut {m : List Ent} (h : AllTrue (zs 38) m) {k : Nat} (hk : k ≤ m.length) : soundsE (m.take k) ≤ (foldO (zs 38) m).length ∧ fromO m k = (foldO (zs 38) m).drop (soundsE (m.take k)) := by
  refine ⟨?_, from_rest h hk⟩
  rw [from_all h hk, List.length_append, foldO_count zs_len38 zs_right38]
  omega
theorem sl_drop16 {W : World} {lo hi cap i n m : Nat} {p p' : Option Addr} {A C : List (List Int)} (h : SL W lo hi 16 p n cap (A.flatMap intsV)) (hA : ∀ b ∈ A, b.length = 16) (hi2 : i ≤ n) (hd : A.drop i = C) (hp : (if cap = i then p else p.map (·.add (i * 16))) = p') (hm : n - i = m) : SL W lo hi 16 p' m (cap - i) (C.flatMap intsV) := by
  have h2 := SL.drop h (k := i) hi2
  rwa [flat_drop _ A (fun b hb => by rw [List.length_map]; exact hA b hb), hd, hp, hm] at h2
end Go.Proofs.YtmfihaaiddolmaaGreatDoor
