/- What the laws of layer 7 share: a list of cells of one's own. -/
import Derived.Test.YtlhjkichambaoaaDoorCells
import Derived.Test.YtlhjkichambaoaaDoorAwake
import Derived.Test.YtlhjkichambaoaaDoorSpecRangG
namespace Go.Proofs.YtlhjkichambaoaaDoor
open Go.RowKit

theorem flat3_at : ∀ (l : List C3) (i : Nat) (c : C3), l[i]? = some c → (flat3 l)[i * 3]? = some (.int .i64 c.1) ∧ (flat3 l)[i * 3 + 1]? = some (.int .i64 c.2.1) ∧ (flat3 l)[i * 3 + 2]? = some (.int .i64 c.2.2)
  | [], i, c, h => by simp at h
  | d :: l, 0, c, h => by
    obtain rfl : d = c := by simpa using h
    simp [flat3]
  | d :: l, i + 1, c, h => by
    have ih := flat3_at l i c (by simpa using h)
    have e : flat3 (d :: l) = .int .i64 d.1 :: .int .i64 d.2.1 :: .int .i64 d.2.2 :: flat3 l := by simp [flat3]
    rw [e, show (i + 1) * 3 = i * 3 + 1 + 1 + 1 from by omega]
    simpa using ih
/-- A list of cells of the call's own. -/
def MRow (W : World) (v : Value) (l : List C3) : Prop :=
  ∃ o cap, v = .slice o l.length cap ∧ l.length ≤ cap ∧ cap ≤ 9223372036854775807 ∧
    (0 < l.length → ∃ gm cur, o = some ⟨gm, 0, none⟩ ∧ Blk W gm cur 34 ∧ ∀ (i : Nat) (c : C3), l[i]? = some c → cur[i * 3]? = some (.int .i64 c.1) ∧ cur[i * 3 + 1]? = some (.int .i64 c.2.1) ∧ cur[i * 3 + 2]? = some (.int .i64 c.2.2))
theorem MRow.of_owns {W : World} {base : Nat} {v : Value} {l : List C3} (h : W.ownsRow base 34 3 v l.length (flat3 l)) : MRow W v l := by
  obtain ⟨h1, h2⟩ := h
  rcases h2 with ⟨rfl, h0⟩ | ⟨g, cap, cur, rfl, hb, hg, hn, hcap, hsz, htk⟩
  · exact ⟨none, 0, by rw [h0], by omega, by omega, fun hp => by omega⟩
  · refine ⟨_, cap, rfl, hn, by simp only [maxLen] at hcap; omega, fun _ => ⟨g, cur, rfl, hg, fun i c hc => ?_⟩⟩
    have hi : i < l.length := (List.getElem?_eq_some_iff.1 hc).1
    have hf := flat3_at l i c hc
    rw [← htk] at hf
    rw [List.getElem?_take_of_lt (by omega), List.getElem?_take_of_lt (by omega), List.getElem?_take_of_lt (by omega)] at hf
    simpa using hf
theorem MRow.keep {S : Nat → Prop} {W W' : World} {v : Value} {l : List C3} (h : MRow W v l) (hk : Kept S W W') (hS : ∀ k cur, Blk W k cur 34 → ¬ S k) : MRow W' v l := by
  obtain ⟨o, cap, hv, h1, h2, h3⟩ := h
  refine ⟨o, cap, hv, h1, h2, fun hp => ?_⟩
  obtain ⟨gm, cur, ho, hB, hc⟩ := h3 hp
  exact ⟨gm, cur, ho, hB.keep hk (hS _ _ hB), hc⟩
theorem MRow.drew {W : World} {v : Value} {l : List C3} (h : MRow W v l) : MRow W.drew v l := h
theorem MRow.alloc {W : World} {v : Value} {l : List C3} (h : MRow W v l) (o : Obj) : MRow (W.alloc o) v l := by
  obtain ⟨p, cap, hv, h1, h2, h3⟩ := h
  refine ⟨p, cap, hv, h1, h2, fun hp => ?_⟩
  obtain ⟨gm, cur, ho, hB, hc⟩ := h3 hp
  exact ⟨gm, cur, ho, hB.alloc o, hc⟩
theorem Blk.typ {W : World} {k : Nat} {c1 c2 : Array Value} {t1 t2 : TypeId} (h1 : Blk W k c1 t1) (h2 : Blk W k c2 t2) : t1 = t2 := by
  unfold Blk at h1 h2
  rw [h1] at h2
  injection h2 with h2
  injection h2
/-- What an encoder's calls may turn is no list of cells. -/
theorem encS_cell {W : World} {g : Nat} {cs : Array Value} {v : Value} {xs : List Value} (hB : Blk W g cs 66) (hR : Row W 5 v xs) : ∀ k cur, Blk W k cur 34 → ¬ EncS g v k := by
  intro k cur hk hS
  rcases hS with rfl | hv
  · exact absurd (hk.typ hB) (by decide)
  · exact hR.ne hk (by decide) hv
theorem Three.below {W W' : World} {v : Value} {l : List C3} (h : Three W v l) (hb : Below W.heap.size W W') : Three W' v l := by
  rcases h with h | ⟨a, cap, hv, h1, h2, h4⟩
  · exact .inl h
  · refine .inr ⟨a, cap, hv, h1, h2, fun i c hc => ?_⟩
    obtain ⟨h3, q1, q2, q3, q4⟩ := h4 i c hc
    exact ⟨by have := hb.size; omega, (hb.cell (by rw [add_block]; exact h3)).trans q1, (hb.cell (by simp only [add_block]; exact h3)).trans q2, (hb.cell (by simp only [add_block]; exact h3)).trans q3, q4⟩
theorem used_bd {e : Sp.Enc} {b : Int} (h : e.Ok b) : 0 ≤ e.used ∧ e.used ≤ 8 * b + 32 := by
  have hb := Lib.bitLen_le e.rng.toNat 32 (by omega) (by have := h.rng1; omega)
  have h0 := h.gone0
  have h1 := h.gone1
  unfold Sp.Enc.used
  omega
/-- The block of a row, with its type. -/
theorem Row.blk {W : World} {e : TypeId} {v : Value} {xs : List Value} (h : Row W e v xs) {k : Nat} (hk : v.ownBlock = some k) : ∃ cur, Blk W k cur e := by
  rcases h.2 with ⟨rfl, _⟩ | ⟨g, cap, cur, rfl, hb, hg, rest⟩
  · simp [Value.ownBlock] at hk
  · obtain rfl : g = k := by simpa [Value.ownBlock] using hk
    exact ⟨cur, hg⟩
theorem encS_typ {W : World} {g : Nat} {cs cur : Array Value} {v : Value} {xs : List Value} {t : TypeId} (hB : Blk W g cs 66) (hR : Row W 5 v xs) {k : Nat} (hk : Blk W k cur t) (h1 : t ≠ 66) (h2 : t ≠ 5) : ¬ EncS g v k := by
  intro hS
  rcases hS with rfl | hv
  · exact h1 (hk.typ hB)
  · exact hR.ne hk h2 hv
theorem kept_grown {W W' : World} {row : Option Nat} (h : W.grownBy W' row) : Kept (fun k => row = some k) W W' :=
  ⟨h.os, h.tape, h.output, h.size, fun k hk hn => h.block k hk (fun e => hn e.symm)⟩
/-- Where an encoder's blocks lie behind a cell that was put. -/
theorem encS_below {n g : Nat} {v : Value} {w w' : World} (hK : Kept (EncS g v) w w') (hg : n ≤ g) (hv : ∀ k, v.ownBlock = some k → n ≤ k) (hn : n ≤ w.heap.size) : Below n w w' :=
  hK.below (fun k hk => by rcases hk with rfl | h; exact hg; exact hv k h) hn
end Go.Proofs.YtlhjkichambaoaaDoor
