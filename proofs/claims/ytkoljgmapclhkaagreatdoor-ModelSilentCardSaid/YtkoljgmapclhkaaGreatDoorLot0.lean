/- The plain law of the Laplace cells: the list of all cells, and what a number's cell and a place's number are. The plain law of the Laplace cells: what they are good for. The plain law of the Laplace cells as the document's reference reckons them, and what a number costs. The plain words of the range coder: what a decoder and an encoder hold, and what each call makes of it. The plain words of the range encoder: its bytes (but the last four), low, the range, and how far it has gone. The plain law of the range coder: what is put is met again. The plain law of the range coder: a decoder of the bytes keeps step with the encoder. The plain law of the range coder's reference: low as a list of digits; it tells what the coder tells. The plain words of a packet's end: trailing zeros off, zeros on to a size. The plain law of a list of cells: what was put is met again. The plain law of numbers that are put in bits: they are met again. The plain law of many numbers put in bits, one behind the other. The plain law of how many bits a cell uses. The plain law of numbers put as Laplace cells: they are taken again, and cost no more than is told. The plain words of pulses: how many vectors there are. The plain words of the whole-number cosines, cuts and shifts. Base of all walks: imports, and small facts on blocks of cells. -/
import Derived.Lib.BitFns
import Derived.Laws.BytesArg
import Derived.Lib.TrimByte
import Derived.Lib.Repeat
import Derived.Lib.ItoaNum
import Derived.RangeFuncNested
import Derived.RangeFuncBound
import Derived.RangeFuncCalls
import Derived.RangeFuncLeaves
import Derived.RangeFuncFrom
import Derived.RangeFuncBox
import Derived.Shelf.Abstract
import Derived.Shelf.RegionOpen
import Derived.WalkKit
import Derived.OwnWalkIn
import Derived.TacticsInMore
import Derived.LoopNIn
import Derived.LoopIn
import Derived.WalkSpells
import Derived.WalkLawsBesides
import Derived.Handy
import Derived.Lib.Hide
import Derived.Deep.QuietTactic
import Derived.Deep.RegionWith
import Derived.Deep.RegionHeld3
import Derived.Deep.RegionLaw
import Derived.StillTailTactics
import Derived.Deep.DeepCutAuto
import Derived.BigQuiet
import Derived.ChangeAlike
import Derived.Deep.AppendLies
import Derived.Laws.OwnMore
import Derived.RegionTactic
import Derived.Test.YtkoljgmapclhkaaGreatDoorProg
set_option linter.unusedSimpArgs false
set_option linter.unusedVariables false
namespace Go.Proofs.YtkoljgmapclhkaaGreatDoor.Sp

def lw (k : Nat) : Int := max (5000 / 2 ^ (k - 1)) 8
theorem lw_bd (k : Nat) : 8 ≤ lw k ∧ lw k ≤ 5000 := by
  unfold lw
  have : (5000 : Int) / 2 ^ (k - 1) ≤ 5000 := Int.ediv_le_self _ (by omega)
  omega
def lat : Nat → Int
  | 0 => 12568
  | n + 1 => lat n + 2 * lw (n + 1)
abbrev LC := Int × Int × Int
def lpre : Nat → List LC
  | 0 => [(0, 0, 12568)]
  | n + 1 => lpre n ++ [((n : Int) + 1, lat n, lw (n + 1))] ++ [(-((n : Int) + 1), lat n + lw (n + 1), lw (n + 1))]
def lcells : List LC := lpre 24

/-- What is left of 2^15 behind n rounds. -/
def lrest : Nat → Int
  | 0 => 32768
  | n + 1 => lrest n - 2 * lw (n + 1)
theorem lrest_24 : lrest 24 = 12568 := by decide +kernel
theorem lrest_bd (n : Nat) : 32768 - 10000 * n ≤ lrest n ∧ lrest n ≤ 32768 := by
  induction n with
  | zero => simp [lrest]
  | succ n ih =>
    have := lw_bd (n + 1)
    simp only [lrest]; omega
theorem lpre_length (n : Nat) : (lpre n).length = 2 * n + 1 := by
  induction n with
  | zero => rfl
  | succ n ih => simp only [lpre, List.length_append, List.length_cons, List.length_nil, ih]; omega
theorem lpre_step (n m : Nat) : lpre n <+: lpre (n + m) := by
  induction m with
  | zero => exact List.prefix_refl _
  | succ m ih => exact ih.trans (by rw [show n + (m + 1) = (n + m) + 1 from rfl, lpre, List.append_assoc]; exact List.prefix_append _ _)
theorem lpre_mono {n m : Nat} (h : n ≤ m) : lpre n <+: lpre m := by
  obtain ⟨d, rfl⟩ := Nat.le.dest h; exact lpre_step n d
theorem lpre_half (n : Nat) : lpre n ++ [((n : Int) + 1, lat n, lw (n + 1))] <+: lpre (n + 1) := by
  rw [lpre]; exact List.prefix_append _ _
theorem lat_bd (n : Nat) : 12568 ≤ lat n ∧ lat n ≤ 12568 + 10000 * n := by
  induction n with
  | zero => simp [lat]
  | succ n ih => have := lw_bd (n + 1); simp only [lat]; omega

/-- The first cell of a number. -/
def cellOf (v : Int) : Int × Int × Bool :=
  match lcells.find? (fun c => c.1 == v) with
  | some c => (c.2.1, c.2.2, true)
  | none => (0, 0, false)
def inCell (p : Int) (c : LC) : Bool := decide (c.2.1 ≤ p) && decide (p < c.2.1 + c.2.2)
def findOf (p : Int) : Int × Bool :=
  match lcells.find? (inCell p) with
  | some c => (c.1, true)
  | none => (0, false)

theorem find_none_append {α : Type} {q : α → Bool} {l : List α} {x : α} (h : l.find? q = none) (hx : q x = false) : (l ++ [x]).find? q = none := by
  simp only [List.find?_append, h, Option.none_or, List.find?_cons, hx, List.find?_nil]
theorem find_some_prefix {α : Type} {q : α → Bool} {l m : List α} {x : α} (hp : l ++ [x] <+: m) (h : l.find? q = none) (hx : q x = true) : m.find? q = some x := by
  obtain ⟨t, rfl⟩ := hp
  rw [List.find?_append, List.find?_append, h, List.find?_cons, hx]; rfl
theorem cellOf_hit {pre : List LC} {x : LC} {v : Int} (hp : pre ++ [x] <+: lcells) (h : pre.find? (fun c => c.1 == v) = none) (hx : x.1 = v) : cellOf v = (x.2.1, x.2.2, true) := by
  rw [cellOf, find_some_prefix hp h (by simp [hx])]
theorem cellOf_miss {v : Int} (h : lcells.find? (fun c => c.1 == v) = none) : cellOf v = (0, 0, false) := by rw [cellOf, h]
theorem findOf_hit {pre : List LC} {x : LC} {p : Int} (hp : pre ++ [x] <+: lcells) (h : pre.find? (inCell p) = none) (hx : inCell p x = true) : findOf p = (x.1, true) := by
  rw [findOf, find_some_prefix hp h hx]
theorem findOf_miss {p : Int} (h : lcells.find? (inCell p) = none) : findOf p = (0, false) := by rw [findOf, h]
theorem lcells_bd : ∀ c ∈ lcells, 0 ≤ c.2.1 ∧ 8 ≤ c.2.2 ∧ c.2.1 + c.2.2 ≤ 32768 := by decide +kernel
def Miss {α : Type} (q : α → Bool) (l : List α) : Prop := l.find? q = none
theorem find_congr {α : Type} {q r : α → Bool} {l : List α} (h : ∀ x ∈ l, q x = r x) : l.find? q = l.find? r := by
  induction l with
  | nil => rfl
  | cons a l ih => rw [List.find?_cons, List.find?_cons, h a (by simp), ih (fun x hx => h x (by simp [hx]))]
end Go.Proofs.YtkoljgmapclhkaaGreatDoor.Sp

namespace Go.Proofs.YtkoljgmapclhkaaGreatDoor.Sp
/-! What the cells are good for. -/
def cellB (v : Int) : Bool := (cellOf v).2.2 && decide (0 ≤ (cellOf v).1) && decide (8 ≤ (cellOf v).2.1) && decide ((cellOf v).1 + (cellOf v).2.1 ≤ 32768) &&
  (decide (24 ≤ v) || ((decide (v < 0) || decide ((cellOf (v + 1)).2.1 ≤ (cellOf v).2.1)) && (decide (0 ≤ v) || decide ((cellOf v).2.1 ≤ (cellOf (v + 1)).2.1)))) &&
  decide ((cellOf v) = (match lcells.find? (fun c => c.1 == v) with | some c => (c.2.1, c.2.2, true) | none => (0, 0, false)))
theorem cells_all : ∀ k < 49, cellB ((k : Nat) - 24) = true := by decide +kernel
structure CellIs (v a c : Int) : Prop where
  eq : cellOf v = (a, c, true)
  a0 : 0 ≤ a
  c8 : 8 ≤ c
  ac : a + c ≤ 32768
  down : 0 ≤ v → v < 24 → (cellOf (v + 1)).2.1 ≤ c
  up : v < 0 → c ≤ (cellOf (v + 1)).2.1
theorem cell_is (v : Int) (h1 : -24 ≤ v) (h2 : v ≤ 24) : ∃ a c, CellIs v a c := by
  have h := cells_all (v + 24).toNat (by omega)
  rw [show (((v + 24).toNat : Nat) : Int) - 24 = v from by omega] at h
  simp only [cellB, Bool.and_eq_true, Bool.or_eq_true, decide_eq_true_eq] at h
  obtain ⟨⟨⟨⟨⟨h1, h2⟩, h3⟩, h4⟩, h5⟩, _⟩ := h
  refine ⟨(cellOf v).1, (cellOf v).2.1, ⟨?_, h2, h3, h4, ?_, ?_⟩⟩
  · rw [← h1]
  · intro a b; rcases h5 with h | h
    · omega
    · rcases h.1 with h | h
      · omega
      · exact h
  · intro a; rcases h5 with h | h
    · omega
    · rcases h.2 with h | h
      · omega
      · exact h
theorem cellOf_bd (v : Int) : 0 ≤ (cellOf v).1 ∧ (cellOf v).1 ≤ 32768 ∧ 0 ≤ (cellOf v).2.1 ∧ (cellOf v).2.1 ≤ 32768 := by
  unfold cellOf
  split
  · rename_i c hc
    have := lcells_bd c (List.mem_of_find?_eq_some hc)
    simp only; omega
  · simp
theorem cellOf_mem {v a c : Int} (h : cellOf v = (a, c, true)) : (v, a, c) ∈ lcells := by
  unfold cellOf at h
  split at h
  · rename_i x hx
    have h1 := List.mem_of_find?_eq_some hx
    have h2 := List.find?_some hx
    simp only [beq_iff_eq] at h2
    obtain ⟨x1, x2, x3⟩ := x
    simp only [Prod.mk.injEq] at h h2
    obtain ⟨rfl, rfl, _⟩ := h
    rw [← h2]; exact h1
  · simp at h
def apartB (c d : LC) : Bool := decide (c = d) || decide (c.2.1 + c.2.2 ≤ d.2.1) || decide (d.2.1 + d.2.2 ≤ c.2.1)
theorem apart_all : ∀ c ∈ lcells, ∀ d ∈ lcells, apartB c d = true := by decide +kernel
theorem cover (n : Nat) (p : Int) (h0 : 0 ≤ p) (h : p < lat n) : ∃ c ∈ lpre n, inCell p c = true := by
  induction n with
  | zero => exact ⟨(0, 0, 12568), by simp [lpre], by simp [lat, inCell] at *; omega⟩
  | succ n ih =>
    by_cases hp : p < lat n
    · obtain ⟨c, hc, hi⟩ := ih hp
      exact ⟨c, by simp [lpre, hc], hi⟩
    · by_cases h2 : p < lat n + lw (n + 1)
      · exact ⟨_, List.mem_append.2 (.inl (List.mem_append.2 (.inr (List.mem_singleton.2 rfl)))), by simp [inCell]; omega⟩
      · exact ⟨_, List.mem_append.2 (.inr (List.mem_singleton.2 rfl)), by simp only [lat] at h; simp [inCell]; omega⟩
theorem lat_24 : lat 24 = 32768 := by decide +kernel
/-- Whose cell a place lies in: just one. -/
theorem find_is (p : Int) (h0 : 0 ≤ p) (h1 : p < 32768) : ∃ v a c, findOf p = (v, true) ∧ (v, a, c) ∈ lcells ∧ a ≤ p ∧ p < a + c := by
  obtain ⟨c, hc, hi⟩ := cover 24 p h0 (by rw [lat_24]; exact h1)
  cases hf : lcells.find? (inCell p) with
  | none => exact absurd hi (by simpa using List.find?_eq_none.1 hf c hc)
  | some x =>
    have hx := List.find?_some hf
    simp only [inCell, Bool.and_eq_true, decide_eq_true_eq] at hx
    exact ⟨x.1, x.2.1, x.2.2, by rw [findOf, hf], List.mem_of_find?_eq_some hf, hx.1, hx.2⟩
theorem find_unique {p v a c : Int} (h0 : 0 ≤ p) (h1 : p < 32768) (hm : (v, a, c) ∈ lcells) (ha : a ≤ p) (hc : p < a + c) : findOf p = (v, true) := by
  obtain ⟨v', a', c', hf, hm', ha', hc'⟩ := find_is p h0 h1
  have := apart_all _ hm _ hm'
  simp only [apartB, Bool.or_eq_true, decide_eq_true_eq, Prod.mk.injEq] at this
  rcases this with (h | h) | h
  · rw [hf, h.1]
  · omega
  · omega
theorem lcells_v : ∀ c ∈ lcells, -24 ≤ c.1 ∧ c.1 ≤ 24 := by decide +kernel
theorem find_in (p : Int) (h0 : 0 ≤ p) (h1 : p < 32768) : ∃ v, findOf p = (v, true) ∧ -24 ≤ v ∧ v ≤ 24 := by
  obtain ⟨v, a, c, hf, hm, _⟩ := find_is p h0 h1
  exact ⟨v, hf, lcells_v _ hm⟩
theorem cell_hit {p v a c : Int} (h0 : 0 ≤ p) (h1 : p < 32768) (h : cellOf v = (a, c, true)) (ha : a ≤ p) (hc : p < a + c) : (findOf p).1 = v := by
  rw [find_unique h0 h1 (cellOf_mem h) ha hc]
theorem lcells_cell : ∀ x ∈ lcells, cellOf x.1 = (x.2.1, x.2.2, true) := by decide +kernel
theorem cell_miss {p v a c : Int} (h0 : 0 ≤ p) (h1 : p < 32768) (h : cellOf v = (a, c, true)) (hn : ¬ (a ≤ p ∧ p < a + c)) : (findOf p).1 ≠ v := by
  intro e
  obtain ⟨v', a', c', hf, hm', ha', hc'⟩ := find_is p h0 h1
  rw [hf] at e
  obtain rfl : v' = v := e
  have := lcells_cell _ hm'
  rw [h] at this
  simp only [Prod.mk.injEq] at this
  omega
/-- The sum of the widths of the first k numbers from -24 on. -/
def ssum : Nat → Int
  | 0 => 0
  | k + 1 => ssum k + (cellOf ((k : Int) - 24)).2.1
theorem ssum_49 : ssum 49 = 32768 := by decide +kernel
theorem ssum_bd (k : Nat) : 0 ≤ ssum k ∧ ssum k ≤ 32768 * k := by
  induction k with
  | zero => simp [ssum]
  | succ k ih => have := cellOf_bd ((k : Int) - 24); simp only [ssum]; omega
def ssumI (x : Int) : Int := ssum (x + 24).toNat
theorem ssumI_step {x a c : Int} (h : CellIs x a c) (h1 : -24 ≤ x) : ssumI (x + 1) = ssumI x + c := by
  unfold ssumI
  rw [show (x + 1 + 24).toNat = (x + 24).toNat + 1 from by omega, ssum, show (((x + 24).toNat : Nat) : Int) - 24 = x from by omega, h.eq]
theorem ssumI_bd {x : Int} (h1 : -24 ≤ x) (h2 : x ≤ 25) : 0 ≤ ssumI x ∧ ssumI x ≤ 10000000 := by
  have := ssum_bd (x + 24).toNat
  unfold ssumI; omega
/-- The counter: has the number v gone by? -/
def past (v x : Int) : Int := if v < x then 1 else 0
end Go.Proofs.YtkoljgmapclhkaaGreatDoor.Sp

namespace Go.Proofs.YtkoljgmapclhkaaGreatDoor.Sp
def hv (m : Nat) : Int := 5000 / 2 ^ (m - 1)
theorem hv_bd (m : Nat) : 0 ≤ hv m ∧ hv m ≤ 5000 := by
  unfold hv
  exact ⟨Int.ediv_nonneg (by omega) (Int.pow_nonneg (by omega)), Int.ediv_le_self _ (by omega)⟩
theorem hv_step {m : Nat} (h : 1 ≤ m) : hv (m + 1) = hv m / 2 := by
  unfold hv
  obtain ⟨k, rfl⟩ : ∃ k, m = k + 1 := ⟨m - 1, by omega⟩
  rw [show k + 1 + 1 - 1 = k + 1 from rfl, show k + 1 - 1 = k from rfl, Int.pow_succ, Int.ediv_ediv_of_nonneg (Int.pow_nonneg (by omega))]
theorem lw_hv (k : Nat) : lw k = max (hv k) 8 := rfl
theorem cell_lw : ∀ k < 25, 1 ≤ k → (cellOf (k : Nat)).2.1 = lw k ∧ (cellOf (-((k : Nat) : Int))).2.1 = lw k := by decide +kernel
theorem cell_0 : cellOf 0 = (0, 12568, true) := by decide +kernel
/-- The i-th number: 0, 1, -1, 2, -2, .. -/
def ordN (i : Nat) : Int := if i % 2 = 1 then (((i + 1) / 2 : Nat) : Int) else -((i / 2 : Nat) : Int)
theorem ordN_step (i : Nat) : ordN (i + 1) = if 0 < ordN i then -ordN i else 1 - ordN i := by
  unfold ordN
  split <;> split <;> (try split) <;> (try split) <;> omega
theorem ordN_bd {i : Nat} (h : i < 49) : -24 ≤ ordN i ∧ ordN i ≤ 24 := by
  unfold ordN; split <;> omega
def idxN (v : Int) : Nat := if 0 < v then (2 * v - 1).toNat else (-2 * v).toNat
theorem ordN_idx (v : Int) : ordN (idxN v) = v := by
  unfold ordN idxN; split <;> split <;> omega
theorem idxN_bd {v : Int} (h1 : -24 ≤ v) (h2 : v ≤ 24) : idxN v < 49 := by unfold idxN; split <;> omega
theorem ordN_inj {i j : Nat} (h : ordN i = ordN j) : i = j := by
  unfold ordN at h; split at h <;> split at h <;> omega
def stN : Nat → Int
  | 0 => 0
  | i + 1 => stN i + (cellOf (ordN i)).2.1
theorem st_cell : ∀ i < 49, (cellOf (ordN i)).1 = stN i ∧ (cellOf (ordN i)).2.2 = true := by decide +kernel
theorem st_49 : stN 49 = 32768 := by decide +kernel
theorem st_bd (i : Nat) : 0 ≤ stN i ∧ stN i ≤ 32768 * i := by
  induction i with
  | zero => simp [stN]
  | succ i ih => have := cellOf_bd (ordN i); simp only [stN]; omega
theorem st_is {i : Nat} (h : i < 49) : cellOf (ordN i) = (stN i, (cellOf (ordN i)).2.1, true) := by
  have := st_cell i h
  rw [← this.1, ← this.2]
/-- How many halvings of 2^15 make no more than a width. -/
def costW (w : Int) : Nat := ((List.range 16).find? (fun n => decide ((32768 : Int) / 2 ^ n ≤ w))).getD 0
def costOf (v : Int) : Int := if (cellOf v).2.2 then costW (cellOf v).2.1 else 0
theorem costW_eq {w : Int} {n : Nat} (hn : n < 16) (h1 : ∀ m, m < n → w < 32768 / 2 ^ m) (h2 : (32768 : Int) / 2 ^ n ≤ w) : costW w = n := by
  unfold costW
  have : (List.range 16).find? (fun n => decide ((32768 : Int) / 2 ^ n ≤ w)) = some n := by
    rw [List.find?_range_eq_some]
    refine ⟨by simpa using h2, by simpa using hn, fun j hj => ?_⟩
    have := h1 j hj
    simp; omega
  rw [this]; rfl
end Go.Proofs.YtkoljgmapclhkaaGreatDoor.Sp

namespace Go.Proofs.YtkoljgmapclhkaaGreatDoor.Sp

/-- A text's byte; 0 behind its end. -/
def byteAt (s : ByteArray) (i : Int) : Int := if h : i.toNat < s.size then ((s[i.toNat]'h).toNat : Int) else 0
theorem byteAt_bd (s : ByteArray) (i : Int) : 0 ≤ byteAt s i ∧ byteAt s i ≤ 255 := by
  unfold byteAt; split
  · have := (s[i.toNat]).toNat_lt; omega
  · omega
structure Dec where
  s : ByteArray
  pos : Int
  code : Int
  rng : Int
  gone : Int
structure Dec.Ok (d : Dec) (b : Int) : Prop where
  pos0 : 0 ≤ d.pos
  pos1 : d.pos ≤ b
  code0 : 0 ≤ d.code
  code1 : d.code ≤ 4294967295
  rng0 : 16777216 ≤ d.rng
  rng1 : d.rng ≤ 4294967295
  gone0 : 0 ≤ d.gone
  gone1 : d.gone ≤ b
def Dec.step (d : Dec) : Dec := ⟨d.s, d.pos + 1, d.code * 256 % 4294967296 + byteAt d.s d.pos, d.rng * 256, d.gone + 1⟩
/-- As long as the range is below 2^24 a byte is taken. -/
def Dec.norm : Nat → Dec → Dec
  | 0, d => d
  | k + 1, d => if d.rng < 16777216 then d.step.norm k else d
def Dec.raw (d : Dec) (start width total : Int) : Dec :=
  { d with code := (d.code - d.rng / total * start) % 4294967296, rng := d.rng / total * width }
def Dec.take (d : Dec) (start width total : Int) : Dec := (d.raw start width total).norm 3
def Dec.place (d : Dec) (total : Int) : Int := min (d.code / (d.rng / total)) (total - 1)
def Dec.used (d : Dec) : Int := 8 * d.gone + (32 - (Lib.bitLen d.rng.toNat : Int))
def Dec.first (s : ByteArray) : Nat → Dec
  | 0 => ⟨s, 0, 0, 4294967295, 0⟩
  | k + 1 => let d := Dec.first s k; ⟨s, d.pos + 1, d.code * 256 % 4294967296 + byteAt s d.pos, 4294967295, 0⟩
def Dec.new (s : ByteArray) : Dec := Dec.first s 4
/-- Is there a cell? -/
def cellIs (start width total : Int) : Prop := 1 ≤ total ∧ total ≤ 32768 ∧ 0 ≤ start ∧ 1 ≤ width ∧ start < total ∧ width ≤ total - start
instance (start width total : Int) : Decidable (cellIs start width total) := by unfold cellIs; infer_instance

theorem Dec.first_ok (s : ByteArray) (k : Nat) : (Dec.first s k).s = s ∧ (Dec.first s k).pos = k ∧ 0 ≤ (Dec.first s k).code ∧ (Dec.first s k).code ≤ 4294967295 ∧ (Dec.first s k).rng = 4294967295 ∧ (Dec.first s k).gone = 0 := by
  induction k with
  | zero => simp [Dec.first]
  | succ k ih =>
    have := byteAt_bd s (Dec.first s k).pos
    simp only [Dec.first]
    refine ⟨trivial, by omega, by omega, by omega, trivial, trivial⟩
theorem Dec.new_ok (s : ByteArray) : (Dec.new s).Ok 4 := by
  obtain ⟨_, h2, h3, h4, h5, h6⟩ := Dec.first_ok s 4
  exact ⟨by rw [Dec.new, h2]; omega, by rw [Dec.new, h2]; omega, h3, h4, by rw [Dec.new, h5]; omega, by rw [Dec.new, h5]; omega, by rw [Dec.new, h6]; omega, by rw [Dec.new, h6]; omega⟩
/-- A step's share of the range. -/
theorem step_bd {r total : Int} (hr0 : 16777216 ≤ r) (hr1 : r ≤ 4294967295) (ht0 : 1 ≤ total) (ht1 : total ≤ 32768) : 512 ≤ r / total ∧ r / total ≤ 4294967295 ∧ r / total * total ≤ r := by
  refine ⟨?_, ?_, Int.ediv_mul_le r (by omega)⟩
  · exact (Int.le_ediv_iff_mul_le (by omega)).2 (by omega)
  · exact Int.le_trans (Int.ediv_le_self _ (by omega)) hr1
theorem mul_bd {a w t r : Int} (ha : 512 ≤ a) (hw0 : 1 ≤ w) (hw : w ≤ t) (h : a * t ≤ r) : 512 ≤ a * w ∧ a * w ≤ r := by
  have h1 : a * 1 ≤ a * w := Int.mul_le_mul_of_nonneg_left hw0 (by omega)
  have h2 : a * w ≤ a * t := Int.mul_le_mul_of_nonneg_left hw (by omega)
  omega
theorem mul_bd0 {a w t r : Int} (ha : 512 ≤ a) (hw0 : 0 ≤ w) (hw : w ≤ t) (h : a * t ≤ r) : 0 ≤ a * w ∧ a * w ≤ r := by
  have h1 : 0 ≤ a * w := Int.mul_nonneg (by omega) hw0
  have h2 : a * w ≤ a * t := Int.mul_le_mul_of_nonneg_left hw (by omega)
  omega
/-- What a decoder's numbers are between two turns of the loop: k bytes more at most. -/
structure Dec.Mid (d : Dec) (b : Int) (k : Nat) : Prop where
  pos0 : 0 ≤ d.pos
  pos1 : d.pos + k ≤ b
  code0 : 0 ≤ d.code
  code1 : d.code ≤ 4294967295
  rng0 : 1 ≤ d.rng
  rng1 : d.rng ≤ 4294967295
  gone0 : 0 ≤ d.gone
  gone1 : d.gone + k ≤ b
  enough : 16777216 ≤ d.rng * 256 ^ k
theorem Dec.Mid.pos {d : Dec} {b : Int} {k : Nat} (h : d.Mid b k) (hr : d.rng < 16777216) : ∃ j, k = j + 1 := by
  cases k with
  | zero => have := h.enough; simp at this; omega
  | succ j => exact ⟨j, rfl⟩
theorem Dec.step_mid {d : Dec} {b : Int} {k : Nat} (h : d.Mid b (k + 1)) (hr : d.rng < 16777216) : d.step.Mid b k := by
  obtain ⟨a1, a2, a3, a4, a5, a6, a7, a8, a9⟩ := h
  have := byteAt_bd d.s d.pos
  have e : d.rng * 256 * 256 ^ k = d.rng * 256 ^ (k + 1) := by rw [Int.pow_succ, Int.mul_assoc, Int.mul_comm 256]
  exact ⟨by simp only [Dec.step]; omega, by simp only [Dec.step]; omega, by simp only [Dec.step]; omega, by simp only [Dec.step]; omega, by simp only [Dec.step]; omega, by simp only [Dec.step]; omega, by simp only [Dec.step]; omega, by simp only [Dec.step]; omega, by simp only [Dec.step]; rw [e]; exact a9⟩
theorem Dec.raw_mid {d : Dec} {b : Int} (h : d.Ok b) {start width total : Int} (hc : cellIs start width total) : (d.raw start width total).Mid (b + 3) 3 := by
  obtain ⟨a1, a2, a3, a4, a5, a6, a7, a8⟩ := h
  obtain ⟨c1, c2, c3, c4, c5, c6⟩ := hc
  obtain ⟨b1, b2, b3⟩ := step_bd a5 a6 c1 c2
  have m := mul_bd b1 c4 (by omega : width ≤ total) b3
  simp only [Dec.raw]
  exact ⟨a1, by simp only; omega, by simp only; omega, by simp only; omega, by simp only; omega, by simp only; omega, a7, by simp only; omega, by simp only; omega⟩
theorem Dec.norm_done {d : Dec} (h : 16777216 ≤ d.rng) (k : Nat) : d.norm k = d := by
  cases k with
  | zero => rfl
  | succ k => rw [Dec.norm, if_neg (by omega)]
theorem Dec.norm_step {d : Dec} (h : d.rng < 16777216) (k : Nat) : d.norm (k + 1) = d.step.norm k := by rw [Dec.norm, if_pos h]
theorem Dec.norm_ok {b : Int} (k : Nat) : ∀ {d : Dec}, d.Mid b k → (d.norm k).Ok b := by
  induction k with
  | zero => intro d h; exact ⟨h.pos0, by have := h.pos1; simp only [Dec.norm]; omega, h.code0, h.code1, by have := h.enough; simp at this; exact this, h.rng1, h.gone0, by have := h.gone1; simp only [Dec.norm]; omega⟩
  | succ k ih =>
    intro d h
    by_cases hr : d.rng < 16777216
    · rw [Dec.norm_step hr]; exact ih (Dec.step_mid h hr)
    · rw [Dec.norm_done (by omega)]
      exact ⟨h.pos0, by have := h.pos1; omega, h.code0, h.code1, by omega, h.rng1, h.gone0, by have := h.gone1; omega⟩
theorem Dec.take_ok {d : Dec} {b : Int} (h : d.Ok b) {start width total : Int} (hc : cellIs start width total) : (d.take start width total).Ok (b + 3) := Dec.norm_ok 3 (Dec.raw_mid h hc)
theorem Dec.step_s (d : Dec) : d.step.s = d.s := rfl
theorem Dec.norm_s (k : Nat) : ∀ d : Dec, (d.norm k).s = d.s := by
  induction k with
  | zero => intro d; rfl
  | succ k ih => intro d; rw [Dec.norm]; split
                 · rw [ih]; rfl
                 · rfl
end Go.Proofs.YtkoljgmapclhkaaGreatDoor.Sp

namespace Go.Proofs.YtkoljgmapclhkaaGreatDoor.Sp

/-- One more at the j-th byte from the front (counted from 1), and, as long as it becomes 0, ahead of it. -/
def carryAt : Nat → List Int → List Int
  | 0, l => l
  | j + 1, l => let b := (l.getD j 0 + 1) % 256; if b = 0 then carryAt j (l.set j b) else l.set j b
def carryL (l : List Int) : List Int := carryAt l.length l
theorem carryAt_length : ∀ (j : Nat) (l : List Int), (carryAt j l).length = l.length
  | 0, l => rfl
  | j + 1, l => by
    simp only [carryAt]; split
    · rw [carryAt_length j]; simp
    · simp
def Bytes (l : List Int) : Prop := ∀ x ∈ l, 0 ≤ x ∧ x ≤ 255
theorem Bytes.get {l : List Int} (h : Bytes l) {j : Nat} (hj : j < l.length) : 0 ≤ l.getD j 0 ∧ l.getD j 0 ≤ 255 := by
  rw [List.getD_eq_getElem?_getD, List.getElem?_eq_getElem hj]; exact h _ (List.getElem_mem hj)
theorem Bytes.set {l : List Int} (h : Bytes l) (j : Nat) {x : Int} (h0 : 0 ≤ x) (h1 : x ≤ 255) : Bytes (l.set j x) := by
  intro y hy
  rcases List.mem_or_eq_of_mem_set hy with hy | rfl
  · exact h y hy
  · exact ⟨h0, h1⟩
theorem carryAt_bytes : ∀ (j : Nat) (l : List Int), Bytes l → Bytes (carryAt j l)
  | 0, l, h => h
  | j + 1, l, h => by
    simp only [carryAt]; split
    · exact carryAt_bytes j _ (h.set j (by omega) (by omega))
    · exact h.set j (by omega) (by omega)
theorem Bytes.append {l m : List Int} (h : Bytes l) (k : Bytes m) : Bytes (l ++ m) := fun x hx => (List.mem_append.1 hx).elim (h x) (k x)

structure Enc where
  size : Int
  low : Int
  rng : Int
  out : List Int
  gone : Int
structure Enc.Ok (e : Enc) (b : Int) : Prop where
  low0 : 0 ≤ e.low
  low1 : e.low ≤ 4294967295
  rng0 : 16777216 ≤ e.rng
  rng1 : e.rng ≤ 4294967295
  bytes : Bytes e.out
  len : (e.out.length : Int) ≤ b
  gone0 : 0 ≤ e.gone
  gone1 : e.gone ≤ b
def Enc.new (size : Int) : Enc := ⟨size, 0, 4294967295, [], 0⟩
theorem Enc.new_ok (size : Int) : (Enc.new size).Ok 0 := ⟨by simp [Enc.new], by simp [Enc.new], by simp [Enc.new], by simp [Enc.new], by intro x hx; simp [Enc.new] at hx, by simp [Enc.new], by simp [Enc.new], by simp [Enc.new]⟩
/-- The carry given away. -/
def Enc.settle (e : Enc) : Enc := if 4294967295 < e.low then { e with low := e.low % 4294967296, out := carryL e.out } else e
def Enc.step (e : Enc) : Enc := ⟨e.size, e.low * 256 % 4294967296, e.rng * 256, e.out ++ [e.low / 16777216 % 256], e.gone + 1⟩
def Enc.norm : Nat → Enc → Enc
  | 0, e => e
  | k + 1, e => if e.rng < 16777216 then e.step.norm k else e
def Enc.raw (e : Enc) (start width total : Int) : Enc :=
  { ({ e with low := e.low + e.rng / total * start } : Enc).settle with rng := e.rng / total * width }
def Enc.put (e : Enc) (start width total : Int) : Enc := (e.raw start width total).norm 3
def Enc.used (e : Enc) : Int := 8 * e.gone + (32 - (Lib.bitLen e.rng.toNat : Int))

structure Enc.Mid (e : Enc) (b : Int) (k : Nat) : Prop where
  low0 : 0 ≤ e.low
  low1 : e.low ≤ 4294967295
  rng0 : 1 ≤ e.rng
  rng1 : e.rng ≤ 4294967295
  bytes : Bytes e.out
  len : (e.out.length : Int) + k ≤ b
  gone0 : 0 ≤ e.gone
  gone1 : e.gone + k ≤ b
  enough : 16777216 ≤ e.rng * 256 ^ k
theorem Enc.Mid.pos {e : Enc} {b : Int} {k : Nat} (h : e.Mid b k) (hr : e.rng < 16777216) : ∃ j, k = j + 1 := by
  cases k with
  | zero => have := h.enough; simp at this; omega
  | succ j => exact ⟨j, rfl⟩
theorem Enc.step_mid {e : Enc} {b : Int} {k : Nat} (h : e.Mid b (k + 1)) (hr : e.rng < 16777216) : e.step.Mid b k := by
  obtain ⟨a1, a2, a3, a4, a5, a6, a7, a8, a9⟩ := h
  have e1 : e.rng * 256 * 256 ^ k = e.rng * 256 ^ (k + 1) := by rw [Int.pow_succ, Int.mul_assoc, Int.mul_comm 256]
  refine ⟨by simp only [Enc.step]; omega, by simp only [Enc.step]; omega, by simp only [Enc.step]; omega, by simp only [Enc.step]; omega, ?_, by simp only [Enc.step, List.length_append, List.length_cons, List.length_nil]; omega, by simp only [Enc.step]; omega, by simp only [Enc.step]; omega, by simp only [Enc.step]; rw [e1]; exact a9⟩
  simp only [Enc.step]
  refine a5.append ?_
  intro x hx
  obtain rfl := List.mem_singleton.1 hx
  omega
theorem Enc.settle_rng (e : Enc) : e.settle.rng = e.rng := by unfold Enc.settle; split <;> rfl
theorem Enc.settle_gone (e : Enc) : e.settle.gone = e.gone := by unfold Enc.settle; split <;> rfl
theorem Enc.settle_size (e : Enc) : e.settle.size = e.size := by unfold Enc.settle; split <;> rfl
theorem Enc.settle_len (e : Enc) : e.settle.out.length = e.out.length := by
  unfold Enc.settle; split
  · exact carryAt_length _ _
  · rfl
theorem Enc.settle_bytes {e : Enc} (h : Bytes e.out) : Bytes e.settle.out := by
  unfold Enc.settle; split
  · exact carryAt_bytes _ _ h
  · exact h
theorem Enc.settle_low {e : Enc} (h : 0 ≤ e.low) : 0 ≤ e.settle.low ∧ e.settle.low ≤ 4294967295 := by
  unfold Enc.settle; split
  · simp only; omega
  · omega
theorem Enc.raw_mid {e : Enc} {b : Int} (h : e.Ok b) {start width total : Int} (hc : cellIs start width total) : (e.raw start width total).Mid (b + 3) 3 := by
  obtain ⟨a1, a2, a3, a4, a5, a6, a7, a8⟩ := h
  obtain ⟨c1, c2, c3, c4, c5, c6⟩ := hc
  obtain ⟨b1, b2, b3⟩ := step_bd a3 a4 c1 c2
  have m := mul_bd b1 c4 (by omega : width ≤ total) b3
  have m0 := mul_bd0 b1 c3 (by omega : start ≤ total) b3
  have hl := Enc.settle_low (e := { e with low := e.low + e.rng / total * start }) (by simp only; omega)
  have hn := Enc.settle_len { e with low := e.low + e.rng / total * start }
  have hg := Enc.settle_gone { e with low := e.low + e.rng / total * start }
  simp only at hn hg
  unfold Enc.raw
  exact ⟨hl.1, hl.2, by simp only; omega, by simp only; omega, Enc.settle_bytes (e := { e with low := e.low + e.rng / total * start }) a5, by simp only [hn]; omega, by simp only [hg]; exact a7, by simp only [hg]; omega, by simp only; omega⟩
theorem Enc.norm_done {e : Enc} (h : 16777216 ≤ e.rng) (k : Nat) : e.norm k = e := by
  cases k with
  | zero => rfl
  | succ k => rw [Enc.norm, if_neg (by omega)]
theorem Enc.norm_step {e : Enc} (h : e.rng < 16777216) (k : Nat) : e.norm (k + 1) = e.step.norm k := by rw [Enc.norm, if_pos h]
theorem Enc.norm_ok {b : Int} (k : Nat) : ∀ {e : Enc}, e.Mid b k → (e.norm k).Ok b := by
  induction k with
  | zero => intro e h; exact ⟨h.low0, h.low1, by have := h.enough; simp at this; exact this, h.rng1, h.bytes, by have := h.len; simp only [Enc.norm]; omega, h.gone0, by have := h.gone1; simp only [Enc.norm]; omega⟩
  | succ k ih =>
    intro e h
    by_cases hr : e.rng < 16777216
    · rw [Enc.norm_step hr]; exact ih (Enc.step_mid h hr)
    · rw [Enc.norm_done (by omega)]
      exact ⟨h.low0, h.low1, by omega, h.rng1, h.bytes, by have := h.len; omega, h.gone0, by have := h.gone1; omega⟩
theorem Enc.put_ok {e : Enc} {b : Int} (h : e.Ok b) {start width total : Int} (hc : cellIs start width total) : (e.put start width total).Ok (b + 3) := Enc.norm_ok 3 (Enc.raw_mid h hc)
end Go.Proofs.YtkoljgmapclhkaaGreatDoor.Sp

namespace Go.Proofs.YtkoljgmapclhkaaGreatDoor.Sp

/-- The number that bytes tell, the first one the greatest. -/
def num (l : List Int) : Int := l.foldl (fun a x => a * 256 + x) 0
theorem num_from (l : List Int) : ∀ a : Int, l.foldl (fun a x => a * 256 + x) a = a * 256 ^ l.length + num l := by
  induction l with
  | nil => intro a; simp [num]
  | cons x l ih =>
    intro a
    simp only [num, List.foldl_cons, List.length_cons]
    rw [ih, ih (0 * 256 + x), Int.pow_succ, Int.add_mul, Int.mul_assoc, Int.mul_comm 256]
    simp only [Int.zero_mul, Int.zero_add]
    omega
theorem num_append (l m : List Int) : num (l ++ m) = num l * 256 ^ m.length + num m := by
  rw [num, List.foldl_append, num_from]; rfl
theorem num_snoc (l : List Int) (x : Int) : num (l ++ [x]) = num l * 256 + x := by
  rw [num_append]; simp [num]
theorem num_nil : num [] = 0 := rfl
theorem pow_pos' (n : Nat) : (0 : Int) < 256 ^ n := Int.pow_pos (by omega)
theorem snoc_ind {P : List Int → Prop} (h0 : P []) (hs : ∀ l x, P l → P (l ++ [x])) : ∀ l, P l := by
  intro l
  have : ∀ n, ∀ l : List Int, l.length = n → P l := by
    intro n
    induction n with
    | zero => intro l hl; rw [List.length_eq_zero_iff.1 hl]; exact h0
    | succ n ih =>
      intro l hl
      rcases List.eq_nil_or_concat l with rfl | ⟨m, x, rfl⟩
      · simp at hl
      · rw [List.concat_eq_append] at hl ⊢
        exact hs m x (ih m (by simpa using hl))
  exact this _ l rfl
theorem Bytes.left {l m : List Int} (h : Bytes (l ++ m)) : Bytes l := fun x hx => h x (List.mem_append_left _ hx)
theorem Bytes.last {l : List Int} {x : Int} (h : Bytes (l ++ [x])) : 0 ≤ x ∧ x ≤ 255 := h x (List.mem_append_right _ (List.mem_singleton.2 rfl))
theorem num_bd (l : List Int) : Bytes l → 0 ≤ num l ∧ num l < 256 ^ l.length := by
  refine snoc_ind (P := fun l => Bytes l → 0 ≤ num l ∧ num l < 256 ^ l.length) (fun _ => by simp [num]) (fun l x ih h => ?_) l
  have h1 := ih h.left
  have h2 := h.last
  rw [num_snoc, List.length_append, List.length_singleton, Int.pow_succ]
  omega

theorem carryAt_num (a : List Int) : ∀ b : List Int, Bytes a → num a + 1 < 256 ^ a.length → num (carryAt a.length (a ++ b)) = num (a ++ b) + 256 ^ b.length := by
  refine snoc_ind (P := fun a => ∀ b : List Int, Bytes a → num a + 1 < 256 ^ a.length → num (carryAt a.length (a ++ b)) = num (a ++ b) + 256 ^ b.length) ?_ ?_ a
  · intro b _ h; simp [num] at h
  · intro a x ih b hB hlt
    have hx := hB.last
    have ha := hB.left
    rw [num_snoc, List.length_append, List.length_singleton, Int.pow_succ] at hlt
    rw [List.length_append, List.length_singleton, carryAt]
    have hget : (a ++ [x] ++ b).getD a.length 0 = x := by
      rw [List.append_assoc, List.getD_eq_getElem?_getD, List.getElem?_append_right (by omega)]; simp
    have hset : ∀ y, (a ++ [x] ++ b).set a.length y = a ++ ([y] ++ b) := by
      intro y
      rw [List.append_assoc, List.set_append_right _ _ (by omega)]; simp
    simp only [hget, hset]
    have hp := pow_pos' b.length
    split
    · rename_i h0
      obtain rfl : x = 255 := by omega
      rw [ih ([_] ++ b) ha (by omega), List.append_assoc]
      simp only [num_append, List.length_append, List.length_singleton, Nat.add_comm 1]
      rw [show num [((255 : Int) + 1) % 256] = 0 from rfl, show num [(255 : Int)] = 255 from rfl, Int.pow_succ]
      omega
    · rename_i h0
      rw [show (x + 1) % 256 = x + 1 from by omega, List.append_assoc]
      simp only [num_append, List.length_append, List.length_singleton]
      rw [show num [x + 1] = x + 1 from by simp [num], show num [x] = x from by simp [num], Int.add_mul]
      omega

def Enc.val (e : Enc) : Int := num e.out * 4294967296 + e.low
/-- An encoder's number, and its range, lie in as many digits as it has gone. -/
structure Enc.Inv (e : Enc) : Prop where
  gone : e.gone = e.out.length
  bytes : Bytes e.out
  low0 : 0 ≤ e.low
  top : e.val + e.rng ≤ 256 ^ (e.out.length + 4)
theorem pow4 (n : Nat) : (256 : Int) ^ (n + 4) = 256 ^ n * 4294967296 := by rw [Int.pow_add]; rfl
theorem Enc.settle_val {e : Enc} (hb : Bytes e.out) (h0 : 0 ≤ e.low) (h1 : e.low ≤ 8589934591) (ht : e.val < 256 ^ (e.out.length + 4)) : e.settle.val = e.val := by
  unfold Enc.settle
  split
  · rename_i h
    have hn := (num_bd e.out hb).1
    have : num e.out + 1 < 256 ^ e.out.length := by
      rw [pow4] at ht
      unfold Enc.val at ht
      omega
    have hc := carryAt_num e.out [] hb this
    simp only [List.append_nil, List.length_nil, Int.pow_zero] at hc
    simp only [Enc.val, carryL, hc]
    omega
  · rfl
theorem Enc.step_val {e : Enc} (h0 : 0 ≤ e.low) (h1 : e.low ≤ 4294967295) : e.step.val = e.val * 256 := by
  simp only [Enc.step, Enc.val, num_snoc]
  omega
/-- What a decoder has read of a text: the number of its first k bytes. -/
def told (s : ByteArray) : Nat → Int
  | 0 => 0
  | k + 1 => told s k * 256 + byteAt s k
theorem told_bd (s : ByteArray) (k : Nat) : 0 ≤ told s k ∧ told s k < 256 ^ k := by
  induction k with
  | zero => simp [told]
  | succ k ih => have := byteAt_bd s k; simp only [told]; rw [Int.pow_succ]; omega
theorem told_from (s : ByteArray) (k d : Nat) : told s k * 256 ^ d ≤ told s (k + d) ∧ told s (k + d) < (told s k + 1) * 256 ^ d := by
  induction d with
  | zero => simp; omega
  | succ d ih =>
    have := byteAt_bd s ((k + d : Nat) : Int)
    rw [← Nat.add_assoc, told, Int.pow_succ, ← Int.mul_assoc, ← Int.mul_assoc]
    omega

theorem Enc.norm_val (k : Nat) : ∀ {e : Enc} {b : Int}, e.Mid b k → e.gone = e.out.length → ∃ d : Nat, (e.norm k).val = e.val * 256 ^ d ∧ (e.norm k).rng = e.rng * 256 ^ d ∧ (e.norm k).out.length = e.out.length + d ∧ (e.norm k).gone = (e.norm k).out.length := by
  induction k with
  | zero => intro e b _ hg; exact ⟨0, by simp [Enc.norm], by simp [Enc.norm], by simp [Enc.norm], hg⟩
  | succ k ih =>
    intro e b hm hg
    by_cases hr : e.rng < 16777216
    · rw [Enc.norm_step hr]
      obtain ⟨d, h1, h2, h3, h4⟩ := ih (Enc.step_mid hm hr) (by simp only [Enc.step, List.length_append, List.length_singleton]; omega)
      refine ⟨d + 1, ?_, ?_, ?_, h4⟩
      · rw [h1, Enc.step_val hm.low0 hm.low1, Int.pow_succ, Int.mul_assoc, Int.mul_comm 256]
      · rw [h2, Int.pow_succ, Int.mul_comm (256 ^ d), ← Int.mul_assoc]; rfl
      · rw [h3]; simp only [Enc.step, List.length_append, List.length_singleton]; omega
    · rw [Enc.norm_done (by omega)]
      exact ⟨0, by simp, by simp, by simp, hg⟩
theorem Enc.raw_val {e : Enc} {b : Int} (h : e.Ok b) (hi : e.Inv) {x y t : Int} (hc : cellIs x y t) :
    (e.raw x y t).val = e.val + e.rng / t * x ∧ (e.raw x y t).rng = e.rng / t * y ∧ (e.raw x y t).out.length = e.out.length ∧ (e.raw x y t).gone = e.gone ∧ e.rng / t * (x + y) ≤ e.rng := by
  obtain ⟨a1, a2, a3, a4, a5, a6, a7, a8⟩ := h
  obtain ⟨c1, c2, c3, c4, c5, c6⟩ := hc
  obtain ⟨b1, b2, b3⟩ := step_bd a3 a4 c1 c2
  have m0 := mul_bd0 b1 c3 (by omega : x ≤ t) b3
  have m1 := mul_bd0 b1 (by omega : 0 ≤ x + y) (by omega : x + y ≤ t) b3
  have my := mul_bd b1 c4 (by omega : y ≤ t) b3
  have hn := Enc.settle_len { e with low := e.low + e.rng / t * x }
  have hg := Enc.settle_gone { e with low := e.low + e.rng / t * x }
  have hv := Enc.settle_val (e := { e with low := e.low + e.rng / t * x }) a5 (by simp only; omega) (by simp only; omega) (by
    have := hi.top
    simp only [Enc.val] at this ⊢
    rw [Int.mul_add] at m1
    omega)
  refine ⟨?_, rfl, hn, hg, m1.2⟩
  have : (e.raw x y t).val = ({ e with low := e.low + e.rng / t * x } : Enc).settle.val := rfl
  rw [this, hv]
  simp only [Enc.val]
  omega
/-- What a cell that is put makes of the number and the range. -/
theorem Enc.put_val {e : Enc} {b : Int} (h : e.Ok b) (hi : e.Inv) {x y t : Int} (hc : cellIs x y t) :
    ∃ d : Nat, (e.put x y t).val = (e.val + e.rng / t * x) * 256 ^ d ∧ (e.put x y t).rng = e.rng / t * y * 256 ^ d ∧ (e.put x y t).out.length = e.out.length + d ∧ (e.put x y t).Inv := by
  obtain ⟨r1, r2, r3, r4, r5⟩ := Enc.raw_val h hi hc
  obtain ⟨d, h1, h2, h3, h4⟩ := Enc.norm_val 3 (Enc.raw_mid h hc) (by rw [r3, r4]; exact hi.gone)
  rw [r1] at h1
  rw [r2] at h2
  rw [r3] at h3
  have hok := Enc.put_ok h hc
  refine ⟨d, h1, h2, h3, ⟨h4, hok.bytes, hok.low0, ?_⟩⟩
  have e1 : (e.put x y t).val + (e.put x y t).rng = (e.val + e.rng / t * (x + y)) * 256 ^ d := by
    have : (e.put x y t).val = (e.val + e.rng / t * x) * 256 ^ d := h1
    have k2 : (e.put x y t).rng = e.rng / t * y * 256 ^ d := h2
    rw [this, k2, ← Int.add_mul, Int.mul_add]
    congr 1; omega
  have h3' : (e.put x y t).out.length = e.out.length + d := h3
  rw [e1, h3', show e.out.length + d + 4 = e.out.length + 4 + d from by omega, Int.pow_add]
  exact Int.mul_le_mul_of_nonneg_right (by have := hi.top; omega) (Int.le_of_lt (pow_pos' d))
theorem Enc.new_inv (n : Int) : (Enc.new n).Inv := ⟨by simp [Enc.new], by intro x hx; simp [Enc.new] at hx, by simp [Enc.new], by simp [Enc.new, Enc.val, num]⟩
end Go.Proofs.YtkoljgmapclhkaaGreatDoor.Sp

namespace Go.Proofs.YtkoljgmapclhkaaGreatDoor.Sp

/-- The decoder keeps step with the encoder. -/
structure Sync (s : ByteArray) (e : Enc) (d : Dec) : Prop where
  txt : d.s = s
  pos : d.pos = e.out.length + 4
  rng : d.rng = e.rng
  gone : d.gone = e.gone
  code : d.code = told s (e.out.length + 4) - e.val
/-- The text's number lies in the encoder's range. -/
def Within (s : ByteArray) (e : Enc) : Prop := e.val ≤ told s (e.out.length + 4) ∧ told s (e.out.length + 4) < e.val + e.rng

theorem sync_step {s : ByteArray} {e : Enc} {d : Dec} (h : Sync s e d) (hw : Within s e) (hr : e.rng < 16777216) (h0 : 0 ≤ e.low) (h1 : e.low ≤ 4294967295) : Sync s e.step d.step := by
  have hv := Enc.step_val h0 h1
  have hl : e.step.out.length = e.out.length + 1 := by simp [Enc.step]
  refine ⟨h.txt, ?_, ?_, ?_, ?_⟩
  · rw [hl]; simp only [Dec.step, h.pos]; omega
  · simp only [Dec.step, Enc.step, h.rng]
  · simp only [Dec.step, Enc.step, h.gone]
  · rw [hl, hv, show e.out.length + 1 + 4 = e.out.length + 4 + 1 from rfl, told]
    simp only [Dec.step, h.code, h.txt, h.pos]
    rw [show ((e.out.length : Int) + 4) = ((e.out.length + 4 : Nat) : Int) from by omega]
    have := hw.1
    have := hw.2
    omega
theorem within_step {s : ByteArray} {e : Enc} (h0 : 0 ≤ e.low) (h1 : e.low ≤ 4294967295) (hw : Within s e.step) : Within s e := by
  have hv := Enc.step_val h0 h1
  have hl : e.step.out.length = e.out.length + 1 := by simp [Enc.step]
  have hr : e.step.rng = e.rng * 256 := rfl
  obtain ⟨h2, h3⟩ := hw
  rw [hl, hv, show e.out.length + 1 + 4 = e.out.length + 4 + 1 from rfl, told] at h2 h3
  rw [hr] at h3
  have := byteAt_bd s ((e.out.length + 4 : Nat) : Int)
  exact ⟨by omega, by omega⟩
theorem within_norm (k : Nat) : ∀ {s : ByteArray} {e : Enc} {b : Int}, e.Mid b k → Within s (e.norm k) → Within s e := by
  induction k with
  | zero => intro s e b _ hw; exact hw
  | succ k ih =>
    intro s e b hm hw
    by_cases hr : e.rng < 16777216
    · rw [Enc.norm_step hr] at hw
      exact within_step hm.low0 hm.low1 (ih (Enc.step_mid hm hr) hw)
    · rw [Enc.norm_done (by omega)] at hw
      exact hw
theorem sync_norm (k : Nat) : ∀ {s : ByteArray} {e : Enc} {d : Dec} {b : Int}, e.Mid b k → Sync s e d → Within s (e.norm k) → Within s e ∧ Sync s (e.norm k) (d.norm k) := by
  induction k with
  | zero => intro s e d b _ h hw; exact ⟨hw, h⟩
  | succ k ih =>
    intro s e d b hm h hw
    by_cases hr : e.rng < 16777216
    · rw [Enc.norm_step hr] at hw ⊢
      rw [Dec.norm_step (by rw [h.rng]; exact hr)]
      have hws : Within s e.step := by
        exact within_norm k (Enc.step_mid hm hr) hw
      have hwe := within_step hm.low0 hm.low1 hws
      exact ⟨hwe, (ih (Enc.step_mid hm hr) (sync_step h hwe hr hm.low0 hm.low1) hw).2⟩
    · rw [Enc.norm_done (by omega)] at hw ⊢
      rw [Dec.norm_done (by rw [h.rng]; omega)]
      exact ⟨hw, h⟩

/-- A cell that was put is met: the place lies in it; and both are in step behind it. -/
theorem sync_take {s : ByteArray} {e : Enc} {d : Dec} {b : Int} (hok : e.Ok b) (hi : e.Inv) (h : Sync s e d) {x y t : Int} (hc : cellIs x y t) (hw : Within s (e.put x y t)) :
    x ≤ d.place t ∧ d.place t < x + y ∧ Sync s (e.put x y t) (d.take x y t) := by
  obtain ⟨r1, r2, r3, r4, r5⟩ := Enc.raw_val hok hi hc
  have hm := Enc.raw_mid hok hc
  have hwr : Within s (e.raw x y t) := within_norm 3 hm hw
  obtain ⟨a1, a2, a3, a4, a5, a6, a7, a8⟩ := hok
  have hc' := hc
  obtain ⟨c1, c2, c3, c4, c5, c6⟩ := hc
  obtain ⟨b1, b2, b3⟩ := step_bd a3 a4 c1 c2
  have hwr' := hwr
  obtain ⟨w1, w2⟩ := hwr
  rw [r1, r3] at w1 w2
  rw [r2] at w2
  have hcode := h.code
  have hx : e.rng / t * (x + y) = e.rng / t * x + e.rng / t * y := Int.mul_add _ _ _
  have m0 := mul_bd0 b1 c3 (by omega : x ≤ t) b3
  have hlo : x ≤ d.code / (d.rng / t) := by
    rw [h.rng]
    refine (Int.le_ediv_iff_mul_le (by omega)).2 ?_
    rw [Int.mul_comm]; omega
  have hhi : d.code / (d.rng / t) < x + y := by
    rw [h.rng]
    refine (Int.ediv_lt_iff_lt_mul (by omega)).2 ?_
    rw [Int.mul_comm]; omega
  refine ⟨?_, ?_, ?_⟩
  · unfold Dec.place; omega
  · unfold Dec.place; omega
  · have hs : Sync s (e.raw x y t) (d.raw x y t) := by
      refine ⟨h.txt, ?_, ?_, ?_, ?_⟩
      · rw [r3]; exact h.pos
      · rw [r2]; simp only [Dec.raw, h.rng]
      · rw [r4]; exact h.gone
      · rw [r1, r3]; simp only [Dec.raw, h.rng]; omega
    exact (sync_norm 3 hm hs hw).2
theorem within_put {s : ByteArray} {e : Enc} {b : Int} (hok : e.Ok b) (hi : e.Inv) {x y t : Int} (hc : cellIs x y t) (hw : Within s (e.put x y t)) : Within s e := by
  obtain ⟨r1, r2, r3, r4, r5⟩ := Enc.raw_val hok hi hc
  obtain ⟨w1, w2⟩ := within_norm 3 (Enc.raw_mid hok hc) hw
  rw [r1, r3] at w1 w2
  rw [r2] at w2
  obtain ⟨b1, b2, b3⟩ := step_bd hok.rng0 hok.rng1 hc.1 hc.2.1
  have m0 := mul_bd0 b1 hc.2.2.1 (by have := hc.2.2.2.2.1; omega : x ≤ t) b3
  have hx : e.rng / t * (x + y) = e.rng / t * x + e.rng / t * y := Int.mul_add _ _ _
  exact ⟨by omega, by omega⟩
theorem first_told (s : ByteArray) (k : Nat) (hk : k ≤ 4) : (Dec.first s k).code = told s k := by
  induction k with
  | zero => rfl
  | succ k ih =>
    have h1 := ih (by omega)
    have h2 := (Dec.first_ok s k).2.1
    have h3 := told_bd s k
    have h4 : (256 : Int) ^ k ≤ 16777216 := by
      rcases (by omega : k = 0 ∨ k = 1 ∨ k = 2 ∨ k = 3) with rfl | rfl | rfl | rfl <;> simp
    simp only [Dec.first, told, h1, h2]
    omega
theorem new_sync (s : ByteArray) (n : Int) : Sync s (Enc.new n) (Dec.new s) := by
  obtain ⟨h1, h2, h3, h4, h5, h6⟩ := Dec.first_ok s 4
  refine ⟨h1, h2, h5, h6, ?_⟩
  rw [Dec.new, first_told s 4 (by omega)]
  simp [Enc.new, Enc.val, num]

/-! The bytes at the end. -/
def Enc.all (e : Enc) : List Int := e.out ++ [e.low / 16777216 % 256, e.low / 65536 % 256, e.low / 256 % 256, e.low % 256]
theorem Enc.all_length (e : Enc) : e.all.length = e.out.length + 4 := by simp [Enc.all]
theorem Enc.all_num {e : Enc} (h0 : 0 ≤ e.low) (h1 : e.low ≤ 4294967295) : num e.all = e.val := by
  rw [Enc.all, num_append, Enc.val]
  simp only [num, List.foldl_cons, List.foldl_nil, List.length_cons, List.length_nil]
  omega
theorem Enc.all_bytes {e : Enc} (hb : Bytes e.out) : Bytes e.all := by
  refine hb.append ?_
  intro x hx
  simp only [List.mem_cons, List.not_mem_nil, or_false] at hx
  rcases hx with rfl | rfl | rfl | rfl <;> omega
/-- A text whose bytes, with zero bytes behind its end, begin with a list. -/
def Begins (s : ByteArray) (l : List Int) : Prop := ∀ i : Nat, i < l.length → byteAt s i = l.getD i 0
theorem begins_told {s : ByteArray} (l : List Int) : Begins s l → told s l.length = num l := by
  refine snoc_ind (P := fun l => Begins s l → told s l.length = num l) (fun _ => rfl) (fun l x ih h => ?_) l
  have h1 : Begins s l := fun i hi => by
    have := h i (by simp; omega)
    rw [this, List.getD_eq_getElem?_getD, List.getElem?_append_left hi, ← List.getD_eq_getElem?_getD]
  have h2 := h l.length (by simp)
  rw [List.getD_eq_getElem?_getD, List.getElem?_append_right (by omega)] at h2
  simp at h2
  rw [num_snoc, List.length_append, List.length_singleton, told, ih h1, h2]
theorem within_done {s : ByteArray} {e : Enc} {b : Int} (hok : e.Ok b) (hb : Begins s e.all) : Within s e := by
  have h1 := begins_told _ hb
  rw [Enc.all_length, Enc.all_num hok.low0 hok.low1] at h1
  have := hok.rng0
  exact ⟨by omega, by omega⟩
end Go.Proofs.YtkoljgmapclhkaaGreatDoor.Sp

namespace Go.Proofs.YtkoljgmapclhkaaGreatDoor.Sp

/-- A number added to digits, from the j-th one (counted from 1) on ahead. -/
def addAt : Nat → Int → Int → List Int → List Int
  | 0, _, _, m => m
  | j + 1, c, a, m => addAt j ((c + m.getD j 0 + a % 256) / 256) (a / 256) (m.set j ((c + m.getD j 0 + a % 256) % 256))
theorem addAt_length : ∀ (j : Nat) (c a : Int) (m : List Int), (addAt j c a m).length = m.length
  | 0, _, _, _ => rfl
  | j + 1, c, a, m => by rw [addAt, addAt_length j]; simp
theorem addAt_bytes : ∀ (j : Nat) (c a : Int) (m : List Int), Bytes m → Bytes (addAt j c a m)
  | 0, _, _, _, h => h
  | j + 1, c, a, m, h => by rw [addAt]; exact addAt_bytes j _ _ _ (h.set j (by omega) (by omega))
theorem addAt_num (p : List Int) : ∀ (c a : Int) (q : List Int), 0 ≤ c → 0 ≤ a → Bytes p → num p + c + a < 256 ^ p.length → num (addAt p.length c a (p ++ q)) = num (p ++ q) + (c + a) * 256 ^ q.length := by
  refine snoc_ind (P := fun p => ∀ (c a : Int) (q : List Int), 0 ≤ c → 0 ≤ a → Bytes p → num p + c + a < 256 ^ p.length → num (addAt p.length c a (p ++ q)) = num (p ++ q) + (c + a) * 256 ^ q.length) ?_ ?_ p
  · intro c a q hc ha _ h
    simp [num] at h
    rw [show c = 0 from by omega, show a = 0 from by omega]
    simp [addAt]
  · intro p x ih c a q hc ha hB hlt
    have hx := hB.last
    have hp := hB.left
    rw [num_snoc, List.length_append, List.length_singleton, Int.pow_succ] at hlt
    have hget : (p ++ [x] ++ q).getD p.length 0 = x := by
      rw [List.append_assoc, List.getD_eq_getElem?_getD, List.getElem?_append_right (by omega)]; simp
    have hset : ∀ y, (p ++ [x] ++ q).set p.length y = p ++ ([y] ++ q) := by
      intro y
      rw [List.append_assoc, List.set_append_right _ _ (by omega)]; simp
    rw [List.length_append, List.length_singleton, addAt, hget, hset, ih _ _ _ (by omega) (by omega) hp (by omega), List.append_assoc]
    simp only [num_append, List.length_append, List.length_singleton]
    rw [show num [(c + x + a % 256) % 256] = (c + x + a % 256) % 256 from by simp [num], show num [x] = x from by simp [num], Nat.add_comm 1, Int.pow_succ]
    have e : (c + x + a % 256) % 256 = c + x + a - 256 * ((c + x + a % 256) / 256 + a / 256) := by omega
    rw [e]
    generalize (c + x + a % 256) / 256 + a / 256 = z
    rw [show (c + x + a - 256 * z) = (c + a) + x - 256 * z from by omega, Int.sub_mul, Int.add_mul (c + a) x]
    rw [show z * (256 ^ q.length * 256) = 256 * z * 256 ^ q.length from by rw [← Int.mul_assoc, Int.mul_comm (z * 256 ^ q.length) 256, ← Int.mul_assoc]]
    omega
/-- Lists of digits of one length that tell one number are one. -/
theorem num_inj (l : List Int) : ∀ m : List Int, Bytes l → Bytes m → l.length = m.length → num l = num m → l = m := by
  refine snoc_ind (P := fun l => ∀ m : List Int, Bytes l → Bytes m → l.length = m.length → num l = num m → l = m) ?_ ?_ l
  · intro m _ _ h _
    exact (List.length_eq_zero_iff.1 h.symm).symm
  · intro l x ih m hl hm hlen hn
    rcases List.eq_nil_or_concat m with rfl | ⟨k, y, rfl⟩
    · simp at hlen
    · rw [List.concat_eq_append] at hm hlen hn ⊢
      rw [num_snoc, num_snoc] at hn
      have h1 := hl.last
      have h2 := hm.last
      have hxy : x = y := by omega
      subst hxy
      rw [ih k hl.left hm.left (by simpa using hlen) (by omega)]

/-- The reference's coder: digits, and the range. -/
def rnorm : Nat → List Int × Int → List Int × Int
  | 0, p => p
  | k + 1, p => if p.2 < 16777216 then rnorm k (p.1 ++ [0], p.2 * 256) else p
def rput (low : List Int) (r x y t : Int) : List Int × Int := rnorm 3 (addAt low.length 0 (r / t * x) low, r / t * y)
theorem rnorm_done {p : List Int × Int} (h : 16777216 ≤ p.2) (k : Nat) : rnorm k p = p := by
  cases k with
  | zero => rfl
  | succ k => rw [rnorm, if_neg (by omega)]
theorem rnorm_step {p : List Int × Int} (h : p.2 < 16777216) (k : Nat) : rnorm (k + 1) p = rnorm k (p.1 ++ [0], p.2 * 256) := by rw [rnorm, if_pos h]
theorem step_all {e : Enc} (h0 : 0 ≤ e.low) (h1 : e.low ≤ 4294967295) (hb : Bytes e.out) : e.step.all = e.all ++ [0] := by
  have hsb : Bytes e.step.out := by
    simp only [Enc.step]
    refine hb.append ?_
    intro z hz
    obtain rfl := List.mem_singleton.1 hz
    omega
  refine num_inj _ _ (Enc.all_bytes hsb) ((Enc.all_bytes hb).append (by intro z hz; obtain rfl := List.mem_singleton.1 hz; omega)) (by simp [Enc.all, Enc.step]) ?_
  rw [Enc.all_num (by simp only [Enc.step]; omega) (by simp only [Enc.step]; omega), Enc.step_val h0 h1, num_snoc, Enc.all_num h0 h1]
  omega
theorem rnorm_all (k : Nat) : ∀ {e : Enc} {b : Int}, e.Mid b k → rnorm k (e.all, e.rng) = ((e.norm k).all, (e.norm k).rng) := by
  induction k with
  | zero => intro e b _; rfl
  | succ k ih =>
    intro e b hm
    by_cases hr : e.rng < 16777216
    · rw [rnorm_step hr, Enc.norm_step hr, ← ih (Enc.step_mid hm hr), step_all hm.low0 hm.low1 hm.bytes]
      rfl
    · rw [rnorm_done (by simp only; omega), Enc.norm_done (by omega)]
/-- What the reference puts is what the coder puts. -/
theorem rput_all {e : Enc} {b : Int} (hok : e.Ok b) (hi : e.Inv) {x y t : Int} (hc : cellIs x y t) : rput e.all e.rng x y t = ((e.put x y t).all, (e.put x y t).rng) := by
  obtain ⟨r1, r2, r3, r4, r5⟩ := Enc.raw_val hok hi hc
  have hm := Enc.raw_mid hok hc
  have hb := Enc.all_bytes hok.bytes
  have hn := Enc.all_num hok.low0 hok.low1
  obtain ⟨b1, b2, b3⟩ := step_bd hok.rng0 hok.rng1 hc.1 hc.2.1
  have m0 := mul_bd0 b1 hc.2.2.1 (by have := hc.2.2.2.2.1; omega : x ≤ t) b3
  have my := mul_bd b1 hc.2.2.2.1 (by have := hc.2.2.2.2.2; have := hc.2.2.1; omega : y ≤ t) b3
  have hx : e.rng / t * (x + y) = e.rng / t * x + e.rng / t * y := Int.mul_add _ _ _
  have hlow : addAt e.all.length 0 (e.rng / t * x) e.all = (e.raw x y t).all := by
    have h1 := addAt_num e.all 0 (e.rng / t * x) [] (by omega) m0.1 hb (by
      have := hi.top
      rw [hn, Enc.all_length]
      omega)
    rw [List.append_nil] at h1
    refine num_inj _ _ (addAt_bytes _ _ _ _ hb) (Enc.all_bytes hm.bytes) (by rw [addAt_length, Enc.all_length, Enc.all_length, r3]) ?_
    rw [h1, Enc.all_num hm.low0 hm.low1, r1, hn]
    simp
  rw [rput, hlow, show e.rng / t * y = (e.raw x y t).rng from r2.symm, rnorm_all 3 hm]
  rfl
/-- How many turns of the loop are enough. -/
def Enough (r : Int) (k : Nat) : Prop := 16777216 ≤ r * 256 ^ k
theorem Enough.pos {r : Int} {k : Nat} (h : Enough r k) (hr : r < 16777216) : ∃ j, k = j + 1 := by
  cases k with
  | zero => unfold Enough at h; simp at h; omega
  | succ j => exact ⟨j, rfl⟩
theorem Enough.step {r : Int} {k : Nat} (h : Enough r (k + 1)) : Enough (r * 256) k := by
  unfold Enough at *
  rw [Int.pow_succ, Int.mul_comm (256 ^ k), ← Int.mul_assoc] at h
  exact h
theorem Enough.three {r : Int} (h : 512 ≤ r) : Enough r 3 := by unfold Enough; omega
end Go.Proofs.YtkoljgmapclhkaaGreatDoor.Sp

namespace Go.Proofs.YtkoljgmapclhkaaGreatDoor.Sp

def trimZ (l : List Int) : List Int := (l.reverse.dropWhile (· == 0)).reverse
theorem trimZ_nil : trimZ [] = [] := rfl
theorem trimZ_zero (l : List Int) : trimZ (l ++ [0]) = trimZ l := by simp [trimZ]
theorem trimZ_snoc (l : List Int) {x : Int} (h : x ≠ 0) : trimZ (l ++ [x]) = l ++ [x] := by
  simp [trimZ, h]
theorem trimZ_sub (l : List Int) : ∃ k, l = trimZ l ++ List.replicate k 0 := by
  refine snoc_ind (P := fun l => ∃ k, l = trimZ l ++ List.replicate k 0) ⟨0, rfl⟩ (fun l x ih => ?_) l
  by_cases hx : x = 0
  · subst hx
    obtain ⟨k, hk⟩ := ih
    refine ⟨k + 1, ?_⟩
    rw [trimZ_zero, List.replicate_succ', ← List.append_assoc, ← hk]
  · exact ⟨0, by rw [trimZ_snoc l hx]; simp⟩
theorem trimZ_len (l : List Int) : (trimZ l).length ≤ l.length := by
  obtain ⟨k, hk⟩ := trimZ_sub l
  have := congrArg List.length hk
  simp only [List.length_append, List.length_replicate] at this
  omega
theorem trimZ_bytes {l : List Int} (h : Bytes l) : Bytes (trimZ l) := by
  obtain ⟨k, hk⟩ := trimZ_sub l
  rw [hk] at h
  exact h.left
/-- As long as n: zeros behind. -/
def padZ (l : List Int) (n : Nat) : List Int := l ++ List.replicate (n - l.length) 0
theorem padZ_more (l : List Int) {n : Nat} (h : l.length < n) : padZ (l ++ [0]) n = padZ l n := by
  unfold padZ
  obtain ⟨k, hk⟩ : ∃ k, n - l.length = k + 1 := ⟨n - l.length - 1, by omega⟩
  rw [hk, show n - (l ++ [(0 : Int)]).length = k from by simp; omega, List.replicate_succ, List.append_assoc]; rfl
theorem padZ_done (l : List Int) {n : Nat} (h : n ≤ l.length) : padZ l n = l := by
  unfold padZ; rw [show n - l.length = 0 from by omega]; simp
theorem padZ_length (l : List Int) {n : Nat} (h : l.length ≤ n) : (padZ l n).length = n := by
  unfold padZ; simp; omega
/-- Do the digits fit into n bytes; and the bytes then. -/
def fitOk (l : List Int) (n : Nat) : Bool := decide ((trimZ l).length ≤ n)
def fitS (l : List Int) (n : Nat) : ByteArray := if (trimZ l).length ≤ n then strOfNums (padZ (trimZ l) n) else ⟨#[]⟩
theorem fitS_yes {l : List Int} {n : Nat} (h : (trimZ l).length ≤ n) : fitS l n = strOfNums (padZ (trimZ l) n) := by rw [fitS, if_pos h]
theorem fitS_no {l : List Int} {n : Nat} (h : ¬ (trimZ l).length ≤ n) : fitS l n = ⟨#[]⟩ := by rw [fitS, if_neg h]
theorem fitS_size {l : List Int} {n : Nat} (h : (trimZ l).length ≤ n) : (fitS l n).size = n := by rw [fitS_yes h, strOfNums_size, padZ_length _ h]
theorem trimB_map (l : List Int) (h : Bytes l) : Lib.trimRightB (l.map fun n => UInt8.ofNat n.toNat) 0 = (trimZ l).map fun n => UInt8.ofNat n.toNat := by
  unfold Lib.trimRightB trimZ
  rw [← List.map_reverse, List.map_reverse (l := List.dropWhile _ _)]
  congr 1
  have hr : Bytes l.reverse := fun x hx => h x (List.mem_reverse.1 hx)
  generalize l.reverse = m at hr
  induction m with
  | nil => rfl
  | cons x m ih =>
    have hx := hr x (List.mem_cons_self ..)
    have hm : Bytes m := fun y hy => hr y (List.mem_cons_of_mem _ hy)
    by_cases h0 : x = 0
    · subst h0
      simpa using ih hm
    · have : ¬ (UInt8.ofNat x.toNat = 0) := by
        intro he
        have h2 := congrArg UInt8.toNat he
        simp only [UInt8.toNat_ofNat', UInt8.toNat_zero] at h2
        omega
      simp [h0, this]
/-- What the coder's text is: the digits' bytes without trailing zeros, zeros behind. -/
theorem fitS_text {l : List Int} {n : Nat} (hb : Bytes l) (h : (trimZ l).length ≤ n) :
    (⟨(Lib.trimRightB (strOfNums l).data.toList 0).toArray⟩ : ByteArray) ++ ⟨(Lib.repeatL [0] (n - (trimZ l).length)).toArray⟩ = fitS l n := by
  rw [fitS_yes h, strOfNums_data, trimB_map l hb, padZ, show ([0] : List UInt8) = List.replicate 1 0 from rfl, Lib.repeatL_replicate]
  apply ByteArray.ext
  simp [strOfNums]
theorem trimText_size {l : List Int} (hb : Bytes l) : (⟨(Lib.trimRightB (strOfNums l).data.toList 0).toArray⟩ : ByteArray).size = (trimZ l).length := by
  rw [strOfNums_data, trimB_map l hb]; simp [ByteArray.size]
theorem strOfNums_append (l m : List Int) : strOfNums l ++ strOfNums m = strOfNums (l ++ m) := by
  apply ByteArray.ext
  simp [strOfNums]
end Go.Proofs.YtkoljgmapclhkaaGreatDoor.Sp

namespace Go.Proofs.YtkoljgmapclhkaaGreatDoor.Sp

abbrev Cel := Int × Int × Int
def IsCel (c : Cel) : Prop := cellIs c.1 c.2.1 c.2.2
def Enc.puts (e : Enc) (l : List Cel) : Enc := l.foldl (fun e c => e.put c.1 c.2.1 c.2.2) e
def Dec.takes (d : Dec) (l : List Cel) : Dec := l.foldl (fun d c => d.take c.1 c.2.1 c.2.2) d
theorem Enc.puts_snoc (e : Enc) (l : List Cel) (c : Cel) : e.puts (l ++ [c]) = (e.puts l).put c.1 c.2.1 c.2.2 := by simp [Enc.puts]
theorem Dec.takes_snoc (d : Dec) (l : List Cel) (c : Cel) : d.takes (l ++ [c]) = (d.takes l).take c.1 c.2.1 c.2.2 := by simp [Dec.takes]
theorem Enc.puts_next {e : Enc} {l : List Cel} {k : Nat} {c : Cel} (h : l[k]? = some c) : e.puts (l.take (k + 1)) = (e.puts (l.take k)).put c.1 c.2.1 c.2.2 := by
  rw [List.take_add_one, h, Option.toList_some, Enc.puts_snoc]
theorem Dec.takes_next {d : Dec} {l : List Cel} {k : Nat} {c : Cel} (h : l[k]? = some c) : d.takes (l.take (k + 1)) = (d.takes (l.take k)).take c.1 c.2.1 c.2.2 := by
  rw [List.take_add_one, h, Option.toList_some, Dec.takes_snoc]
theorem Enc.norm_size (k : Nat) : ∀ e : Enc, (e.norm k).size = e.size := by
  induction k with
  | zero => intro e; rfl
  | succ k ih => intro e; rw [Enc.norm]; split; rw [ih]; rfl; rfl
theorem Enc.put_size (e : Enc) (x y t : Int) : (e.put x y t).size = e.size := by
  unfold Enc.put; rw [Enc.norm_size]; unfold Enc.raw; simp only; rw [Enc.settle_size]
theorem Enc.puts_all {e : Enc} {b : Int} (hok : e.Ok b) (hi : e.Inv) {l : List Cel} (hl : ∀ c ∈ l, IsCel c) : ∀ k, k ≤ l.length → (e.puts (l.take k)).Ok (b + 3 * k) ∧ (e.puts (l.take k)).Inv ∧ (e.puts (l.take k)).size = e.size := by
  intro k
  induction k with
  | zero => intro _; simpa [Enc.puts] using ⟨hok, hi⟩
  | succ k ih =>
    intro hk
    obtain ⟨h1, h2, h3⟩ := ih (by omega)
    have hc : l[k]? = some l[k] := List.getElem?_eq_getElem (by omega)
    rw [Enc.puts_next hc]
    have hcel := hl _ (List.getElem_mem (show k < l.length by omega))
    obtain ⟨_, _, _, _, h4⟩ := Enc.put_val h1 h2 hcel
    refine ⟨?_, h4, by rw [Enc.put_size, h3]⟩
    have h5 := Enc.put_ok h1 hcel
    rw [show b + 3 * (k : Int) + 3 = b + 3 * ((k + 1 : Nat) : Int) from by omega] at h5
    exact h5
theorem within_puts {s : ByteArray} {e : Enc} {b : Int} (hok : e.Ok b) (hi : e.Inv) {l : List Cel} (hl : ∀ c ∈ l, IsCel c) (hw : Within s (e.puts l)) : ∀ k, k ≤ l.length → Within s (e.puts (l.take k)) := by
  intro k hk
  obtain ⟨j, hj⟩ : ∃ j, l.length = k + j := ⟨l.length - k, by omega⟩
  induction j generalizing k with
  | zero => rw [List.take_of_length_le (by omega)]; exact hw
  | succ j ih =>
    have h1 := ih (k + 1) (by omega) (by omega)
    have hc : l[k]? = some l[k] := List.getElem?_eq_getElem (by omega)
    rw [Enc.puts_next hc] at h1
    obtain ⟨h2, h3, _⟩ := Enc.puts_all hok hi hl k hk
    exact within_put h2 h3 (hl _ (List.getElem_mem (show k < l.length by omega))) h1
theorem sync_takes {s : ByteArray} {e : Enc} {d : Dec} {b : Int} (hok : e.Ok b) (hi : e.Inv) (hs : Sync s e d) {l : List Cel} (hl : ∀ c ∈ l, IsCel c) (hw : Within s (e.puts l)) : ∀ k, k ≤ l.length → Sync s (e.puts (l.take k)) (d.takes (l.take k)) := by
  intro k
  induction k with
  | zero => intro _; simpa [Enc.puts, Dec.takes] using hs
  | succ k ih =>
    intro hk
    have h1 := ih (by omega)
    have hc : l[k]? = some l[k] := List.getElem?_eq_getElem (by omega)
    obtain ⟨h2, h3, _⟩ := Enc.puts_all hok hi hl k (by omega)
    have hw1 := within_puts hok hi hl hw (k + 1) hk
    rw [Enc.puts_next hc] at hw1 ⊢
    rw [Dec.takes_next hc]
    exact (sync_take h2 h3 h1 (hl _ (List.getElem_mem (show k < l.length by omega))) hw1).2.2
/-- Cells that are put are met again, and both have used as many bits all along. -/
theorem puts_back {s : ByteArray} {e : Enc} {d : Dec} {b : Int} (hok : e.Ok b) (hi : e.Inv) (hs : Sync s e d) {l : List Cel} (hl : ∀ c ∈ l, IsCel c) (hw : Within s (e.puts l)) {k : Nat} {c : Cel} (hc : l[k]? = some c) :
    c.1 ≤ (d.takes (l.take k)).place c.2.2 ∧ (d.takes (l.take k)).place c.2.2 < c.1 + c.2.1 ∧ (d.takes (l.take (k + 1))).used = (e.puts (l.take (k + 1))).used := by
  have hk : k < l.length := (List.getElem?_eq_some_iff.1 hc).1
  have hcel : IsCel c := hl c (List.mem_of_getElem? hc)
  obtain ⟨h2, h3, _⟩ := Enc.puts_all hok hi hl k (by omega)
  have hw1 := within_puts hok hi hl hw (k + 1) (by omega)
  rw [Enc.puts_next hc] at hw1
  obtain ⟨p1, p2, _⟩ := sync_take h2 h3 (sync_takes hok hi hs hl hw k (by omega)) hcel hw1
  have h4 := sync_takes hok hi hs hl hw (k + 1) (by omega)
  refine ⟨p1, p2, ?_⟩
  unfold Dec.used Enc.used
  rw [h4.rng, h4.gone]
theorem byteAt_nums {l : List Int} (hb : Bytes l) {i : Nat} (hi : i < l.length) : byteAt (strOfNums l) i = l.getD i 0 := by
  have hs : (strOfNums l).size = l.length := strOfNums_size l
  have hbd := hb.get hi
  rw [byteAt, dif_pos (by simp only [Int.toNat_natCast]; omega)]
  simp only [Int.toNat_natCast]
  have hbyte : (strOfNums l)[i]'(by omega) = UInt8.ofNat (l.getD i 0).toNat := by
    show (strOfNums l).data[i]'(by show i < (strOfNums l).size; omega) = _
    simp [strOfNums, List.getD_eq_getElem?_getD, List.getElem?_eq_getElem hi]
  rw [hbyte, UInt8.toNat_ofNat']
  omega
/-- What is put at the end tells the digits. -/
theorem fit_begins {l : List Int} (hb : Bytes l) {n : Nat} (hn : l.length ≤ n) : Begins (fitS l n) l := by
  intro i hi
  have hlen := trimZ_len l
  obtain ⟨k, hk⟩ := trimZ_sub l
  have hz : Bytes (padZ (trimZ l) n) := by
    unfold padZ
    refine (trimZ_bytes hb).append ?_
    intro x hx
    obtain rfl := List.eq_of_mem_replicate hx
    omega
  rw [fitS_yes (by omega), byteAt_nums hz (by rw [padZ_length _ (by omega)]; omega)]
  have hkl := congrArg List.length hk
  simp only [List.length_append, List.length_replicate] at hkl
  have e : padZ (trimZ l) n = l ++ List.replicate (n - l.length) 0 := by
    unfold padZ
    conv => rhs; rw [hk]
    rw [List.append_assoc, List.replicate_append_replicate]
    congr 2
    simp only [List.length_append, List.length_replicate]
    omega
  rw [e, List.getD_eq_getElem?_getD, List.getElem?_append_left hi, ← List.getD_eq_getElem?_getD]
theorem fitOk_short {l : List Int} {n : Nat} (hn : l.length ≤ n) : fitOk l n = true := by
  have := trimZ_len l
  rw [fitOk, decide_eq_true (by omega)]
end Go.Proofs.YtkoljgmapclhkaaGreatDoor.Sp

namespace Go.Proofs.YtkoljgmapclhkaaGreatDoor.Sp

/-- The cells of a number's bits, the lowest eight first. -/
def bitF : Nat → Int → Nat → List Cel
  | 0, _, _ => []
  | f + 1, x, n => if n = 0 then [] else (x % 2 ^ (min n 8), 1, 2 ^ (min n 8)) :: bitF f (x / 2 ^ (min n 8)) (n - min n 8)
theorem pow_bd (m : Nat) (h : m ≤ 8) : (1 : Int) ≤ 2 ^ m ∧ (2 : Int) ^ m ≤ 256 := by
  have h2 : (2 : Int) ^ m ≤ 2 ^ 8 := by exact_mod_cast (Nat.pow_le_pow_right (by omega : 0 < 2) h)
  have h3 : (0 : Int) < 2 ^ m := Int.pow_pos (by omega)
  omega
theorem bit_cell (x : Int) (m : Nat) (h : m ≤ 8) : cellIs (x % 2 ^ m) 1 (2 ^ m) := by
  obtain ⟨h1, h2⟩ := pow_bd m h
  have h3 := Int.emod_nonneg x (show (2 : Int) ^ m ≠ 0 by omega)
  have h4 := Int.emod_lt_of_pos x (show (0 : Int) < 2 ^ m by omega)
  unfold cellIs; omega
theorem bitF_cel (f : Nat) : ∀ (x : Int) (n : Nat), ∀ c ∈ bitF f x n, IsCel c := by
  induction f with
  | zero => intro x n c hc; cases hc
  | succ f ih =>
    intro x n c hc
    rw [bitF] at hc
    split at hc
    · cases hc
    · cases hc with
      | head => exact bit_cell x _ (by omega)
      | tail _ h => exact ih _ _ c h
theorem bitF_len (f : Nat) : ∀ (x : Int) (n : Nat), (bitF f x n).length ≤ f := by
  induction f with
  | zero => intro x n; exact Nat.le_refl _
  | succ f ih =>
    intro x n
    rw [bitF]
    split
    · exact Nat.zero_le _
    · have := ih (x / 2 ^ (min n 8)) (n - min n 8)
      simp only [List.length_cons]; omega
theorem bitF_zero (f : Nat) (x : Int) : bitF f x 0 = [] := by cases f <;> simp [bitF]
theorem bitF_next (f : Nat) (x : Int) (n : Nat) (h : n ≠ 0) : bitF (f + 1) x n = (x % 2 ^ (min n 8), 1, 2 ^ (min n 8)) :: bitF f (x / 2 ^ (min n 8)) (n - min n 8) := by rw [bitF, if_neg h]
theorem Enc.puts_cons (e : Enc) (c : Cel) (l : List Cel) : e.puts (c :: l) = (e.put c.1 c.2.1 c.2.2).puts l := rfl
theorem Dec.takes_cons (d : Dec) (c : Cel) (l : List Cel) : d.takes (c :: l) = (d.take c.1 c.2.1 c.2.2).takes l := rfl
theorem Enc.puts_append (e : Enc) (l m : List Cel) : e.puts (l ++ m) = (e.puts l).puts m := by simp [Enc.puts]
theorem Dec.takes_append (d : Dec) (l m : List Cel) : d.takes (l ++ m) = (d.takes l).takes m := by simp [Dec.takes]
/-- A number taken in bits: what is left, where its next bits stand, what was taken. -/
def Dec.bitF : Nat → Dec → Nat → Nat → Int → Int × Dec
  | 0, d, _, _, acc => (acc, d)
  | f + 1, d, n, a, acc => if n = 0 then (acc, d) else Dec.bitF f (d.take (d.place (2 ^ (min n 8))) 1 (2 ^ (min n 8))) (n - min n 8) (a + 8) (acc + d.place (2 ^ (min n 8)) * 2 ^ a)
theorem Dec.bitF_zero (f : Nat) (d : Dec) (a : Nat) (acc : Int) : Dec.bitF f d 0 a acc = (acc, d) := by cases f <;> simp [Dec.bitF]
theorem Dec.bitF_next (f : Nat) (d : Dec) (n a : Nat) (acc : Int) (h : n ≠ 0) : Dec.bitF (f + 1) d n a acc = Dec.bitF f (d.take (d.place (2 ^ (min n 8))) 1 (2 ^ (min n 8))) (n - min n 8) (a + 8) (acc + d.place (2 ^ (min n 8)) * 2 ^ a) := by rw [Dec.bitF, if_neg h]
theorem Dec.place_bd {d : Dec} {b : Int} (h : d.Ok b) {t : Int} (h0 : 1 ≤ t) (h1 : t ≤ 32768) : 0 ≤ d.place t ∧ d.place t < t := by
  obtain ⟨b1, b2, b3⟩ := step_bd h.rng0 h.rng1 h0 h1
  have := Int.ediv_nonneg h.code0 (by omega : 0 ≤ d.rng / t)
  unfold Dec.place; omega
theorem Dec.bit_cell {d : Dec} {b : Int} (h : d.Ok b) (m : Nat) (hm : m ≤ 8) : cellIs (d.place (2 ^ m)) 1 (2 ^ m) := by
  obtain ⟨h1, h2⟩ := pow_bd m hm
  have := Dec.place_bd h h1 (by omega)
  unfold cellIs; omega
theorem div_lt_pow {x : Int} {m n : Nat} (h : x < 2 ^ n) (hm : m ≤ n) : x / 2 ^ m < 2 ^ (n - m) := by
  refine Int.ediv_lt_of_lt_mul (Int.pow_pos (by omega)) ?_
  rw [← Int.pow_add, Nat.sub_add_cancel hm]
  exact h
/-- Whatever is taken in bits has as many. -/
theorem Dec.bitF_ok (f : Nat) : ∀ {d : Dec} {b : Int} (n a : Nat) (acc : Int), d.Ok b → n ≤ 8 * f → 0 ≤ acc → acc < 2 ^ a →
    (Dec.bitF f d n a acc).2.Ok (b + 3 * f) ∧ 0 ≤ (Dec.bitF f d n a acc).1 ∧ (Dec.bitF f d n a acc).1 < 2 ^ (a + n) := by
  induction f with
  | zero =>
    intro d b n a acc hd hn h0 h1
    obtain rfl : n = 0 := by omega
    exact ⟨by simpa [Dec.bitF] using hd, h0, by simpa [Dec.bitF] using h1⟩
  | succ f ih =>
    intro d b n a acc hd hn h0 h1
    by_cases hz : n = 0
    · subst hz
      rw [Dec.bitF_zero]
      refine ⟨⟨hd.pos0, ?_, hd.code0, hd.code1, hd.rng0, hd.rng1, hd.gone0, ?_⟩, h0, by simpa using h1⟩
      · have := hd.pos1; simp only; omega
      · have := hd.gone1; simp only; omega
    · rw [Dec.bitF_next _ _ _ _ _ hz]
      obtain ⟨m, hm⟩ : ∃ m, min n 8 = m := ⟨_, rfl⟩
      rw [hm]
      have hm8 : m ≤ 8 := by omega
      have hc := Dec.bit_cell hd m hm8
      obtain ⟨p1, p2⟩ := pow_bd m hm8
      obtain ⟨q1, q2⟩ := Dec.place_bd hd p1 (by omega)
      have hok := Dec.take_ok hd hc
      obtain ⟨p, hp⟩ : ∃ p, d.place (2 ^ m) = p := ⟨_, rfl⟩
      rw [hp] at q1 q2 hok ⊢
      have ha : (0 : Int) < 2 ^ a := Int.pow_pos (by omega)
      have e0 : 0 ≤ p * 2 ^ a := Int.mul_nonneg q1 (by omega)
      have e1 : p * 2 ^ a ≤ (2 ^ m - 1) * 2 ^ a := Int.mul_le_mul_of_nonneg_right (by omega) (by omega)
      have e2 : ((2 : Int) ^ m - 1) * 2 ^ a = 2 ^ (a + m) - 2 ^ a := by rw [Int.sub_mul, Int.one_mul, Int.pow_add, Int.mul_comm]
      by_cases hl : n - m = 0
      · rw [hl, Dec.bitF_zero]
        obtain rfl : n = m := by omega
        refine ⟨⟨hok.pos0, ?_, hok.code0, hok.code1, hok.rng0, hok.rng1, hok.gone0, ?_⟩, by simp only; omega, by simp only; omega⟩
        · have := hok.pos1; simp only; omega
        · have := hok.gone1; simp only; omega
      · obtain rfl : m = 8 := by omega
        obtain ⟨h2, h3, h4⟩ := ih (n - 8) (a + 8) (acc + p * 2 ^ a) hok (by omega) (by omega) (by omega)
        refine ⟨?_, h3, ?_⟩
        · rw [show b + 3 * ((f + 1 : Nat) : Int) = b + 3 + 3 * (f : Int) from by omega]; exact h2
        · rw [show a + n = a + 8 + (n - 8) from by omega]; exact h4
/-- A number that is put in bits is met again, and both keep step. -/
theorem bits_back {s : ByteArray} (f : Nat) : ∀ {e : Enc} {d : Dec} {b : Int} (x : Int) (n a : Nat) (acc : Int), e.Ok b → e.Inv → Sync s e d → n ≤ 8 * f → 0 ≤ x → x < 2 ^ n → Within s (e.puts (bitF f x n)) →
    Dec.bitF f d n a acc = (acc + x * 2 ^ a, d.takes (bitF f x n)) := by
  induction f with
  | zero =>
    intro e d b x n a acc _ _ _ hn h0 h1 _
    obtain rfl : n = 0 := by omega
    obtain rfl : x = 0 := by simp at h1; omega
    simp [Dec.bitF, bitF, Dec.takes]
  | succ f ih =>
    intro e d b x n a acc hok hi hs hn h0 h1 hw
    by_cases hz : n = 0
    · subst hz
      obtain rfl : x = 0 := by simp at h1; omega
      rw [Dec.bitF_zero, Sp.bitF_zero]
      simp [Dec.takes]
    · rw [Sp.bitF_next _ _ _ hz] at hw ⊢
      rw [Dec.bitF_next _ _ _ _ _ hz]
      obtain ⟨m, hm⟩ : ∃ m, min n 8 = m := ⟨_, rfl⟩
      rw [hm] at hw ⊢
      have hm8 : m ≤ 8 := by omega
      have hc := bit_cell x m hm8
      have hcs : ∀ c ∈ ((x % 2 ^ m, 1, 2 ^ m) :: bitF f (x / 2 ^ m) (n - m) : List Cel), IsCel c := by
        intro c h
        cases h with
        | head => exact hc
        | tail _ h => exact bitF_cel _ _ _ c h
      have hw1 : Within s (e.put (x % 2 ^ m) 1 (2 ^ m)) := within_puts hok hi hcs hw 1 (by simp only [List.length_cons]; omega)
      obtain ⟨t1, t2, t3⟩ := sync_take hok hi hs hc hw1
      have hp : d.place (2 ^ m) = x % 2 ^ m := by omega
      rw [hp, Dec.takes_cons]
      rw [Enc.puts_cons] at hw
      simp only at hw ⊢
      have hq0 : 0 ≤ x / 2 ^ m := Int.ediv_nonneg h0 (by have := pow_bd m hm8; omega)
      have hq1 := div_lt_pow (m := m) h1 (by omega)
      obtain ⟨_, _, _, _, h4⟩ := Enc.put_val hok hi hc
      rw [ih _ _ _ _ (Enc.put_ok hok hc) h4 t3 (by omega) hq0 hq1 hw]
      have hx := Int.mul_ediv_add_emod x (2 ^ m)
      congr 1
      obtain ⟨q, hq⟩ : ∃ q, x / 2 ^ m = q := ⟨_, rfl⟩
      obtain ⟨r, hr⟩ : ∃ r, x % 2 ^ m = r := ⟨_, rfl⟩
      rw [hq] at hx hq0 hq1 ⊢
      rw [hr] at hx ⊢
      by_cases hl : n - m = 0
      · rw [hl] at hq1
        obtain rfl : q = 0 := by simp at hq1; omega
        rw [← hx]; simp
      · obtain rfl : m = 8 := by omega
        rw [Int.pow_add, ← hx, Int.add_mul, Int.mul_comm (2 ^ 8) q, Int.mul_assoc q, Int.mul_comm (2 ^ 8) (2 ^ a)]
        omega
end Go.Proofs.YtkoljgmapclhkaaGreatDoor.Sp

namespace Go.Proofs.YtkoljgmapclhkaaGreatDoor.Sp

def cntN (K : List Int) (i : Nat) : Nat := (K.getD i 0 % 25).toNat
def numN (L K : List Int) (i : Nat) : Int := L.getD i 0 % 2 ^ cntN K i
theorem cntN_le (K : List Int) (i : Nat) : cntN K i ≤ 24 := by unfold cntN; omega
theorem numN_bd (L K : List Int) (i : Nat) : 0 ≤ numN L K i ∧ numN L K i < 2 ^ cntN K i := by
  have h3 : (0 : Int) < 2 ^ cntN K i := Int.pow_pos (by omega)
  exact ⟨Int.emod_nonneg _ (by omega), Int.emod_lt_of_pos _ h3⟩
/-- The cells of the first i numbers. -/
def bitAll (L K : List Int) : Nat → List Cel
  | 0 => []
  | i + 1 => bitAll L K i ++ bitF 3 (numN L K i) (cntN K i)
theorem bitAll_cel (L K : List Int) (i : Nat) : ∀ c ∈ bitAll L K i, IsCel c := by
  induction i with
  | zero => intro c hc; cases hc
  | succ i ih =>
    intro c hc
    rcases List.mem_append.1 hc with h | h
    · exact ih c h
    · exact bitF_cel _ _ _ c h
theorem bitAll_len (L K : List Int) (i : Nat) : (bitAll L K i).length ≤ 3 * i := by
  induction i with
  | zero => exact Nat.le_refl _
  | succ i ih =>
    have := bitF_len 3 (numN L K i) (cntN K i)
    simp only [bitAll, List.length_append]; omega
theorem Enc.Ok.mono' {e : Enc} {b c : Int} (h : e.Ok b) (hbc : b ≤ c) : e.Ok c := by
  obtain ⟨h1, h2, h3, h4, h5, h6, h7, h8⟩ := h
  exact ⟨h1, h2, h3, h4, h5, by omega, h7, by omega⟩
theorem Dec.Ok.mono' {d : Dec} {b c : Int} (h : d.Ok b) (hbc : b ≤ c) : d.Ok c := by
  obtain ⟨h1, h2, h3, h4, h5, h6, h7, h8⟩ := h
  exact ⟨h1, by omega, h3, h4, h5, h6, h7, by omega⟩
def bitE (L K : List Int) (i : Nat) : Enc := (Enc.new 1000).puts (bitAll L K i)
def bitD (s : ByteArray) (L K : List Int) (i : Nat) : Dec := (Dec.new s).takes (bitAll L K i)
theorem bitE_next (L K : List Int) (i : Nat) : bitE L K (i + 1) = (bitE L K i).puts (bitF 3 (numN L K i) (cntN K i)) := by
  unfold bitE; rw [bitAll, Enc.puts_append]
theorem bitD_next (s : ByteArray) (L K : List Int) (i : Nat) : bitD s L K (i + 1) = (bitD s L K i).takes (bitF 3 (numN L K i) (cntN K i)) := by
  unfold bitD; rw [bitAll, Dec.takes_append]
theorem bitE_ok (L K : List Int) (i : Nat) : (bitE L K i).Ok (9 * i) ∧ (bitE L K i).Inv ∧ (bitE L K i).size = 1000 := by
  have h := Enc.puts_all (Enc.new_ok 1000) (Enc.new_inv 1000) (bitAll_cel L K i) (bitAll L K i).length (Nat.le_refl _)
  rw [List.take_length] at h
  have := bitAll_len L K i
  exact ⟨h.1.mono' (by omega), h.2.1, h.2.2⟩
theorem bitE_within {s : ByteArray} {L K : List Int} {i : Nat} (h : Within s (bitE L K (i + 1))) : Within s (bitE L K i) := by
  rw [bitE_next] at h
  obtain ⟨h1, h2, _⟩ := bitE_ok L K i
  have h3 := within_puts h1 h2 (bitF_cel 3 (numN L K i) (cntN K i)) h 0 (Nat.zero_le _)
  simpa [Enc.puts] using h3
theorem bitE_withins {s : ByteArray} {L K : List Int} (j : Nat) : ∀ i, Within s (bitE L K (i + j)) → Within s (bitE L K i) := by
  induction j with
  | zero => intro i h; exact h
  | succ j ih => intro i h; exact ih i (bitE_within (by rw [show i + j + 1 = i + (j + 1) from by omega]; exact h))
theorem bit_sync {s : ByteArray} {L K : List Int} {N : Nat} (hw : Within s (bitE L K N)) : ∀ i, i ≤ N → Sync s (bitE L K i) (bitD s L K i) := by
  intro i
  induction i with
  | zero => intro _; exact new_sync s 1000
  | succ i ih =>
    intro hi
    obtain ⟨h1, h2, _⟩ := bitE_ok L K i
    have hw1 := bitE_withins (N - (i + 1)) (i + 1) (by rw [Nat.add_sub_cancel' hi]; exact hw)
    rw [bitE_next] at hw1
    have h3 := sync_takes h1 h2 (ih (by omega)) (bitF_cel 3 (numN L K i) (cntN K i)) hw1 _ (Nat.le_refl _)
    rw [List.take_length, ← bitE_next, ← bitD_next] at h3
    exact h3
/-- Each number is met again. -/
theorem bit_meet {s : ByteArray} {L K : List Int} {N : Nat} (hw : Within s (bitE L K N)) (i : Nat) (hi : i < N) :
    Dec.bitF 3 (bitD s L K i) (cntN K i) 0 0 = (numN L K i, bitD s L K (i + 1)) := by
  obtain ⟨h1, h2, _⟩ := bitE_ok L K i
  have hw1 := bitE_withins (N - (i + 1)) (i + 1) (by rw [Nat.add_sub_cancel' hi]; exact hw)
  rw [bitE_next] at hw1
  have hn := numN_bd L K i
  have hc := cntN_le K i
  have h := bits_back 3 (numN L K i) (cntN K i) 0 0 h1 h2 (bit_sync hw i (by omega)) (by omega) hn.1 hn.2 hw1
  rw [h, bitD_next]
  simp
theorem bit_used {s : ByteArray} {L K : List Int} {N : Nat} (hw : Within s (bitE L K N)) : (bitD s L K N).used = (bitE L K N).used := by
  have h := bit_sync hw N (Nat.le_refl _)
  unfold Dec.used Enc.used
  rw [h.rng, h.gone]
theorem bitD_ok (s : ByteArray) (L K : List Int) (i : Nat) : (bitD s L K i).Ok (4 + 9 * i) := by
  have key : ∀ (l : List Cel) (d : Dec) (b : Int), (∀ c ∈ l, IsCel c) → d.Ok b → (d.takes l).Ok (b + 3 * l.length) := by
    intro l
    induction l with
    | nil => intro d b _ h; simpa [Dec.takes] using h
    | cons c l ih =>
      intro d b hc h
      rw [Dec.takes_cons]
      have h2 := ih _ _ (fun x hx => hc x (List.mem_cons_of_mem _ hx)) (Dec.take_ok h (hc c List.mem_cons_self))
      rw [show b + 3 + 3 * (l.length : Int) = b + 3 * ((c :: l).length : Int) from by simp only [List.length_cons]; omega] at h2
      exact h2
  have := bitAll_len L K i
  exact (key _ _ _ (bitAll_cel L K i) (Dec.new_ok s)).mono' (by omega)
/-- The bytes tell the digits. -/
theorem bit_within (L K : List Int) (N : Nat) (hN : N ≤ 100) : Within (fitS (bitE L K N).all 1000) (bitE L K N) := by
  obtain ⟨h1, h2, _⟩ := bitE_ok L K N
  have hl : (bitE L K N).all.length ≤ 1000 := by rw [Enc.all_length]; have := h1.len; omega
  exact within_done h1 (fit_begins (Enc.all_bytes h1.bytes) hl)
end Go.Proofs.YtkoljgmapclhkaaGreatDoor.Sp

namespace Go.Proofs.YtkoljgmapclhkaaGreatDoor.Sp

theorem bl_lt (x : Nat) (h : x < 2 ^ 64) : x < 2 ^ Lib.bitLen x := by
  by_cases h0 : x = 0
  · subst h0; decide
  · exact (Lib.bitLenAux_bounds 64 x h h0).2.2
theorem bl_le {x k : Nat} (h : x < 2 ^ k) : Lib.bitLen x ≤ k := Lib.bitLenAux_le 64 x k h
theorem bl_mono {x y : Nat} (h : x ≤ y) (hy : y < 2 ^ 64) : Lib.bitLen x ≤ Lib.bitLen y := bl_le (Nat.lt_of_le_of_lt h (bl_lt y hy))
theorem bl_mul (x d : Nat) (h0 : 0 < x) (h : x * 256 ^ d < 2 ^ 64) : Lib.bitLen (x * 256 ^ d) = 8 * d + Lib.bitLen x := by
  have e : (256 : Nat) ^ d = 2 ^ (8 * d) := by rw [Nat.pow_mul]
  rw [e] at h ⊢
  rw [Lib.bitLen_shift (8 * d) (x * 2 ^ (8 * d)) (Nat.le_mul_of_pos_left _ h0) h, Nat.mul_div_cancel _ (Nat.two_pow_pos _)]
theorem put_used {e : Enc} {b : Int} (h : e.Ok b) (hi : e.Inv) {x y t : Int} (hc : cellIs x y t) :
    (e.put x y t).used = 8 * (e.out.length : Int) + 32 - (Lib.bitLen (e.rng / t * y).toNat : Int) := by
  obtain ⟨d, h1, h2, h3, h4⟩ := Enc.put_val h hi hc
  have hok := Enc.put_ok h hc
  obtain ⟨b1, b2, b3⟩ := step_bd h.rng0 h.rng1 hc.1 hc.2.1
  have my := mul_bd b1 hc.2.2.2.1 (by have := hc.2.2.2.2.2; have := hc.2.2.1; omega : y ≤ t) b3
  have hr1 := hok.rng1
  have hp := pow_pos' d
  obtain ⟨z, hz⟩ := Int.eq_ofNat_of_zero_le (show 0 ≤ e.rng / t * y by omega)
  have hrn : (e.put x y t).rng.toNat = z * 256 ^ d := by
    rw [h2, hz, show (256 : Int) ^ d = ((256 ^ d : Nat) : Int) from by simp, ← Int.natCast_mul, Int.toNat_natCast]
  unfold Enc.used
  rw [h4.gone, h3, hrn, bl_mul z d (by omega) (by omega), hz, Int.toNat_natCast]
  omega
/-- What is used gets no less by a cell, and more by no more than its share and a bit. -/
theorem put_grows {e : Enc} {b : Int} (h : e.Ok b) (hi : e.Inv) {x y t : Int} (hc : cellIs x y t) (s : Nat) (hs : t ≤ y * 2 ^ s) :
    e.used ≤ (e.put x y t).used ∧ (e.put x y t).used ≤ e.used + s + 1 := by
  rw [put_used h hi hc]
  obtain ⟨b1, b2, b3⟩ := step_bd h.rng0 h.rng1 hc.1 hc.2.1
  have my := mul_bd b1 hc.2.2.2.1 (by have := hc.2.2.2.2.2; have := hc.2.2.1; omega : y ≤ t) b3
  have hr0 := h.rng0
  have hr1 := h.rng1
  have ht0 := hc.1
  have hu : e.used = 8 * (e.out.length : Int) + 32 - (Lib.bitLen e.rng.toNat : Int) := by unfold Enc.used; rw [hi.gone]; omega
  rw [hu]
  have hlow : (e.rng / t * y).toNat ≤ e.rng.toNat := by omega
  have m1 := bl_mono hlow (by omega)
  have hup : e.rng < (e.rng / t * y) * 2 ^ (s + 1) := by
    have h1 : e.rng < (e.rng / t + 1) * t := by
      have := Int.lt_ediv_add_one_mul_self e.rng (show 0 < t by omega); exact this
    have h2 : (e.rng / t + 1) * t ≤ 2 * (e.rng / t) * t := Int.mul_le_mul_of_nonneg_right (by omega) (by omega)
    have h3 : 2 * (e.rng / t) * t ≤ 2 * (e.rng / t) * (y * 2 ^ s) := Int.mul_le_mul_of_nonneg_left hs (by omega)
    have h4 : 2 * (e.rng / t) * (y * 2 ^ s) = (e.rng / t * y) * 2 ^ (s + 1) := by
      rw [Int.pow_succ, Int.mul_comm (2 ^ s) 2, ← Int.mul_assoc, ← Int.mul_assoc, Int.mul_assoc 2, Int.mul_comm 2]
    omega
  have m2 : Lib.bitLen e.rng.toNat ≤ Lib.bitLen (e.rng / t * y).toNat + (s + 1) := by
    refine bl_le ?_
    have hz := bl_lt (e.rng / t * y).toNat (by omega)
    obtain ⟨z, hz1⟩ := Int.eq_ofNat_of_zero_le (show 0 ≤ e.rng / t * y by omega)
    obtain ⟨r, hr⟩ := Int.eq_ofNat_of_zero_le (show 0 ≤ e.rng by omega)
    rw [hz1, Int.toNat_natCast] at hz ⊢
    rw [hr] at hup hz1 ⊢
    rw [Int.toNat_natCast]
    rw [hz1, show (2 : Int) ^ (s + 1) = ((2 ^ (s + 1) : Nat) : Int) from by simp, ← Int.natCast_mul] at hup
    have h5 : r < z * 2 ^ (s + 1) := by exact_mod_cast hup
    rw [Nat.pow_add]
    exact Nat.lt_of_lt_of_le h5 (Nat.mul_le_mul_right _ (Nat.le_of_lt hz))
  omega
end Go.Proofs.YtkoljgmapclhkaaGreatDoor.Sp

namespace Go.Proofs.YtkoljgmapclhkaaGreatDoor.Sp

def valN (l : List Int) (i : Nat) : Int := (l.getD i 0).tmod 25
theorem tmod_bd (x : Int) : -24 ≤ x.tmod 25 ∧ x.tmod 25 ≤ 24 := by
  have h1 := Int.lt_tmod_of_pos x (show (0 : Int) < 25 by decide)
  have h2 := Int.tmod_lt_of_pos x (show (0 : Int) < 25 by decide)
  omega
theorem valN_bd (l : List Int) (i : Nat) : -24 ≤ valN l i ∧ valN l i ≤ 24 := tmod_bd _
def lapC (v : Int) : Cel := ((cellOf v).1, (cellOf v).2.1, 32768)
theorem lapC_is {v : Int} (h1 : -24 ≤ v) (h2 : v ≤ 24) : IsCel (lapC v) := by
  obtain ⟨a, c, h⟩ := cell_is v h1 h2
  unfold IsCel lapC
  rw [h.eq]
  have h3 := h.a0
  have h4 := h.c8
  have h5 := h.ac
  unfold cellIs
  simp only
  omega
def lapL (l : List Int) (i : Nat) : List Cel := (List.range i).map fun j => lapC (valN l j)
theorem lapL_len (l : List Int) (i : Nat) : (lapL l i).length = i := by simp [lapL]
theorem lapL_cel (l : List Int) (i : Nat) : ∀ c ∈ lapL l i, IsCel c := by
  intro c hc
  obtain ⟨j, _, rfl⟩ := List.mem_map.1 hc
  exact lapC_is (valN_bd l j).1 (valN_bd l j).2
theorem lapL_next (l : List Int) (i : Nat) : lapL l (i + 1) = lapL l i ++ [lapC (valN l i)] := by simp [lapL, List.range_succ]
def lapE (l : List Int) (i : Nat) : Enc := (Enc.new 1000).puts (lapL l i)
def lapD (s : ByteArray) (l : List Int) (i : Nat) : Dec := (Dec.new s).takes (lapL l i)
theorem lapE_next (l : List Int) (i : Nat) : lapE l (i + 1) = (lapE l i).put (cellOf (valN l i)).1 (cellOf (valN l i)).2.1 32768 := by
  unfold lapE; rw [lapL_next, Enc.puts_snoc]; rfl
theorem lapD_next (s : ByteArray) (l : List Int) (i : Nat) : lapD s l (i + 1) = (lapD s l i).take (cellOf (valN l i)).1 (cellOf (valN l i)).2.1 32768 := by
  unfold lapD; rw [lapL_next, Dec.takes_snoc]; rfl
theorem lapE_ok (l : List Int) (i : Nat) : (lapE l i).Ok (3 * i) ∧ (lapE l i).Inv ∧ (lapE l i).size = 1000 := by
  have h := Enc.puts_all (Enc.new_ok 1000) (Enc.new_inv 1000) (lapL_cel l i) (lapL l i).length (Nat.le_refl _)
  rw [List.take_length, lapL_len, Int.zero_add] at h
  exact h
theorem lapD_ok (s : ByteArray) (l : List Int) (i : Nat) : (lapD s l i).Ok (4 + 3 * i) := by
  induction i with
  | zero => simpa [lapD, lapL, Dec.takes] using Dec.new_ok s
  | succ i ih =>
    rw [lapD_next]
    have h := Dec.take_ok ih (lapC_is (valN_bd l i).1 (valN_bd l i).2)
    rw [show 4 + 3 * (i : Int) + 3 = 4 + 3 * ((i + 1 : Nat) : Int) from by omega] at h
    exact h
/-- What a number costs is enough. -/
theorem cost_all : ∀ k < 49, 32768 ≤ (cellOf ((k : Nat) - 24 : Int)).2.1 * 2 ^ costW (cellOf ((k : Nat) - 24 : Int)).2.1 ∧ costOf ((k : Nat) - 24 : Int) = costW (cellOf ((k : Nat) - 24 : Int)).2.1 ∧ costW (cellOf ((k : Nat) - 24 : Int)).2.1 ≤ 15 := by decide +kernel
theorem cost_is {v : Int} (h1 : -24 ≤ v) (h2 : v ≤ 24) : 32768 ≤ (cellOf v).2.1 * 2 ^ costW (cellOf v).2.1 ∧ costOf v = costW (cellOf v).2.1 ∧ costW (cellOf v).2.1 ≤ 15 := by
  have h := cost_all (v + 24).toNat (by omega)
  rw [show (((v + 24).toNat : Nat) : Int) - 24 = v from by omega] at h
  exact h
def costN (l : List Int) : Nat → Int
  | 0 => 0
  | i + 1 => costN l i + costOf (valN l i) + 1
theorem cost_bd {v : Int} (h1 : -24 ≤ v) (h2 : v ≤ 24) : 0 ≤ costOf v ∧ costOf v ≤ 15 := by
  obtain ⟨_, h3, h4⟩ := cost_is h1 h2
  omega
theorem costN_bd (l : List Int) (i : Nat) : 0 ≤ costN l i ∧ costN l i ≤ 16 * i := by
  induction i with
  | zero => simp [costN]
  | succ i ih => have := cost_bd (valN_bd l i).1 (valN_bd l i).2; simp only [costN]; omega
theorem new_used : (Enc.new 1000).used = 0 := by decide +kernel
theorem lapE_used (l : List Int) (i : Nat) : (lapE l i).used ≤ costN l i := by
  induction i with
  | zero =>
    have : lapE l 0 = Enc.new 1000 := rfl
    rw [this, new_used]
    simp [costN]
  | succ i ih =>
    rw [lapE_next]
    obtain ⟨h1, h2, _⟩ := lapE_ok l i
    obtain ⟨c1, c2, _⟩ := cost_is (valN_bd l i).1 (valN_bd l i).2
    have h := (put_grows h1 h2 (lapC_is (valN_bd l i).1 (valN_bd l i).2) _ c1).2
    simp only [lapC] at h
    simp only [costN]
    omega
theorem lap_within (l : List Int) (N : Nat) (hN : N ≤ 100) : Within (fitS (lapE l N).all 1000) (lapE l N) := by
  obtain ⟨h1, h2, _⟩ := lapE_ok l N
  have hl : (lapE l N).all.length ≤ 1000 := by rw [Enc.all_length]; have := h1.len; omega
  exact within_done h1 (fit_begins (Enc.all_bytes h1.bytes) hl)
theorem lapL_take (l : List Int) {i N : Nat} (h : i ≤ N) : (lapL l N).take i = lapL l i := by
  unfold lapL
  rw [← List.map_take, List.take_range, Nat.min_eq_left h]
theorem lap_sync {s : ByteArray} {l : List Int} {N : Nat} (hw : Within s (lapE l N)) (i : Nat) (hi : i ≤ N) : Sync s (lapE l i) (lapD s l i) := by
  have h := sync_takes (Enc.new_ok 1000) (Enc.new_inv 1000) (new_sync s 1000) (lapL_cel l N) hw i (by rw [lapL_len]; exact hi)
  rw [lapL_take l hi] at h
  exact h
theorem lap_used {s : ByteArray} {l : List Int} {N : Nat} (hw : Within s (lapE l N)) : (lapD s l N).used = (lapE l N).used := by
  have h := lap_sync hw N (Nat.le_refl _)
  unfold Dec.used Enc.used
  rw [h.rng, h.gone]
/-- Each number is met again. -/
theorem lap_meet {s : ByteArray} {l : List Int} {N : Nat} (hw : Within s (lapE l N)) {i : Nat} (hi : i < N) : (findOf ((lapD s l i).place 32768)).1 = valN l i := by
  have hc : (lapL l N)[i]? = some (lapC (valN l i)) := by unfold lapL; rw [List.getElem?_map, List.getElem?_range hi]; rfl
  obtain ⟨h1, h2, _⟩ := puts_back (Enc.new_ok 1000) (Enc.new_inv 1000) (new_sync s 1000) (lapL_cel l N) hw hc
  rw [lapL_take l (Nat.le_of_lt hi)] at h1 h2
  have hp := Dec.place_bd (lapD_ok s l i) (show (1 : Int) ≤ 32768 by decide) (by decide)
  obtain ⟨a, c, hcell⟩ := cell_is (valN l i) (valN_bd l i).1 (valN_bd l i).2
  simp only [lapC, hcell.eq] at h1 h2
  exact cell_hit hp.1 hp.2 hcell.eq h1 h2
end Go.Proofs.YtkoljgmapclhkaaGreatDoor.Sp

namespace Go.Proofs.YtkoljgmapclhkaaGreatDoor.Sp

/-- How many vectors of n numbers have k pulses. -/
def cnt : Nat → Nat → Nat
  | 0, k => if k = 0 then 1 else 0
  | n + 1, k => (List.range k).foldl (fun s j => s + 2 * cnt n j) (cnt n k)
/-- The sum as it grows. -/
def cntPart (n k j : Nat) : Nat := (List.range j).foldl (fun s j => s + 2 * cnt n j) (cnt n k)
theorem cntPart_zero (n k : Nat) : cntPart n k 0 = cnt n k := rfl
theorem cntPart_next (n k j : Nat) : cntPart n k (j + 1) = cntPart n k j + 2 * cnt n j := by simp [cntPart, List.range_succ]
theorem cntPart_all (n k : Nat) : cntPart n k k = cnt (n + 1) k := rfl
theorem cntPart_mono (n k : Nat) {i j : Nat} (h : i ≤ j) : cntPart n k i ≤ cntPart n k j := by
  obtain ⟨d, rfl⟩ : ∃ d, j = i + d := ⟨j - i, by omega⟩
  clear h
  induction d with
  | zero => exact Nat.le_refl _
  | succ d ih => rw [← Nat.add_assoc, cntPart_next]; omega
/-- The counts of one number of numbers, for 0 to 8 pulses. -/
def cntL : Nat → List Nat
  | 0 => [1, 0, 0, 0, 0, 0, 0, 0, 0]
  | n + 1 => let r := cntL n; (List.range 9).map fun k => (List.range k).foldl (fun s j => s + 2 * r.getD j 0) (r.getD k 0)
theorem cnt_row (n : Nat) : ∀ k, k < 9 → cnt n k = (cntL n).getD k 0 := by
  induction n with
  | zero => decide
  | succ n ih =>
    intro k hk
    have h : ∀ (l : List Nat) (s : Nat), (∀ j ∈ l, j < 9) → l.foldl (fun s j => s + 2 * cnt n j) s = l.foldl (fun s j => s + 2 * (cntL n).getD j 0) s := by
      intro l
      induction l with
      | nil => intro s _; rfl
      | cons x l ih2 =>
        intro s hl
        rw [List.foldl_cons, List.foldl_cons, ih x (hl x List.mem_cons_self)]
        exact ih2 _ (fun j hj => hl j (List.mem_cons_of_mem _ hj))
    have e : (cntL (n + 1)).getD k 0 = (List.range k).foldl (fun s j => s + 2 * (cntL n).getD j 0) ((cntL n).getD k 0) := by
      simp only [cntL, List.getD_eq_getElem?_getD, List.getElem?_map, List.getElem?_range hk, Option.map_some, Option.getD_some]
    rw [e, cnt, h _ _ (fun j hj => by have := List.mem_range.1 hj; omega), ih k hk]
theorem cntL_all : ∀ n < 9, ∀ k < 9, (cntL n).getD k 0 ≤ 1000000 := by decide +kernel
theorem cnt_bd {n k : Nat} (hn : n ≤ 8) (hk : k ≤ 8) : cnt n k ≤ 1000000 := by rw [cnt_row n k (by omega)]; exact cntL_all n (by omega) k (by omega)
/-- The same of whole numbers: nothing below 0. -/
def cntI (n : Nat) (k : Int) : Int := if k < 0 then 0 else ((cntL n).getD k.toNat 0 : Int)
theorem cntI_nat (n : Nat) {k : Nat} (hk : k ≤ 8) : cntI n k = cnt n k := by unfold cntI; rw [if_neg (by omega), cnt_row n k (by omega)]; simp
theorem cntI_bd {n : Nat} {k : Int} (hn : n ≤ 8) (hk : k ≤ 8) : 0 ≤ cntI n k ∧ cntI n k ≤ 1000000 := by
  unfold cntI
  split
  · omega
  · have := cntL_all n (by omega) k.toNat (by omega); omega
/-- How many bits all numbers of vectors have. -/
def vbits (n k : Nat) : Nat := Lib.bitLen (cnt n k - 1)
theorem vbits_bd {n k : Nat} (hn : n ≤ 8) (hk : k ≤ 8) : vbits n k ≤ 20 := by
  have := cnt_bd hn hk
  exact Lib.bitLen_le _ 20 (by omega) (by omega)
/-- The sum of so many counts from a number on. -/
def sumUp (m : Nat) (k : Int) : Nat → Int → Int
  | 0, _ => 0
  | j + 1, x => cntI m (k - max x (-x)) + sumUp m k j (x + 1)
theorem sumUp_all : ∀ m < 8, ∀ k < 9, sumUp m (k : Nat) (2 * k + 1) (-((k : Nat) : Int)) = ((cntL (m + 1)).getD k 0 : Nat) := by decide +kernel
/-- Which number comes first, and what is left of the vector's number. -/
def vfind (m : Nat) (k : Int) : Nat → Int → Int → Int × Int
  | 0, i, x => (x, i)
  | j + 1, i, x => if cntI m (k - max x (-x)) ≤ i then vfind m k j (i - cntI m (k - max x (-x))) (x + 1) else (x, i)
theorem vfind_next {m : Nat} {k i x : Int} {j : Nat} (h : cntI m (k - max x (-x)) ≤ i) : vfind m k (j + 1) i x = vfind m k j (i - cntI m (k - max x (-x))) (x + 1) := by rw [vfind, if_pos h]
theorem vfind_done {m : Nat} {k i x : Int} {j : Nat} (h : ¬ cntI m (k - max x (-x)) ≤ i) : vfind m k (j + 1) i x = (x, i) := by rw [vfind, if_neg h]
theorem vfind_ok (m : Nat) (k : Int) (j : Nat) : ∀ i x : Int, 0 ≤ i → i < sumUp m k j x → x ≤ (vfind m k j i x).1 ∧ (vfind m k j i x).1 < x + j ∧ 0 ≤ (vfind m k j i x).2 ∧ (vfind m k j i x).2 < cntI m (k - max (vfind m k j i x).1 (-(vfind m k j i x).1)) := by
  induction j with
  | zero => intro i x h0 h1; simp only [sumUp] at h1; omega
  | succ j ih =>
    intro i x h0 h1
    by_cases h : cntI m (k - max x (-x)) ≤ i
    · rw [vfind_next h]
      obtain ⟨a, b, c, d⟩ := ih (i - cntI m (k - max x (-x))) (x + 1) (by omega) (by simp only [sumUp] at h1; omega)
      exact ⟨by omega, by omega, c, d⟩
    · rw [vfind_done h]
      exact ⟨by omega, by simp only; omega, h0, by simp only; omega⟩
/-- The vector of a number: n numbers, k pulses. -/
def vec : Nat → Int → Int → List Int
  | 0, _, _ => []
  | n + 1, k, i => (vfind n k (2 * k + 1).toNat i (-k)).1 :: vec n (k - max (vfind n k (2 * k + 1).toNat i (-k)).1 (-(vfind n k (2 * k + 1).toNat i (-k)).1)) (vfind n k (2 * k + 1).toNat i (-k)).2
theorem vec_len (n : Nat) : ∀ k i, (vec n k i).length = n := by
  induction n with
  | zero => intro k i; rfl
  | succ n ih => intro k i; simp [vec, ih]
def sizes (l : List Int) : Int := l.foldl (fun s x => s + max x (-x)) 0
theorem sizes_from (l : List Int) : ∀ a : Int, l.foldl (fun s x => s + max x (-x)) a = a + sizes l := by
  induction l with
  | nil => intro a; simp [sizes]
  | cons x l ih =>
    intro a
    have h1 : sizes (x :: l) = l.foldl (fun s x => s + max x (-x)) (0 + max x (-x)) := rfl
    rw [List.foldl_cons, ih, h1, ih]; omega
theorem sizes_cons (x : Int) (l : List Int) : sizes (x :: l) = max x (-x) + sizes l := by
  have h1 : sizes (x :: l) = l.foldl (fun s x => s + max x (-x)) (0 + max x (-x)) := rfl
  rw [h1, sizes_from]; omega
/-- What the number of a vector below its count tells: the pulses are all there. -/
theorem vec_ok (n : Nat) : n ≤ 8 → ∀ (k : Nat) (i : Int), k ≤ 8 → 0 ≤ i → i < cntI n k → sizes (vec n k i) = k ∧ ∀ x ∈ vec n k i, -8 ≤ x ∧ x ≤ 8 := by
  induction n with
  | zero =>
    intro _ k i hk h0 h1
    have : k = 0 := by
      rcases Nat.eq_zero_or_pos k with h | h
      · exact h
      · have e : cntI 0 k = 0 := by rw [cntI_nat 0 hk]; simp [cnt]; omega
        omega
    subst this
    exact ⟨by simp [vec, sizes], fun x hx => by simp [vec] at hx⟩
  | succ n ih =>
    intro hn k i hk h0 h1
    have hs : sumUp n k (2 * (k : Int) + 1).toNat (-(k : Int)) = cntI (n + 1) k := by
      rw [show (2 * (k : Int) + 1).toNat = 2 * k + 1 from by omega, sumUp_all n (by omega) k (by omega)]
      unfold cntI
      rw [if_neg (by omega)]
      simp
    obtain ⟨a, b, c, d⟩ := vfind_ok n k (2 * (k : Int) + 1).toNat i (-(k : Int)) h0 (by rw [hs]; exact h1)
    obtain ⟨p, hp⟩ : ∃ p, vfind n k (2 * (k : Int) + 1).toNat i (-(k : Int)) = p := ⟨_, rfl⟩
    rw [hp] at a b c d
    have hv : vec (n + 1) k i = p.1 :: vec n ((k : Int) - max p.1 (-p.1)) p.2 := by rw [vec, hp]
    obtain ⟨q, hq⟩ : ∃ q : Nat, (k : Int) - max p.1 (-p.1) = q := ⟨((k : Int) - max p.1 (-p.1)).toNat, by omega⟩
    rw [hq] at d hv
    obtain ⟨e1, e2⟩ := ih (by omega) q p.2 (by omega) c d
    rw [hv, sizes_cons, e1]
    refine ⟨by omega, fun x hx => ?_⟩
    cases hx with
    | head => omega
    | tail _ h => exact e2 x h
end Go.Proofs.YtkoljgmapclhkaaGreatDoor.Sp

namespace Go.Proofs.YtkoljgmapclhkaaGreatDoor.Sp

/-- A number cut to n digits. -/
def cut (n : Nat) (x : Int) : Int := max (min x (2 ^ (n - 1) - 1)) (-(2 ^ (n - 1)))
/-- A number by a power of two, rounded; 0 where it is too great. -/
def shiftN (n : Nat) (x : Int) : Int := if x < -1099511627776 ∨ 1099511627776 < x then 0 else (x + 2 ^ (n - 1)) / 2 ^ n
def byS (a b : Int) : Int := a * b / 1073741824
def cosS (u : Int) : Int :=
  let x := u * 105414357 / 2
  let y := byS x x
  let q := byS y y
  1073741824 - y / 2 + (y * y) / 25769803776 - (q * y) / 773094113280 + (q * q) / 43293270343680
def sinS (u : Int) : Int :=
  let x := u * 105414357 / 2
  let y := byS x x
  let q := byS y y
  x - (x * y) / 6442450944 + (x * q) / 128849018880 - (x * byS q y) / 5411658792960
def cos2 (a : Int) : Int := if 16 < a then shiftN 15 (sinS (32 - a)) else shiftN 15 (cosS a)
def cos1 (a : Int) : Int := if 32 < a then -cos2 (64 - a) else cos2 a
/-- The cosine of an angle, by 2^15. -/
def cosV (u : Int) : Int := if 64 < u % 128 then cos1 (128 - u % 128) else cos1 (u % 128)
def sinV (u : Int) : Int := cosV (u.tmod 128 - 32)
theorem cos_bd : ∀ u < 128, -32768 ≤ cosV (u : Nat) ∧ cosV (u : Nat) ≤ 32768 := by decide +kernel
end Go.Proofs.YtkoljgmapclhkaaGreatDoor.Sp

namespace Go.Proofs.YtkoljgmapclhkaaGreatDoor
open Go.RowKit Go.Shelf

/-- The operation that stands at a place of a list. -/
structure Nth (l : List Oper) (i : Nat) (x : Oper) : Prop where
  out : l[i]? = some x
theorem nz {x : Oper} {l : List Oper} : Nth (x :: l) 0 x := ⟨rfl⟩
theorem ns {x y : Oper} {l : List Oper} {i : Nat} (h : Nth l i x) : Nth (y :: l) (i + 1) x := ⟨h.out⟩
theorem Nth.get {l : List Oper} {i : Nat} {x : Oper} (h : Nth l i x) : l.toArray[i]? = some x := by
  rw [List.getElem?_toArray]; exact h.out
theorem sa {α : Type} (l : List α) (i : Nat) (x : α) : l.toArray.setIfInBounds i x = (l.set i x).toArray := List.setIfInBounds_toArray l i x
section
variable {P : Program} {ops : Array Oper} {l : List Oper} {Q : Exit → Act → World → Prop} {md : Region.Mode} {S : World → Prop} {fuel : Nat} {listed : Array Bool} {a : Act} {w : World} {o : Oper}
theorem yp {v : Value} (hw : Region.wanted o (yielded ops a.tmps) = true := by rfl) (h : ∀ w, S w → (execOp a.eval o).run P w = .ok (.value v) w := by intro w hS; (go_simp; try rfl)) : YieldsIf P ops S o v a := .inl ⟨hw, h⟩
theorem yn (hw : Region.wanted o (yielded ops a.tmps) = false := by rfl) : YieldsIf P ops S o undef a := .inr ⟨hw, rfl⟩
theorem tk (i : Nat) (hS : S w) (hi : Nth l i o := by repeat first | apply ns | exact nz) {v : Value} (y : YieldsIf P l.toArray S o v a)
    {a' : Act} (hp : a.put o.dst v = a' := by (try simp only [Act.put, List.setIfInBounds_toArray, List.set_cons_zero, List.set_cons_succ]); rfl)
    (k : wpAnyH P md l.toArray Q S fuel (listed.setIfInBounds i true) a' w)
    (hs : Region.noSelect l.toArray = true := by kernel_rfl) (hf : Region.free md l.toArray listed i = true := by kernel_rfl) (hr : (Region.ready md l.toArray listed).contains i = true := by kernel_rfl)
    (hQ : ∀ c a w, Q (.panic c) (a.put o.dst v) w → Q (.panic c) a w := by exact fun _ _ _ h => h) : wpAnyH P md l.toArray Q S (fuel + 1) listed a w :=
  wpAnyH_take hi.get hs hf hr hQ y hS (by rw [hp]; exact k)
theorem rc {i : Nat} {rs : List Nat} (hi : Nth l i o := by repeat first | apply ns | exact nz)
    (hw : Region.wanted o (yielded l.toArray a.tmps) = true := by rfl)
    (h : ∀ K' : Act → World → Prop, Shut (∀ a w, S w → (S w → wpAnyH P md l.toArray Q S fuel (listed.setIfInBounds i true) a w) → K' a w) → Oper.wp P o a w K' Q)
    (r : AllReadyH P md l.toArray Q S fuel listed a w rs) : AllReadyH P md l.toArray Q S fuel listed a w (i :: rs) :=
  AllReadyH.cons hi.get (fun K hK => by rw [if_pos hw]; exact h K hK) r
end
theorem retInt {k : IntKind} {a b : Int} (h : a = b) : Ending.returned (.int k a) = .returned (.int k b) := by rw [h]
theorem retBool {a b : Bool} (h : a = b) : Ending.returned (.bool a) = .returned (.bool b) := by rw [h]

/-- Block B holds just these cells. -/
def Blk (W : World) (B : Nat) (cs : Array Value) (t : TypeId) : Prop := W.heap[B]? = some (.cells cs t (0, 0))
theorem Blk.lt {W : World} {B : Nat} {cs : Array Value} {t : TypeId} (h : Blk W B cs t) : B < W.heap.size := (Array.getElem?_eq_some_iff.1 h).1
theorem Blk.cell {W : World} {B : Nat} {cs : Array Value} {t : TypeId} (h : Blk W B cs t) (i : Nat) : W.cell? ⟨B, i, none⟩ = cs[i]? := by
  simp [World.cell?, show W.heap[B]? = _ from h]
theorem Blk.frozen {W : World} {B : Nat} {cs : Array Value} {t : TypeId} (h : Blk W B cs t) (i : Nat) : W.frozen? ⟨B, i, none⟩ = false := by
  simp [World.frozen?, show W.heap[B]? = _ from h]
theorem Blk.new (W : World) (cs : Array Value) (t : TypeId) : Blk (W.alloc (.cells cs t)) W.heap.size cs t := World.alloc_heap_new W _
theorem Blk.kept {W W' : World} {row : Option Nat} {B : Nat} {cs : Array Value} {t : TypeId} (h : Blk W B cs t) (hg : W.grownBy W' row) (hne : some B ≠ row) : Blk W' B cs t := (hg.block B h.lt hne).trans h
theorem Blk.alloc {W : World} {B : Nat} {cs : Array Value} {t : TypeId} (h : Blk W B cs t) (o : Obj) : Blk (W.alloc o) B cs t := h.kept (World.grownBy_alloc W o none) (by simp)
theorem Blk.drew {W : World} {B : Nat} {cs : Array Value} {t : TypeId} (h : Blk W B cs t) : Blk W.drew B cs t := h
theorem Blk.drewN {W : World} {B : Nat} {cs : Array Value} {t : TypeId} (h : Blk W B cs t) (n : Nat) : Blk (W.drewN n) B cs t := h
theorem grownBy_setCell1 (W : World) (a : Addr) (v : Value) : W.grownBy (W.setCell a v) (some a.block) :=
  ⟨rfl, rfl, rfl, by simp [World.setCell], fun k _ hk => Below.heap_setCell W a v k (fun e => hk (by rw [e]))⟩
theorem Blk.other {W : World} {B : Nat} {cs : Array Value} {t : TypeId} {a : Addr} (h : Blk W B cs t) (hne : B ≠ a.block) (u : Value) : Blk (W.setCell a u) B cs t :=
  h.kept (grownBy_setCell1 W a u) (fun e => hne (by cases e; rfl))
theorem Blk.set {W : World} {B : Nat} {cs : Array Value} {t : TypeId} (h : Blk W B cs t) (i : Nat) (u : Value) : Blk (W.setCell ⟨B, i, none⟩ u) B (cs.setIfInBounds i u) t := by
  unfold Blk at h ⊢
  simp only [World.setCell, Array.getElem?_modify, h, Option.map_some]
  simp
theorem Blk.set1 {W : World} {B : Nat} {o : Value} {t : TypeId} (h : Blk W B #[o] t) (u : Value) : Blk (W.setCell ⟨B, 0, none⟩ u) B #[u] t := by simpa using h.set 0 u
theorem Blk.below {W W' : World} {B n : Nat} {cs : Array Value} {t : TypeId} (h : Blk W B cs t) (hb : Below n W W') (hn : B < n) : Blk W' B cs t := by
  unfold Blk at h ⊢; rw [← h]; exact hb.block B hn
theorem blk_own {β : Type} (B : Nat) (t : TypeId) (f : β → Array Value) : Own (fun s W => Blk W B (f s) t) := fun s X Y row hs hg hrow =>
  Blk.kept hs hg (fun e => by
    obtain ⟨o, ho, hc⟩ := hrow B e.symm
    rw [show X.heap[B]? = _ from hs] at ho
    cases ho
    simp [Obj.isCells] at hc)
theorem Blk.ownF {W W' : World} {row : Option Nat} {B : Nat} {cs : Array Value} {t : TypeId} (h : Blk W B cs t) (hg : W.grownBy W' row) {n : Nat} (hr : ∀ r, row = some r → n ≤ r ∧ ∃ o : Obj, W.heap[r]? = some o ∧ o.isCells = false) : Blk W' B cs t :=
  Own.from (blk_own (β := Unit) B t (fun _ => cs)) n () W W' row h hg hr
theorem Blk.mk_eq {W : World} {B : Nat} {cs cs' : Array Value} {t : TypeId} (h : Blk W B cs t) (e : cs = cs') : Blk W B cs' t := e ▸ h

/-- All that was there is as it was, but for the blocks of S. -/
structure Kept (S : Nat → Prop) (w w' : World) : Prop where
  os : w'.os = w.os
  tape : w'.tape = w.tape
  output : w'.output = w.output
  size : w.heap.size ≤ w'.heap.size
  block : ∀ k, k < w.heap.size → ¬ S k → w'.heap[k]? = w.heap[k]?
namespace Kept
variable {S T : Nat → Prop} {w w' w'' : World}
theorem refl (S : Nat → Prop) (w : World) : Kept S w w := ⟨rfl, rfl, rfl, Nat.le_refl _, fun _ _ _ => rfl⟩
theorem trans (h : Kept S w w') (k : Kept S w' w'') : Kept S w w'' :=
  ⟨k.os.trans h.os, k.tape.trans h.tape, k.output.trans h.output, Nat.le_trans h.size k.size, fun i hi hn => (k.block i (Nat.lt_of_lt_of_le hi h.size) hn).trans (h.block i hi hn)⟩
theorem mono (h : Kept S w w') (hst : ∀ k, S k → T k) : Kept T w w' := ⟨h.os, h.tape, h.output, h.size, fun k hk hn => h.block k hk (fun e => hn (hst k e))⟩
theorem drew (h : Kept S w w') : Kept S w w'.drew := ⟨h.os, h.tape, h.output, h.size, h.block⟩
theorem drewN (h : Kept S w w') (n : Nat) : Kept S w (w'.drewN n) := ⟨h.os, h.tape, h.output, h.size, h.block⟩
theorem alloc (h : Kept S w w') (o : Obj) : Kept S w (w'.alloc o) :=
  ⟨h.os, h.tape, h.output, by rw [World.size_alloc]; have := h.size; omega, fun k hk hn => (Below.heap_alloc w' o k (Nat.lt_of_lt_of_le hk h.size)).trans (h.block k hk hn)⟩
theorem setCell (h : Kept S w w') {p : Addr} (hp : S p.block ∨ w.heap.size ≤ p.block) (u : Value) : Kept S w (w'.setCell p u) :=
  ⟨h.os, h.tape, h.output, by simp only [World.size_setCell]; exact h.size, fun k hk hn => (Below.heap_setCell w' p u k (fun e => by subst e; rcases hp with h | h; exact hn h; omega)).trans (h.block k hk hn)⟩
theorem of_below (h : Below w.heap.size w w') : Kept S w w' := ⟨h.os, h.tape, h.output, h.size, fun k hk _ => h.block k hk⟩
theorem thenBelow (h : Kept S w w') (k : Below w'.heap.size w' w'') : Kept S w w'' := h.trans (of_below k)
theorem below (h : Kept S w w') {n : Nat} (hs : ∀ k, S k → n ≤ k) (hn : n ≤ w.heap.size) : Below n w w' :=
  ⟨h.os, h.tape, h.output, h.size, fun k hk => h.block k (by omega) (fun e => by have := hs k e; omega)⟩
/-- Behind a state in which only new blocks lie besides: what turns new blocks alone turns nothing. -/
theorem inner {n : Nat} (h : Below n w w') (hn : n ≤ w'.heap.size) (k : Kept S w' w'') (hs : ∀ i, S i → n ≤ i) : Below n w w'' := h.trans (k.below hs hn)
end Kept
theorem Blk.keep {S : Nat → Prop} {W W' : World} {B : Nat} {cs : Array Value} {t : TypeId} (h : Blk W B cs t) (hk : Kept S W W') (hn : ¬ S B) : Blk W' B cs t := (hk.block B h.lt hn).trans h
theorem Blk.newB {W W' : World} {B : Nat} {cs : Array Value} {t : TypeId} (h : Blk W B cs t) (hk : Below W.heap.size W W') : Blk W' B cs t := (hk.block B h.lt).trans h
/-- How far a whole number in memory is from 2^32: a loop's measure. -/
def far32 (W : World) (g i : Nat) : Nat := match W.cell? ⟨g, i, none⟩ with
  | some (.int _ n) => (4294967296 - n).toNat
  | _ => 0
theorem far32_eq {W : World} {g i : Nat} {k : IntKind} {n : Int} (h : W.cell? ⟨g, i, none⟩ = some (.int k n)) : far32 W g i = (4294967296 - n).toNat := by
  unfold far32; rw [h]
theorem Kept.undrew {S : Nat → Prop} {w w' : World} (h : Kept S w.drew w') : Kept S w w' := ⟨h.os, h.tape, h.output, h.size, h.block⟩
theorem u32_shl8_or (e b : Int) (h0 : 0 ≤ b) (h1 : b ≤ 255) : bits .or .u32 (e * 256 % 4294967296) b = e * 256 % 4294967296 + b := by
  rw [u32_or _ _ (by omega) (by omega) h0 (by omega)]
  obtain ⟨m, hm⟩ : ∃ m : Nat, (e * 256 % 4294967296).toNat = 2 ^ 8 * m := ⟨((e * 256 % 4294967296) / 256).toNat, by omega⟩
  rw [hm, ← Nat.two_pow_add_eq_or_of_lt (by omega : b.toNat < 2 ^ 8) m]
  omega
theorem u64_and32 (x : Int) (h0 : 0 ≤ x) (h1 : x < 18446744073709551616) : bits .and .u64 x 4294967295 = x % 4294967296 := by
  rw [u64_and _ _ h0 h1 (by omega) (by omega)]
  rw [show ((4294967295 : Int).toNat) = 2 ^ 32 - 1 from rfl, Nat.and_two_pow_sub_one_eq_mod]
  omega
theorem quiet_same {P : Program} {f : FuncId} {args : Array Value} {w : World} {n : Nat} {v : Value}
    (h : Calls P f args (w.drewN n) fun e w' => e = .returned v ∧ w.drewN n = w') : Calls P f args (w.drewN n) fun e w'' => e = .returned v ∧ ∃ m, w'' = w.drewN m :=
  h.mono fun _ _ ⟨he, hm⟩ => ⟨he, n, hm.symm⟩

/-- Whole numbers as cells. -/
abbrev intsV (l : List Int) : List Value := l.map (Value.int .i64)
/-- A slice of the call's own, of elements of one cell: nil, or at the head of a block. -/
def Row (W : World) (e : TypeId) (v : Value) (xs : List Value) : Prop := W.ownsRow 0 e 1 v xs.length xs
theorem Row.nil (W : World) (e : TypeId) : Row W e (.slice none 0 0) [] := World.ownsRow_nil _ _ _ _
theorem Row.alloc {W : World} {e : TypeId} {v : Value} {xs : List Value} (h : Row W e v xs) (o : Obj) : Row (W.alloc o) e v xs := World.ownsRow.alloc h o
theorem Row.drew {W : World} {e : TypeId} {v : Value} {xs : List Value} (h : Row W e v xs) : Row W.drew e v xs := h
theorem Row.drewN {W : World} {e : TypeId} {v : Value} {xs : List Value} (h : Row W e v xs) (n : Nat) : Row (W.drewN n) e v xs := h
theorem Row.lt {W : World} {e : TypeId} {v : Value} {xs : List Value} (h : Row W e v xs) {k : Nat} (hk : v.ownBlock = some k) : k < W.heap.size := (World.ownsRow.lt h k hk).2
theorem Row.far {W : World} {e : TypeId} {v : Value} {xs : List Value} (h : Row W e v xs) (a : Addr) (hne : v.ownBlock ≠ some a.block) (u : Value) : Row (W.setCell a u) e v xs :=
  World.ownsRow.kept h (grownBy_setCell1 W a u) (.inr hne)
theorem Row.keep {S : Nat → Prop} {W W' : World} {e : TypeId} {v : Value} {xs : List Value} (h : Row W e v xs) (hk : Kept S W W') (hn : ∀ k, v.ownBlock = some k → ¬ S k) : Row W' e v xs := by
  refine ⟨h.1, ?_⟩
  rcases h.2 with hl | ⟨g, cap, cur, rfl, hb, hg, rest⟩
  · exact .inl hl
  · refine .inr ⟨g, cap, cur, rfl, hb, ?_, rest⟩
    rw [hk.block g (Array.getElem?_eq_some_iff.1 hg).1 (hn g rfl)]
    exact hg
theorem Row.slice {W : World} {e : TypeId} {v : Value} {xs : List Value} (h : Row W e v xs) (hx : xs ≠ []) : ∃ ob cap, v = .slice (some ⟨ob, 0, none⟩) xs.length cap ∧ ob < W.heap.size := by
  obtain ⟨g, cap, hv, _, hl⟩ := World.ownsRow.form h (by cases xs <;> simp_all)
  exact ⟨g, cap, hv, hl⟩
theorem Row.mk {W : World} {e : TypeId} {v : Value} {n : Nat} {xs : List Value} (h : W.ownsRow 0 e 1 v n xs) : Row W e v xs := by
  obtain rfl : n = xs.length := by have := h.1; omega
  exact h
theorem Row.stored {W : World} {e : TypeId} {g n cap : Nat} {xs : List Value} (h : Row W e (.slice (some ⟨g, 0, none⟩) n cap) xs) (hn : xs.length = n) (j : Nat) (u : Value) :
    Row (W.setCell ⟨g, j, none⟩ u) e (.slice (some ⟨g, 0, none⟩) n cap) (xs.set j u) := by
  unfold Row at h ⊢
  rw [hn] at h
  rw [List.length_set, hn]
  exact (World.ownsRow.stored h j u).1
theorem Row.cellAt {W : World} {e : TypeId} {g n cap : Nat} {xs : List Value} (h : Row W e (.slice (some ⟨g, 0, none⟩) n cap) xs) (hn : xs.length = n) (j : Nat) (hj : j < n) : W.cell? ⟨g, j, none⟩ = xs[j]? := by
  unfold Row at h
  rw [hn] at h
  exact World.ownsRow.cellAt h j (by omega)
theorem Row.frozenAt {W : World} {e : TypeId} {g n cap : Nat} {xs : List Value} (h : Row W e (.slice (some ⟨g, 0, none⟩) n cap) xs) (hn : xs.length = n) (j : Nat) : W.frozen? ⟨g, j, none⟩ = false := by
  unfold Row at h
  rw [hn] at h
  exact World.ownsRow.frozenAt h j
/-- A row's block and a block of cells of another type are two. -/
theorem Row.ne {W : World} {e t : TypeId} {v : Value} {xs : List Value} {B : Nat} {cs : Array Value} (h : Row W e v xs) (hB : Blk W B cs t) (hte : t ≠ e) : v.ownBlock ≠ some B := by
  intro hv
  rcases h.2 with ⟨rfl, _⟩ | ⟨g, cap, cur, rfl, hb, hg, rest⟩
  · simp [Value.ownBlock] at hv
  · obtain rfl : g = B := by simpa [Value.ownBlock] using hv
    rw [show W.heap[g]? = _ from hB] at hg
    cases hg
    exact hte rfl
/-- One behind the other: what the second turns is the first's, or new. -/
theorem Kept.andThen {S T : Nat → Prop} {a b c : World} (h : Kept S a b) (k : Kept T b c) (hT : ∀ i, T i → S i ∨ a.heap.size ≤ i) : Kept S a c :=
  ⟨k.os.trans h.os, k.tape.trans h.tape, k.output.trans h.output, Nat.le_trans h.size k.size, fun i hi hn => (k.block i (Nat.lt_of_lt_of_le hi h.size) (fun e => by rcases hT i e with h | h; exact hn h; omega)).trans (h.block i hi hn)⟩
theorem Kept.grown {S : Nat → Prop} {w w' w'' : World} {row : Option Nat} (h : Kept S w w') (hg : w'.grownBy w'' row) (hr : ∀ k, row = some k → S k ∨ w.heap.size ≤ k) : Kept S w w'' :=
  ⟨hg.os.trans h.os, hg.tape.trans h.tape, hg.output.trans h.output, Nat.le_trans h.size hg.size, fun k hk hn => (hg.block k (Nat.lt_of_lt_of_le hk h.size) (fun e => by rcases hr k e.symm with h | h; exact hn h; omega)).trans (h.block k hk hn)⟩
theorem own_empty (w : World) (e : TypeId) (B : Nat) (hB : B = w.heap.size) : (w.alloc (.cells #[] e)).ownsRow 0 e 1 (.slice (some ⟨B, 0, none⟩) 0 0) 0 [] := by
  subst hB
  exact World.ownsRow_lit w #[] 0 (Nat.zero_le _) (by simp [maxLen]) (by simp)
theorem bytes_get {l : List Int} {j : Nat} (h : j < l.length) : (l.map (Value.int .u8))[j]? = some (.int .u8 (l.getD j 0)) := by
  simp [List.getElem?_map, List.getElem?_eq_getElem h, List.getD_eq_getElem?_getD]
theorem ints_get {k : IntKind} {l : List Int} {j : Nat} (h : j < l.length) : (l.map (Value.int k))[j]? = some (.int k (l.getD j 0)) := by
  simp [List.getElem?_map, List.getElem?_eq_getElem h, List.getD_eq_getElem?_getD]
theorem ints_set {k : IntKind} (l : List Int) (j : Nat) (x : Int) : (l.map (Value.int k)).set j (.int k x) = (l.set j x).map (Value.int k) := by
  rw [List.map_set]
end Go.Proofs.YtkoljgmapclhkaaGreatDoor
