/- The plain law of the Laplace cells: the list of all cells, and what a number's cell and a place's number are. -/
namespace Go.Proofs.YtnohjidoelohkaaDoor.Sp

def lw (k : Nat) : Int := max (5000 / 2 ^ (k - 1)) 8
theorem lw_bd (k : Nat) : 8 ≤ lw k ∧ lw k ≤ 5000 := by
  unfold lw
  have : (5000 : Int) / 2 ^ (k - 1) ≤ 5000 := Int.ediv_le_self _ (by omega)
  omega
def lat : Nat → Int
  | 0 => 12568
  | n + 1 => lat n + 2 * lw (n + 1)
abbrev LC := Int × Int × Int
def lpre : Nat → List LC
  | 0 => [(0, 0, 12568)]
  | n + 1 => lpre n ++ [((n : Int) + 1, lat n, lw (n + 1))] ++ [(-((n : Int) + 1), lat n + lw (n + 1), lw (n + 1))]
def lcells : List LC := lpre 24

/-- What is left of 2^15 behind n rounds. -/
def lrest : Nat → Int
  | 0 => 32768
  | n + 1 => lrest n - 2 * lw (n + 1)
theorem lrest_24 : lrest 24 = 12568 := by decide +kernel
theorem lrest_bd (n : Nat) : 32768 - 10000 * n ≤ lrest n ∧ lrest n ≤ 32768 := by
  induction n with
  | zero => simp [lrest]
  | succ n ih =>
    have := lw_bd (n + 1)
    simp only [lrest]; omega
theorem lpre_length (n : Nat) : (lpre n).length = 2 * n + 1 := by
  induction n with
  | zero => rfl
  | succ n ih => simp only [lpre, List.length_append, List.length_cons, List.length_nil, ih]; omega
theorem lpre_step (n m : Nat) : lpre n <+: lpre (n + m) := by
  induction m with
  | zero => exact List.prefix_refl _
  | succ m ih => exact ih.trans (by rw [show n + (m + 1) = (n + m) + 1 from rfl, lpre, List.append_assoc]; exact List.prefix_append _ _)
theorem lpre_mono {n m : Nat} (h : n ≤ m) : lpre n <+: lpre m := by
  obtain ⟨d, rfl⟩ := Nat.le.dest h; exact lpre_step n d
theorem lpre_half (n : Nat) : lpre n ++ [((n : Int) + 1, lat n, lw (n + 1))] <+: lpre (n + 1) := by
  rw [lpre]; exact List.prefix_append _ _
theorem lat_bd (n : Nat) : 12568 ≤ lat n ∧ lat n ≤ 12568 + 10000 * n := by
  induction n with
  | zero => simp [lat]
  | succ n ih => have := lw_bd (n + 1); simp only [lat]; omega

/-- The first cell of a number. -/
def cellOf (v : Int) : Int × Int × Bool :=
  match lcells.find? (fun c => c.1 == v) with
  | some c => (c.2.1, c.2.2, true)
  | none => (0, 0, false)
def inCell (p : Int) (c : LC) : Bool := decide (c.2.1 ≤ p) && decide (p < c.2.1 + c.2.2)
def findOf (p : Int) : Int × Bool :=
  match lcells.find? (inCell p) with
  | some c => (c.1, true)
  | none => (0, false)

theorem find_none_append {α : Type} {q : α → Bool} {l : List α} {x : α} (h : l.find? q = none) (hx : q x = false) : (l ++ [x]).find? q = none := by
  simp only [List.find?_append, h, Option.none_or, List.find?_cons, hx, List.find?_nil]
theorem find_some_prefix {α : Type} {q : α → Bool} {l m : List α} {x : α} (hp : l ++ [x] <+: m) (h : l.find? q = none) (hx : q x = true) : m.find? q = some x := by
  obtain ⟨t, rfl⟩ := hp
  rw [List.find?_append, List.find?_append, h, List.find?_cons, hx]; rfl
theorem cellOf_hit {pre : List LC} {x : LC} {v : Int} (hp : pre ++ [x] <+: lcells) (h : pre.find? (fun c => c.1 == v) = none) (hx : x.1 = v) : cellOf v = (x.2.1, x.2.2, true) := by
  rw [cellOf, find_some_prefix hp h (by simp [hx])]
theorem cellOf_miss {v : Int} (h : lcells.find? (fun c => c.1 == v) = none) : cellOf v = (0, 0, false) := by rw [cellOf, h]
theorem findOf_hit {pre : List LC} {x : LC} {p : Int} (hp : pre ++ [x] <+: lcells) (h : pre.find? (inCell p) = none) (hx : inCell p x = true) : findOf p = (x.1, true) := by
  rw [findOf, find_some_prefix hp h hx]
theorem findOf_miss {p : Int} (h : lcells.find? (inCell p) = none) : findOf p = (0, false) := by rw [findOf, h]
theorem lcells_bd : ∀ c ∈ lcells, 0 ≤ c.2.1 ∧ 8 ≤ c.2.2 ∧ c.2.1 + c.2.2 ≤ 32768 := by decide +kernel
def Miss {α : Type} (q : α → Bool) (l : List α) : Prop := l.find? q = none
theorem find_congr {α : Type} {q r : α → Bool} {l : List α} (h : ∀ x ∈ l, q x = r x) : l.find? q = l.find? r := by
  induction l with
  | nil => rfl
  | cons a l ih => rw [List.find?_cons, List.find?_cons, h a (by simp), ih (fun x hx => h x (by simp [hx]))]
end Go.Proofs.YtnohjidoelohkaaDoor.Sp
