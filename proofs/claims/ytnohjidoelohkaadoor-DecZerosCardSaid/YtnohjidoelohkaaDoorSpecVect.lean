/- The plain words of pulses: how many vectors there are. -/
import Derived.Lib.BitFns
namespace Go.Proofs.YtnohjidoelohkaaDoor.Sp

/-- How many vectors of n numbers have k pulses. -/
def cnt : Nat → Nat → Nat
  | 0, k => if k = 0 then 1 else 0
  | n + 1, k => (List.range k).foldl (fun s j => s + 2 * cnt n j) (cnt n k)
/-- The sum as it grows. -/
def cntPart (n k j : Nat) : Nat := (List.range j).foldl (fun s j => s + 2 * cnt n j) (cnt n k)
theorem cntPart_zero (n k : Nat) : cntPart n k 0 = cnt n k := rfl
theorem cntPart_next (n k j : Nat) : cntPart n k (j + 1) = cntPart n k j + 2 * cnt n j := by simp [cntPart, List.range_succ]
theorem cntPart_all (n k : Nat) : cntPart n k k = cnt (n + 1) k := rfl
theorem cntPart_mono (n k : Nat) {i j : Nat} (h : i ≤ j) : cntPart n k i ≤ cntPart n k j := by
  obtain ⟨d, rfl⟩ : ∃ d, j = i + d := ⟨j - i, by omega⟩
  clear h
  induction d with
  | zero => exact Nat.le_refl _
  | succ d ih => rw [← Nat.add_assoc, cntPart_next]; omega
/-- The counts of one number of numbers, for 0 to 8 pulses. -/
def cntL : Nat → List Nat
  | 0 => [1, 0, 0, 0, 0, 0, 0, 0, 0]
  | n + 1 => let r := cntL n; (List.range 9).map fun k => (List.range k).foldl (fun s j => s + 2 * r.getD j 0) (r.getD k 0)
theorem cnt_row (n : Nat) : ∀ k, k < 9 → cnt n k = (cntL n).getD k 0 := by
  induction n with
  | zero => decide
  | succ n ih =>
    intro k hk
    have h : ∀ (l : List Nat) (s : Nat), (∀ j ∈ l, j < 9) → l.foldl (fun s j => s + 2 * cnt n j) s = l.foldl (fun s j => s + 2 * (cntL n).getD j 0) s := by
      intro l
      induction l with
      | nil => intro s _; rfl
      | cons x l ih2 =>
        intro s hl
        rw [List.foldl_cons, List.foldl_cons, ih x (hl x List.mem_cons_self)]
        exact ih2 _ (fun j hj => hl j (List.mem_cons_of_mem _ hj))
    have e : (cntL (n + 1)).getD k 0 = (List.range k).foldl (fun s j => s + 2 * (cntL n).getD j 0) ((cntL n).getD k 0) := by
      simp only [cntL, List.getD_eq_getElem?_getD, List.getElem?_map, List.getElem?_range hk, Option.map_some, Option.getD_some]
    rw [e, cnt, h _ _ (fun j hj => by have := List.mem_range.1 hj; omega), ih k hk]
theorem cntL_all : ∀ n < 9, ∀ k < 9, (cntL n).getD k 0 ≤ 1000000 := by decide +kernel
theorem cnt_bd {n k : Nat} (hn : n ≤ 8) (hk : k ≤ 8) : cnt n k ≤ 1000000 := by rw [cnt_row n k (by omega)]; exact cntL_all n (by omega) k (by omega)
/-- The same of whole numbers: nothing below 0. -/
def cntI (n : Nat) (k : Int) : Int := if k < 0 then 0 else ((cntL n).getD k.toNat 0 : Int)
theorem cntI_nat (n : Nat) {k : Nat} (hk : k ≤ 8) : cntI n k = cnt n k := by unfold cntI; rw [if_neg (by omega), cnt_row n k (by omega)]; simp
theorem cntI_bd {n : Nat} {k : Int} (hn : n ≤ 8) (hk : k ≤ 8) : 0 ≤ cntI n k ∧ cntI n k ≤ 1000000 := by
  unfold cntI
  split
  · omega
  · have := cntL_all n (by omega) k.toNat (by omega); omega
/-- How many bits all numbers of vectors have. -/
def vbits (n k : Nat) : Nat := Lib.bitLen (cnt n k - 1)
theorem vbits_bd {n k : Nat} (hn : n ≤ 8) (hk : k ≤ 8) : vbits n k ≤ 20 := by
  have := cnt_bd hn hk
  exact Lib.bitLen_le _ 20 (by omega) (by omega)
/-- The sum of so many counts from a number on. -/
def sumUp (m : Nat) (k : Int) : Nat → Int → Int
  | 0, _ => 0
  | j + 1, x => cntI m (k - max x (-x)) + sumUp m k j (x + 1)
theorem sumUp_all : ∀ m < 8, ∀ k < 9, sumUp m (k : Nat) (2 * k + 1) (-((k : Nat) : Int)) = ((cntL (m + 1)).getD k 0 : Nat) := by decide +kernel
/-- Which number comes first, and what is left of the vector's number. -/
def vfind (m : Nat) (k : Int) : Nat → Int → Int → Int × Int
  | 0, i, x => (x, i)
  | j + 1, i, x => if cntI m (k - max x (-x)) ≤ i then vfind m k j (i - cntI m (k - max x (-x))) (x + 1) else (x, i)
theorem vfind_next {m : Nat} {k i x : Int} {j : Nat} (h : cntI m (k - max x (-x)) ≤ i) : vfind m k (j + 1) i x = vfind m k j (i - cntI m (k - max x (-x))) (x + 1) := by rw [vfind, if_pos h]
theorem vfind_done {m : Nat} {k i x : Int} {j : Nat} (h : ¬ cntI m (k - max x (-x)) ≤ i) : vfind m k (j + 1) i x = (x, i) := by rw [vfind, if_neg h]
theorem vfind_ok (m : Nat) (k : Int) (j : Nat) : ∀ i x : Int, 0 ≤ i → i < sumUp m k j x → x ≤ (vfind m k j i x).1 ∧ (vfind m k j i x).1 < x + j ∧ 0 ≤ (vfind m k j i x).2 ∧ (vfind m k j i x).2 < cntI m (k - max (vfind m k j i x).1 (-(vfind m k j i x).1)) := by
  induction j with
  | zero => intro i x h0 h1; simp only [sumUp] at h1; omega
  | succ j ih =>
    intro i x h0 h1
    by_cases h : cntI m (k - max x (-x)) ≤ i
    · rw [vfind_next h]
      obtain ⟨a, b, c, d⟩ := ih (i - cntI m (k - max x (-x))) (x + 1) (by omega) (by simp only [sumUp] at h1; omega)
      exact ⟨by omega, by omega, c, d⟩
    · rw [vfind_done h]
      exact ⟨by omega, by simp only; omega, h0, by simp only; omega⟩
/-- The vector of a number: n numbers, k pulses. -/
def vec : Nat → Int → Int → List Int
  | 0, _, _ => []
  | n + 1, k, i => (vfind n k (2 * k + 1).toNat i (-k)).1 :: vec n (k - max (vfind n k (2 * k + 1).toNat i (-k)).1 (-(vfind n k (2 * k + 1).toNat i (-k)).1)) (vfind n k (2 * k + 1).toNat i (-k)).2
theorem vec_len (n : Nat) : ∀ k i, (vec n k i).length = n := by
  induction n with
  | zero => intro k i; rfl
  | succ n ih => intro k i; simp [vec, ih]
def sizes (l : List Int) : Int := l.foldl (fun s x => s + max x (-x)) 0
theorem sizes_from (l : List Int) : ∀ a : Int, l.foldl (fun s x => s + max x (-x)) a = a + sizes l := by
  induction l with
  | nil => intro a; simp [sizes]
  | cons x l ih =>
    intro a
    have h1 : sizes (x :: l) = l.foldl (fun s x => s + max x (-x)) (0 + max x (-x)) := rfl
    rw [List.foldl_cons, ih, h1, ih]; omega
theorem sizes_cons (x : Int) (l : List Int) : sizes (x :: l) = max x (-x) + sizes l := by
  have h1 : sizes (x :: l) = l.foldl (fun s x => s + max x (-x)) (0 + max x (-x)) := rfl
  rw [h1, sizes_from]; omega
/-- What the number of a vector below its count tells: the pulses are all there. -/
theorem vec_ok (n : Nat) : n ≤ 8 → ∀ (k : Nat) (i : Int), k ≤ 8 → 0 ≤ i → i < cntI n k → sizes (vec n k i) = k ∧ ∀ x ∈ vec n k i, -8 ≤ x ∧ x ≤ 8 := by
  induction n with
  | zero =>
    intro _ k i hk h0 h1
    have : k = 0 := by
      rcases Nat.eq_zero_or_pos k with h | h
      · exact h
      · have e : cntI 0 k = 0 := by rw [cntI_nat 0 hk]; simp [cnt]; omega
        omega
    subst this
    exact ⟨by simp [vec, sizes], fun x hx => by simp [vec] at hx⟩
  | succ n ih =>
    intro hn k i hk h0 h1
    have hs : sumUp n k (2 * (k : Int) + 1).toNat (-(k : Int)) = cntI (n + 1) k := by
      rw [show (2 * (k : Int) + 1).toNat = 2 * k + 1 from by omega, sumUp_all n (by omega) k (by omega)]
      unfold cntI
      rw [if_neg (by omega)]
      simp
    obtain ⟨a, b, c, d⟩ := vfind_ok n k (2 * (k : Int) + 1).toNat i (-(k : Int)) h0 (by rw [hs]; exact h1)
    obtain ⟨p, hp⟩ : ∃ p, vfind n k (2 * (k : Int) + 1).toNat i (-(k : Int)) = p := ⟨_, rfl⟩
    rw [hp] at a b c d
    have hv : vec (n + 1) k i = p.1 :: vec n ((k : Int) - max p.1 (-p.1)) p.2 := by rw [vec, hp]
    obtain ⟨q, hq⟩ : ∃ q : Nat, (k : Int) - max p.1 (-p.1) = q := ⟨((k : Int) - max p.1 (-p.1)).toNat, by omega⟩
    rw [hq] at d hv
    obtain ⟨e1, e2⟩ := ih (by omega) q p.2 (by omega) c d
    rw [hv, sizes_cons, e1]
    refine ⟨by omega, fun x hx => ?_⟩
    cases hx with
    | head => omega
    | tail _ h => exact e2 x h
end Go.Proofs.YtnohjidoelohkaaDoor.Sp
