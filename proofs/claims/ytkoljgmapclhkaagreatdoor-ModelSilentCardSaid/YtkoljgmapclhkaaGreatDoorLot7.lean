/- The plain words of a frame encoded: lifted, its waves, levels, pulses, and their number. The plain words of a packet: its cells, that it has its size, and that its levels are met again. -/
import Derived.Test.YtkoljgmapclhkaaGreatDoorLot6
import Derived.Test.YtkoljgmapclhkaaGreatDoorLot0
set_option linter.unusedSimpArgs false
set_option linter.unusedVariables false
namespace Go.Proofs.YtkoljgmapclhkaaGreatDoor

/-- One sample lifted. -/
def lift1 (last x : Int) : Int := Sp.cut 22 x - (27853 * last).tdiv 32768
def liftG : Int → List Int → List Int
  | _, [] => []
  | last, x :: r => lift1 last x :: liftG (Sp.cut 22 x) r
theorem liftG_len : ∀ (l : List Int) (last : Int), (liftG last l).length = l.length := by
  intro l
  induction l with
  | nil => intro _; rfl
  | cons x r ih => intro last; simp [liftG, ih]
def liftL (last : Int) (l : List Int) : List Int := liftG (Sp.cut 22 last) l
def liftN (last : Int) (l : List Int) : Int := l.foldl (fun _ x => Sp.cut 22 x) (Sp.cut 22 last)
theorem liftL_len (last : Int) (l : List Int) : (liftL last l).length = l.length := liftG_len _ _
theorem lift_bd {x : Int} {s : Int} (hx : -32768 ≤ x ∧ x ≤ 32767) (hs : -32768 ≤ s ∧ s ≤ 32767) : -131072 ≤ lift1 s x ∧ lift1 s x ≤ 131072 := by
  have h1 : Sp.cut 22 x = x := by
    have e : Sp.cut 22 x = max (min x 2097151) (-2097152) := rfl
    omega
  have h2 : (27853 * s).tdiv 32768 ≤ 32768 := by
    by_cases h : 0 ≤ s
    · rw [Int.tdiv_eq_ediv_of_nonneg (by omega)]; omega
    · have e : (27853 * s).tdiv 32768 = -((-(27853 * s)).tdiv 32768) := by rw [Int.neg_tdiv, Int.neg_neg]
      have h3 : 0 ≤ (-(27853 * s)).tdiv 32768 := Int.tdiv_nonneg (by omega) (by decide)
      omega
  have h3 : -32768 ≤ (27853 * s).tdiv 32768 := by
    by_cases h : 0 ≤ s
    · have := Int.tdiv_nonneg (a := 27853 * s) (b := 32768) (by omega) (by decide); omega
    · have e : (27853 * s).tdiv 32768 = -((-(27853 * s)).tdiv 32768) := by rw [Int.neg_tdiv, Int.neg_neg]
      have h4 : (-(27853 * s)).tdiv 32768 = (-(27853 * s)) / 32768 := Int.tdiv_eq_ediv_of_nonneg (by omega)
      omega
  unfold lift1; rw [h1]; omega
theorem cut22_id {x : Int} (hx : -32768 ≤ x ∧ x ≤ 32767) : Sp.cut 22 x = x := by
  have e : Sp.cut 22 x = max (min x 2097151) (-2097152) := rfl
  omega
theorem liftG_bd : ∀ (l : List Int) (s : Int), (∀ x ∈ l, -32768 ≤ x ∧ x ≤ 32767) → (-32768 ≤ s ∧ s ≤ 32767) → ∀ x ∈ liftG s l, -131072 ≤ x ∧ x ≤ 131072 := by
  intro l
  induction l with
  | nil => intro s _ _ x hx; cases hx
  | cons y r ih =>
    intro s hl hs x hx
    have hy := hl y List.mem_cons_self
    rcases List.mem_cons.1 hx with rfl | h
    · exact lift_bd hy hs
    · refine ih _ (fun z hz => hl z (List.mem_cons_of_mem _ hz)) ?_ x h
      rw [cut22_id hy]; exact hy
/-- A wave of two frames, and all of them. -/
def waveT (a b : List Int) (k n : Nat) : Int := Sp.shiftN 15 ((a ++ b).getD n 0 * winTab.getD n 0) * kerAt n k
def wave1 (a b : List Int) (k : Nat) : Int := Sp.shiftN 17 (sumF (waveT a b k) 32)
def wavesL (a b : List Int) : List Int := if a.any wideP = true ∨ b.any wideP = true then List.replicate 16 0 else (List.range 16).map (wave1 a b)
theorem wavesL_len (a b : List Int) : (wavesL a b).length = 16 := by unfold wavesL; split <;> simp
theorem shift_le (n : Nat) (x : Int) (B : Int) (hB : 0 ≤ B) (h : -(B * 2 ^ n) ≤ x ∧ x ≤ B * 2 ^ n) (hn : 1 ≤ n) : -B ≤ Sp.shiftN n x ∧ Sp.shiftN n x ≤ B := by
  unfold Sp.shiftN
  split
  · omega
  · have hp : (0 : Int) < 2 ^ (n - 1) := Int.pow_pos (by decide)
    have e : (2 : Int) ^ n = 2 * 2 ^ (n - 1) := by
      obtain ⟨m, rfl⟩ : ∃ m, n = m + 1 := ⟨n - 1, by omega⟩
      rw [Nat.add_sub_cancel, Int.pow_succ, Int.mul_comm]
    obtain ⟨p, hpe⟩ : ∃ p, (2 : Int) ^ (n - 1) = p := ⟨_, rfl⟩
    rw [e, hpe] at h ⊢
    rw [hpe] at hp
    have h2p : (0 : Int) < 2 * p := by omega
    constructor
    · rw [Int.le_ediv_iff_mul_le h2p]
      have : -B * (2 * p) = -(B * (2 * p)) := by rw [Int.neg_mul]
      omega
    · have : (x + p) / (2 * p) < B + 1 := by
        rw [Int.ediv_lt_iff_lt_mul h2p, Int.add_mul, Int.one_mul]; omega
      omega
theorem winTab_bd' (u : Nat) : -32768 ≤ winTab.getD u 0 ∧ winTab.getD u 0 ≤ 32768 := by
  by_cases h : u < 32
  · exact winTab_bd u h
  · rw [List.getD_eq_getElem?_getD, List.getElem?_eq_none (by rw [winTab_len]; omega)]; decide
theorem abs_mul_bd {x y A B : Int} (hA : 0 ≤ A) (hB : 0 ≤ B) (hx : -A ≤ x ∧ x ≤ A) (hy : -B ≤ y ∧ y ≤ B) : -(A * B) ≤ x * y ∧ x * y ≤ A * B := by
  have h1 : (x * y).natAbs ≤ (A * B).natAbs := by
    rw [Int.natAbs_mul, Int.natAbs_mul]
    exact Nat.mul_le_mul (by omega) (by omega)
  have h2 : 0 ≤ A * B := Int.mul_nonneg hA hB
  omega
theorem wave_in {a b : List Int} (ha : a.any wideP = false) (hb : b.any wideP = false) (n : Nat) : -1048576 ≤ (a ++ b).getD n 0 ∧ (a ++ b).getD n 0 ≤ 1048576 := by
  have h : (a ++ b).any wideP = false := by rw [List.any_append, ha, hb]; rfl
  rw [List.any_eq_false] at h
  rw [List.getD_eq_getElem?_getD]
  cases hg : (a ++ b)[n]? with
  | none => simp
  | some x =>
    have h2 := h x (List.mem_of_getElem? hg)
    unfold wideP at h2
    simp only [Bool.or_eq_true, decide_eq_true_eq, not_or] at h2
    simp only [Option.getD_some]
    omega
theorem waveX_bd {a b : List Int} (ha : a.any wideP = false) (hb : b.any wideP = false) (n : Nat) : -1048576 ≤ Sp.shiftN 15 ((a ++ b).getD n 0 * winTab.getD n 0) ∧ Sp.shiftN 15 ((a ++ b).getD n 0 * winTab.getD n 0) ≤ 1048576 := by
  have h := abs_mul_bd (by decide) (by decide) (wave_in ha hb n) (winTab_bd' n)
  exact shift_le 15 _ 1048576 (by decide) (by rw [show (1048576 : Int) * 2 ^ 15 = 1048576 * 32768 from rfl]; exact h) (by decide)
theorem waveT_bd {a b : List Int} (ha : a.any wideP = false) (hb : b.any wideP = false) (k n : Nat) : -34359738368 ≤ waveT a b k n ∧ waveT a b k n ≤ 34359738368 := by
  have h := abs_mul_bd (by decide) (by decide) (waveX_bd ha hb n) (kerAt_bd n k)
  exact h
theorem waveS_bd {a b : List Int} (ha : a.any wideP = false) (hb : b.any wideP = false) (k : Nat) : -1099511627776 ≤ sumF (waveT a b k) 32 ∧ sumF (waveT a b k) 32 ≤ 1099511627776 := sumF_bd (waveT_bd ha hb k) 32
theorem wave1_bd {a b : List Int} (ha : a.any wideP = false) (hb : b.any wideP = false) (k : Nat) : -8388608 ≤ wave1 a b k ∧ wave1 a b k ≤ 8388608 :=
  shift_le 17 _ 8388608 (by decide) (by rw [show (8388608 : Int) * 2 ^ 17 = 1099511627776 from rfl]; exact waveS_bd ha hb k) (by decide)
/-- Waves that can be: each of 24 digits. -/
def WavesOk (w : List Int) : Prop := w.length = 16 ∧ ∀ x ∈ w, -8388608 ≤ x ∧ x ≤ 8388608
theorem wavesL_ok (a b : List Int) : WavesOk (wavesL a b) := by
  refine ⟨wavesL_len a b, ?_⟩
  unfold wavesL
  split
  · intro x hx; have := (List.mem_replicate.1 hx).2; omega
  · next h =>
    have ha : a.any wideP = false := by cases e : a.any wideP with
      | false => rfl
      | true => exact absurd (.inl e) h
    have hb : b.any wideP = false := by cases e : b.any wideP with
      | false => rfl
      | true => exact absurd (.inr e) h
    intro x hx
    obtain ⟨k, _, rfl⟩ := List.mem_map.1 hx
    exact wave1_bd ha hb k
/-- A band's waves, its level, all levels. -/
def bandW (w : List Int) (b : Nat) : List Int := (w.drop (offN b)).take (bandN b)
def levOf (c : List Int) : Int := min (Lib.bitLen (Sp.sizes c).toNat : Nat) 20
def levelsL (w : List Int) : List Int := (List.range 4).map fun b => levOf (bandW w b)
theorem bandW_len {w : List Int} (h : w.length = 16) {b : Nat} (hb : b < 4) : (bandW w b).length = bandN b := by
  unfold bandW; rw [List.length_take, List.length_drop, h]
  have := off_fits b hb; omega
theorem bandW_mem {w : List Int} {b : Nat} {x : Int} (h : x ∈ bandW w b) : x ∈ w := List.mem_of_mem_drop (List.mem_of_mem_take h)
theorem levelsL_ok (w : List Int) : LevelsOk (levelsL w) := by
  refine ⟨by simp [levelsL], fun x hx => ?_⟩
  obtain ⟨b, _, rfl⟩ := List.mem_map.1 hx
  unfold levOf; omega
theorem levelsL_get (w : List Int) {b : Nat} (hb : b < 4) : (levelsL w).getD b 0 = levOf (bandW w b) := by
  unfold levelsL; rw [List.getD_eq_getElem?_getD, List.getElem?_map, List.getElem?_range hb]; rfl
theorem sizes_nn (l : List Int) : 0 ≤ Sp.sizes l := by
  induction l with
  | nil => exact Int.le_refl _
  | cons x r ih => rw [Sp.sizes_cons]; omega
theorem sizes_le {l : List Int} {B : Int} (h : ∀ x ∈ l, -B ≤ x ∧ x ≤ B) : Sp.sizes l ≤ B * l.length := by
  induction l with
  | nil => simp [Sp.sizes]
  | cons x r ih =>
    have h1 := h x List.mem_cons_self
    have h2 := ih (fun y hy => h y (List.mem_cons_of_mem _ hy))
    rw [Sp.sizes_cons, List.length_cons, Int.natCast_add, Int.mul_add]
    omega
/-- Waves brought into their range. -/
def heldL (c : List Int) : List Int := c.map fun x => max (min x 1048576) (-1048576)
theorem heldL_bd (c : List Int) : ∀ x ∈ heldL c, -1048576 ≤ x ∧ x ≤ 1048576 := fun x hx => by
  obtain ⟨y, _, rfl⟩ := List.mem_map.1 hx
  omega
theorem heldL_len (c : List Int) : (heldL c).length = c.length := by simp [heldL]
/-- Pulses given one by one to the wave that they are most like. -/
def absAt (c : List Int) (i : Nat) : Int := max (c.getD i 0) (-(c.getD i 0))
def topV (c : List Int) (a : Int) (i : Nat) : Int := (a + absAt c i) * (a + absAt c i)
def botV (y : List Int) (q : Int) (i : Nat) : Int := q + 2 * y.getD i 0 + 1
def sbest (c y : List Int) (a q : Int) (n : Nat) : Nat := (List.range n).foldl (fun best i => if topV c a best * botV y q i < topV c a i * botV y q best then i else best) 0
structure Puls where
  y : List Int
  a : Int
  q : Int
def fpul (c : List Int) : Nat → Puls
  | 0 => ⟨List.replicate c.length 0, 0, 0⟩
  | t + 1 => ⟨(fpul c t).y.set (sbest c (fpul c t).y (fpul c t).a (fpul c t).q c.length) ((fpul c t).y.getD (sbest c (fpul c t).y (fpul c t).a (fpul c t).q c.length) 0 + 1), (fpul c t).a + absAt c (sbest c (fpul c t).y (fpul c t).a (fpul c t).q c.length), botV (fpul c t).y (fpul c t).q (sbest c (fpul c t).y (fpul c t).a (fpul c t).q c.length)⟩
def signL (c y : List Int) : List Int := (List.range c.length).map fun i => if c.getD i 0 < 0 then -(y.getD i 0) else y.getD i 0
def findL (c : List Int) (k : Nat) : List Int := signL c (fpul c k).y
theorem sbest_next (c y : List Int) (a q : Int) (n : Nat) : sbest c y a q (n + 1) = if topV c a (sbest c y a q n) * botV y q n < topV c a n * botV y q (sbest c y a q n) then n else sbest c y a q n := by
  unfold sbest; rw [List.range_succ, List.foldl_append]; rfl
theorem sbest_lt (c y : List Int) (a q : Int) {n : Nat} (h : 1 ≤ n) : sbest c y a q n < n := by
  induction n with
  | zero => omega
  | succ n ih =>
    rw [sbest_next]
    split
    · omega
    · rcases Nat.eq_zero_or_pos n with rfl | h0
      · show 0 < 0 + 1; omega
      · have := ih h0; omega
/-- What is so of pulses that were given. -/
structure PulsOk (c : List Int) (t : Nat) (p : Puls) : Prop where
  len : p.y.length = c.length
  nn : ∀ x ∈ p.y, 0 ≤ x ∧ x ≤ t
  sum : Sp.sizes p.y = t
  a0 : 0 ≤ p.a
  a1 : p.a ≤ 1048576 * t
  q0 : 0 ≤ p.q
  q1 : p.q ≤ (t : Int) * t
theorem absAt_bd {c : List Int} (hc : ∀ x ∈ c, -1048576 ≤ x ∧ x ≤ 1048576) (i : Nat) : 0 ≤ absAt c i ∧ absAt c i ≤ 1048576 := by
  unfold absAt
  rw [List.getD_eq_getElem?_getD]
  cases h : c[i]? with
  | none => simp
  | some x => have := hc x (List.mem_of_getElem? h); simp only [Option.getD_some]; omega
theorem sizes_set {l : List Int} {i : Nat} (hi : i < l.length) (h : 0 ≤ l.getD i 0) : Sp.sizes (l.set i (l.getD i 0 + 1)) = Sp.sizes l + 1 := by
  induction l generalizing i with
  | nil => simp at hi
  | cons x r ih =>
    cases i with
    | zero =>
      simp only [List.set_cons_zero, List.getD_cons_zero, Sp.sizes_cons] at h ⊢
      omega
    | succ i =>
      simp only [List.set_cons_succ, List.getD_cons_succ, Sp.sizes_cons] at h ⊢
      rw [ih (by simpa using hi) h]; omega
theorem fpul_ok {c : List Int} (hc : ∀ x ∈ c, -1048576 ≤ x ∧ x ≤ 1048576) (hn : 1 ≤ c.length) (t : Nat) : PulsOk c t (fpul c t) := by
  induction t with
  | zero =>
    refine ⟨by simp [fpul], fun x hx => ?_, ?_, by simp [fpul], by simp [fpul], by simp [fpul], by simp [fpul]⟩
    · have := (List.mem_replicate.1 hx).2; omega
    · show Sp.sizes (List.replicate c.length 0) = 0
      generalize c.length = m
      induction m with
      | zero => rfl
      | succ m ih => rw [List.replicate_succ, Sp.sizes_cons, ih]; decide
  | succ t ih =>
    obtain ⟨h1, h2, h3, h4, h5, h6, h7⟩ := ih
    obtain ⟨b, hb⟩ : ∃ b, sbest c (fpul c t).y (fpul c t).a (fpul c t).q c.length = b := ⟨_, rfl⟩
    have hlt : b < c.length := by rw [← hb]; exact sbest_lt _ _ _ _ hn
    have hab := absAt_bd hc b
    have hmem : (fpul c t).y.getD b 0 ∈ (fpul c t).y := by rw [List.getD_eq_getElem?_getD, List.getElem?_eq_getElem (by omega)]; exact List.getElem_mem _
    have hyb := h2 _ hmem
    have e : fpul c (t + 1) = ⟨(fpul c t).y.set b ((fpul c t).y.getD b 0 + 1), (fpul c t).a + absAt c b, botV (fpul c t).y (fpul c t).q b⟩ := by
      show Puls.mk _ _ _ = _
      rw [hb]
    rw [e]
    refine ⟨by simp [h1], fun x hx => ?_, ?_, by simp only; omega, ?_, ?_, ?_⟩
    · rcases List.mem_or_eq_of_mem_set hx with h | h
      · have := h2 x h; omega
      · omega
    · simp only; rw [sizes_set (by omega) hyb.1, h3]; omega
    · simp only; omega
    · simp only [botV]; omega
    · simp only [botV]
      have : ((t + 1 : Nat) : Int) * ((t + 1 : Nat) : Int) = (t : Int) * t + 2 * t + 1 := by
        rw [Int.natCast_add, Int.add_mul, Int.mul_add, Int.mul_add]; simp only [Int.natCast_one]; omega
      omega
theorem signL_len (c y : List Int) : (signL c y).length = c.length := by simp [signL]
theorem findL_len (c : List Int) (k : Nat) : (findL c k).length = c.length := signL_len _ _
theorem sizes_same {l m : List Int} (hl : l.length = m.length) (h : ∀ i, i < l.length → max (l.getD i 0) (-(l.getD i 0)) = max (m.getD i 0) (-(m.getD i 0))) : Sp.sizes l = Sp.sizes m := by
  induction l generalizing m with
  | nil => cases m with
    | nil => rfl
    | cons => simp at hl
  | cons x r ih => cases m with
    | nil => simp at hl
    | cons y s =>
      have h0 := h 0 (by simp)
      simp only [List.getD_cons_zero] at h0
      rw [Sp.sizes_cons, Sp.sizes_cons, h0, ih (by simpa using hl) (fun i hi => by have := h (i + 1) (by simpa using hi); simpa using this)]
theorem signL_get (c y : List Int) {i : Nat} (hi : i < c.length) : (signL c y).getD i 0 = if c.getD i 0 < 0 then -(y.getD i 0) else y.getD i 0 := by
  unfold signL; rw [List.getD_eq_getElem?_getD, List.getElem?_map, List.getElem?_range hi]; rfl
theorem findL_ok {c : List Int} (hc : ∀ x ∈ c, -1048576 ≤ x ∧ x ≤ 1048576) (hn : 1 ≤ c.length) (k : Nat) : Sp.sizes (findL c k) = k ∧ ∀ x ∈ findL c k, -(k : Int) ≤ x ∧ x ≤ k := by
  obtain ⟨h1, h2, h3, _⟩ := fpul_ok hc hn k
  constructor
  · rw [← h3]
    refine sizes_same (by rw [findL_len, h1]) (fun i hi => ?_)
    rw [findL_len] at hi
    unfold findL; rw [signL_get _ _ hi]
    split <;> omega
  · intro x hx
    obtain ⟨i, hi, rfl⟩ := List.mem_map.1 hx
    have hi2 := List.mem_range.1 hi
    have hm : (fpul c k).y.getD i 0 ∈ (fpul c k).y := by rw [List.getD_eq_getElem?_getD, List.getElem?_eq_getElem (by omega)]; exact List.getElem_mem _
    have := h2 _ hm
    split <;> omega
/-- A vector's number: how many stand ahead of it. -/
def vnum : List Int → Int → Int
  | [], _ => 0
  | x :: r, k => Sp.sumUp r.length k (x + k).toNat (-k) + vnum r (k - max x (-x))
theorem sumUp_split (m : Nat) (k : Int) (j i : Nat) (x : Int) : Sp.sumUp m k (j + i) x = Sp.sumUp m k j x + Sp.sumUp m k i (x + j) := by
  induction j generalizing x with
  | zero => simp [Sp.sumUp]
  | succ j ih =>
    rw [show j + 1 + i = (j + i) + 1 by omega, Sp.sumUp, Sp.sumUp, ih (x + 1)]
    rw [show x + 1 + (j : Int) = x + ((j + 1 : Nat) : Int) by omega]
    omega
theorem sumUp_nn {m : Nat} (hm : m ≤ 8) {k : Int} (hk : k ≤ 8) (j : Nat) : ∀ x : Int, 0 ≤ Sp.sumUp m k j x := by
  induction j with
  | zero => intro x; exact Int.le_refl _
  | succ j ih =>
    intro x
    have h1 := Sp.cntI_bd (n := m) (k := k - max x (-x)) hm (by omega)
    have h2 := ih (x + 1)
    rw [Sp.sumUp]; omega
theorem sumUp_whole {m : Nat} (hm : m < 8) {k : Nat} (hk : k ≤ 8) : Sp.sumUp m (k : Int) (2 * k + 1) (-(k : Int)) = Sp.cntI (m + 1) k := by
  rw [Sp.sumUp_all m hm k (by omega)]
  unfold Sp.cntI; rw [if_neg (by omega)]; simp
theorem vnum_ok (y : List Int) : y.length ≤ 8 → ∀ k : Nat, k ≤ 8 → Sp.sizes y = k → 0 ≤ vnum y k ∧ vnum y k < Sp.cntI y.length k := by
  induction y with
  | nil =>
    intro _ k _ hs
    have : k = 0 := by simp [Sp.sizes] at hs; omega
    subst this
    exact ⟨Int.le_refl _, by decide⟩
  | cons x r ih =>
    intro hl k hk hs
    rw [Sp.sizes_cons] at hs
    have hnn := sizes_nn r
    simp only [List.length_cons] at hl ⊢
    obtain ⟨q, hq⟩ : ∃ q : Nat, (k : Int) - max x (-x) = q := ⟨((k : Int) - max x (-x)).toNat, by omega⟩
    obtain ⟨h1, h2⟩ := ih (by omega) q (by omega) (by omega)
    have hw := sumUp_whole (m := r.length) (by omega) hk
    have e1 : 2 * k + 1 = (x + k).toNat + (1 + (k - x).toNat) := by omega
    rw [e1, sumUp_split, sumUp_split] at hw
    have e2 : -(k : Int) + ((x + k).toNat : Nat) = x := by omega
    rw [e2] at hw
    have h3 : Sp.sumUp r.length (k : Int) 1 x = Sp.cntI r.length q := by
      rw [Sp.sumUp, Sp.sumUp, hq]; omega
    have h4 := sumUp_nn (m := r.length) (by omega) (k := (k : Int)) (by omega) (k - x).toNat (x + (1 : Nat))
    have h5 := sumUp_nn (m := r.length) (by omega) (k := (k : Int)) (by omega) (x + k).toNat (-(k : Int))
    rw [vnum, hq]
    omega
theorem vnum_bits {y : List Int} (hl : y.length ≤ 8) {k : Nat} (hk : k ≤ 8) (hs : Sp.sizes y = k) : 0 ≤ vnum y k ∧ vnum y k < (Sp.cnt y.length k : Nat) := by
  have h := vnum_ok y hl k hk hs
  rw [Sp.cntI_nat _ hk] at h
  exact h
end Go.Proofs.YtkoljgmapclhkaaGreatDoor

namespace Go.Proofs.YtkoljgmapclhkaaGreatDoor

def levCel (was lv : List Int) (b : Nat) : Sp.Cel := Sp.lapC (lv.getD b 0 - was.getD b 0)
def levCels (was lv : List Int) (n : Nat) : List Sp.Cel := (List.range n).map (levCel was lv)
def encHead (size : Nat) (was lv : List Int) (n : Nat) : Sp.Enc := (Sp.Enc.new size).puts (levCels was lv n)
def bandN1 (w ks : List Int) (b : Nat) : Int := vnum (findL (heldL (bandW w b)) (ks.getD b 0).toNat) (ks.getD b 0)
def bandCel (w ks : List Int) (b : Nat) : List Sp.Cel := if ks.getD b 0 = 0 then [] else Sp.bitF 3 (bandN1 w ks b) (costB b (ks.getD b 0).toNat)
def bandCels (w ks : List Int) : Nat → List Sp.Cel
  | 0 => []
  | n + 1 => bandCels w ks n ++ bandCel w ks n
def roomE (size : Nat) (u : Int) : Int := max (8 * (size : Int) - 40 - u) 0
def pulE (size : Nat) (was lv : List Int) : List Int := pulses lv 33 [0, 0, 0, 0] (roomE size (encHead size was lv 4).used)
def encBands (size : Nat) (was w : List Int) (n : Nat) : Sp.Enc := (encHead size was (levelsL w) 4).puts (bandCels w (pulE size was (levelsL w)) n)
/-- The packet of waves, behind levels. -/
def packS (size : Nat) (was w : List Int) : ByteArray := Sp.fitS (encBands size was w 4).all size
theorem levCels_len (was lv : List Int) (n : Nat) : (levCels was lv n).length = n := by simp [levCels]
theorem levCels_next (was lv : List Int) (n : Nat) : levCels was lv (n + 1) = levCels was lv n ++ [levCel was lv n] := by simp [levCels, List.range_succ]
theorem levCels_take (was lv : List Int) {i n : Nat} (h : i ≤ n) : (levCels was lv n).take i = levCels was lv i := by
  unfold levCels; rw [← List.map_take, List.take_range, Nat.min_eq_left h]
theorem levD_bd {was lv : List Int} (h1 : LevelsOk was) (h2 : LevelsOk lv) {b : Nat} (hb : b < 4) : -20 ≤ lv.getD b 0 - was.getD b 0 ∧ lv.getD b 0 - was.getD b 0 ≤ 20 := by
  have a := h1.get hb
  have c := h2.get hb
  omega
theorem levCel_is {was lv : List Int} (h1 : LevelsOk was) (h2 : LevelsOk lv) {b : Nat} (hb : b < 4) : Sp.IsCel (levCel was lv b) := by
  have := levD_bd h1 h2 hb
  exact Sp.lapC_is (by omega) (by omega)
theorem levCels_cel {was lv : List Int} (h1 : LevelsOk was) (h2 : LevelsOk lv) {n : Nat} (hn : n ≤ 4) : ∀ c ∈ levCels was lv n, Sp.IsCel c := fun c hc => by
  obtain ⟨b, hb, rfl⟩ := List.mem_map.1 hc
  exact levCel_is h1 h2 (by have := List.mem_range.1 hb; omega)
theorem encHead_next (size : Nat) (was lv : List Int) (n : Nat) : encHead size was lv (n + 1) = (encHead size was lv n).put (Sp.cellOf (lv.getD n 0 - was.getD n 0)).1 (Sp.cellOf (lv.getD n 0 - was.getD n 0)).2.1 32768 := by
  unfold encHead; rw [levCels_next, Sp.Enc.puts_snoc]; rfl
theorem encHead_ok {size : Nat} {was lv : List Int} (h1 : LevelsOk was) (h2 : LevelsOk lv) {n : Nat} (hn : n ≤ 4) : (encHead size was lv n).Ok (3 * n) ∧ (encHead size was lv n).Inv ∧ (encHead size was lv n).size = size := by
  have h := Sp.Enc.puts_all (Sp.Enc.new_ok size) (Sp.Enc.new_inv size) (levCels_cel h1 h2 hn) n (by rw [levCels_len]; exact Nat.le_refl _)
  rw [levCels_take was lv (Nat.le_refl _)] at h
  rw [show (0 : Int) + 3 * (n : Int) = 3 * n by omega] at h
  exact h
theorem width_all : ∀ k < 41, (32768 : Int) ≤ (Sp.cellOf ((k : Nat) - 20 : Int)).2.1 * 2 ^ 12 := by decide +kernel
theorem width_is {v : Int} (h1 : -20 ≤ v) (h2 : v ≤ 20) : 32768 ≤ (Sp.cellOf v).2.1 * 2 ^ 12 := by
  have h := width_all (v + 20).toNat (by omega)
  rwa [show (((v + 20).toNat : Nat) : Int) - 20 = v by omega] at h
theorem new_used0 (n : Int) : (Sp.Enc.new n).used = 0 := Sp.new_used
theorem encHead_used {size : Nat} {was lv : List Int} (h1 : LevelsOk was) (h2 : LevelsOk lv) {n : Nat} (hn : n ≤ 4) : 0 ≤ (encHead size was lv n).used ∧ (encHead size was lv n).used ≤ 13 * n := by
  induction n with
  | zero => show 0 ≤ (Sp.Enc.new size).used ∧ (Sp.Enc.new size).used ≤ _; rw [new_used0]; omega
  | succ n ih =>
    obtain ⟨i1, i2⟩ := ih (by omega)
    obtain ⟨ok, inv, _⟩ := encHead_ok (size := size) h1 h2 (n := n) (by omega)
    have hd := levD_bd h1 h2 (b := n) (by omega)
    have hc : Sp.cellIs (Sp.cellOf (lv.getD n 0 - was.getD n 0)).1 (Sp.cellOf (lv.getD n 0 - was.getD n 0)).2.1 32768 := levCel_is h1 h2 (b := n) (by omega)
    have hg := Sp.put_grows ok inv hc 12 (width_is hd.1 hd.2)
    rw [encHead_next]
    omega
/-- What all bands' pulses cost. -/
def costS (ks : List Int) : Int := (costB 0 (ks.getD 0 0).toNat : Nat) + (costB 1 (ks.getD 1 0).toNat : Nat) + (costB 2 (ks.getD 2 0).toNat : Nat) + (costB 3 (ks.getD 3 0).toNat : Nat)
theorem best_pays (ls ks : List Int) (bits : Int) (n : Nat) : 0 ≤ (pbest ls ks bits n).1 → (pbest ls ks bits n).2 = (costB (pbest ls ks bits n).1.toNat (ks.getD (pbest ls ks bits n).1.toNat 0 + 1).toNat : Int) - (costB (pbest ls ks bits n).1.toNat (ks.getD (pbest ls ks bits n).1.toNat 0).toNat : Int) := by
  induction n with
  | zero => intro h; simp [pbest] at h
  | succ n ih =>
    rw [pbest_next]
    unfold pstep
    split
    · exact ih
    · split
      · intro _; simp only [Int.toNat_natCast]
      · exact ih
theorem getD_set4 {ks : List Int} {i j : Nat} {x : Int} (hl : ks.length = 4) (hi : i < 4) (hj : j < 4) : (ks.set i x).getD j 0 = if i = j then x else ks.getD j 0 := by
  rw [List.getD_eq_getElem?_getD, List.getElem?_set]
  split
  · rw [if_pos (by omega)]; rfl
  · rw [List.getD_eq_getElem?_getD]
theorem costS_set {ks : List Int} (h : PulsesOk ks) {i : Nat} (hi : i < 4) : costS (ks.set i (ks.getD i 0 + 1)) = costS ks + ((costB i (ks.getD i 0 + 1).toNat : Int) - (costB i (ks.getD i 0).toNat : Int)) := by
  unfold costS
  rw [getD_set4 h.1 hi (by decide), getD_set4 h.1 hi (by decide), getD_set4 h.1 hi (by decide), getD_set4 h.1 hi (by decide)]
  have : i = 0 ∨ i = 1 ∨ i = 2 ∨ i = 3 := by omega
  rcases this with rfl | rfl | rfl | rfl <;> simp <;> omega
/-- No more is spent than there is. -/
theorem pulses_cost (ls : List Int) (f : Nat) : ∀ (ks : List Int) (bits : Int), PulsesOk ks → 0 ≤ bits → costS (pulses ls f ks bits) ≤ costS ks + bits := by
  induction f with
  | zero => intro ks bits _ h; show costS ks ≤ _; omega
  | succ f ih =>
    intro ks bits hk h0
    have hb := best_ok ls ks bits hk 4 (by omega)
    have hp := best_pays ls ks bits 4
    rw [pulses]
    split
    · omega
    · next hn =>
      obtain ⟨p, hpe⟩ : ∃ p, pbest ls ks bits 4 = p := ⟨_, rfl⟩
      rw [hpe] at hb hp hn ⊢
      have hpay := hb.pay (by omega)
      have hi : p.1.toNat < 4 := by have := hb.hi; omega
      have hr := (hb.room (by omega)).1
      have h1 := ih (ks.set p.1.toNat (ks.getD p.1.toNat 0 + 1)) (bits - p.2) (pulsesOk_set hk hi hr) (by omega)
      rw [costS_set hk hi] at h1
      have := hp (by omega)
      omega
theorem zero4_ok : PulsesOk [0, 0, 0, 0] := ⟨rfl, fun k hk => by
  have : k = 0 ∨ k = 1 ∨ k = 2 ∨ k = 3 := by omega
  rcases this with rfl | rfl | rfl | rfl <;> decide⟩
theorem costB_zero : ∀ b < 4, costB b 0 = 0 := by decide +kernel
theorem count_two_row : ∀ b < 4, ∀ k < 9, 1 ≤ k → 2 ≤ (Sp.cntL (bandN b)).getD k 0 := by decide +kernel
theorem count_two : ∀ b < 4, ∀ k < 9, 1 ≤ k → 2 ≤ Sp.cnt (bandN b) k := fun b hb k hk h => by rw [Sp.cnt_row _ k hk]; exact count_two_row b hb k hk h
theorem costB_pos : ∀ b < 4, ∀ k < 9, 1 ≤ k → 1 ≤ costB b k := by
  intro b hb k hk h1
  unfold costB Sp.vbits
  have h := count_two b hb k hk h1
  rcases Nat.eq_zero_or_pos (Lib.bitLen (Sp.cnt (bandN b) k - 1)) with h0 | h0
  · have := Sp.bl_lt (Sp.cnt (bandN b) k - 1) (by have := Sp.cnt_bd (n := bandN b) (k := k) (bandN_bd hb) (by omega); omega)
    rw [h0] at this; omega
  · exact h0
theorem costS_zero : costS [0, 0, 0, 0] = 0 := by
  unfold costS
  rw [show ([0, 0, 0, 0] : List Int).getD 0 0 = 0 from rfl, show ([0, 0, 0, 0] : List Int).getD 1 0 = 0 from rfl, show ([0, 0, 0, 0] : List Int).getD 2 0 = 0 from rfl, show ([0, 0, 0, 0] : List Int).getD 3 0 = 0 from rfl]
  rw [Int.toNat_zero, costB_zero 0 (by decide), costB_zero 1 (by decide), costB_zero 2 (by decide), costB_zero 3 (by decide)]; rfl
theorem pulE_ok (size : Nat) (was lv : List Int) : PulsesOk (pulE size was lv) := pulses_ok _ _ _ _ zero4_ok
theorem pulE_cost (size : Nat) (was lv : List Int) : costS (pulE size was lv) ≤ roomE size (encHead size was lv 4).used := by
  have h := pulses_cost lv 33 [0, 0, 0, 0] (roomE size (encHead size was lv 4).used) zero4_ok (by unfold roomE; omega)
  rw [costS_zero, Int.zero_add] at h
  exact h
/-- Bits that are put use no more than their number, and one for each cell. -/
theorem bit_grows (f : Nat) : ∀ (x : Int) (n : Nat) {e : Sp.Enc} {b : Int}, e.Ok b → e.Inv → (e.puts (Sp.bitF f x n)).used ≤ e.used + n + f := by
  induction f with
  | zero => intro x n e b _ _; show e.used ≤ _; omega
  | succ f ih =>
    intro x n e b ok inv
    rw [Sp.bitF]
    split
    · show e.used ≤ _; omega
    · next h =>
      have hm : min n 8 ≤ 8 := by omega
      have hc := Sp.bit_cell x (min n 8) hm
      have hg := (Sp.put_grows ok inv hc (min n 8) (by omega)).2
      have hp := Sp.Enc.puts_all ok inv (l := [(x % 2 ^ min n 8, 1, 2 ^ min n 8)]) (by intro c hcm; rw [List.mem_singleton.1 hcm]; exact hc) 1 (by simp)
      have hi := ih (x / 2 ^ min n 8) (n - min n 8) hp.1 hp.2.1
      have e1 : e.puts ([(x % 2 ^ min n 8, 1, 2 ^ min n 8)].take 1) = e.put (x % 2 ^ min n 8) 1 (2 ^ min n 8) := rfl
      rw [e1] at hi
      show ((e.put (x % 2 ^ min n 8) 1 (2 ^ min n 8)).puts (Sp.bitF f (x / 2 ^ min n 8) (n - min n 8))).used ≤ _
      omega
theorem puts_app (e : Sp.Enc) (a b : List Sp.Cel) : e.puts (a ++ b) = (e.puts a).puts b := by simp [Sp.Enc.puts]
theorem puts_nil (e : Sp.Enc) : e.puts [] = e := rfl
theorem bandCel_cel (w ks : List Int) (b : Nat) : ∀ c ∈ bandCel w ks b, Sp.IsCel c := by
  unfold bandCel
  split
  · intro c h; cases h
  · exact Sp.bitF_cel _ _ _
theorem bandCel_len (w ks : List Int) (b : Nat) : (bandCel w ks b).length ≤ 3 := by
  unfold bandCel
  split
  · simp
  · exact Sp.bitF_len _ _ _
theorem bandCels_cel (w ks : List Int) (n : Nat) : ∀ c ∈ bandCels w ks n, Sp.IsCel c := by
  induction n with
  | zero => intro c h; cases h
  | succ n ih => intro c h; rcases List.mem_append.1 h with h | h; exact ih c h; exact bandCel_cel w ks n c h
theorem bandCels_len (w ks : List Int) (n : Nat) : (bandCels w ks n).length ≤ 3 * n := by
  induction n with
  | zero => simp [bandCels]
  | succ n ih => have := bandCel_len w ks n; rw [bandCels, List.length_append]; omega
theorem ext4 {a b : List Int} (ha : a.length = 4) (hb : b.length = 4) (h : ∀ i < 4, a.getD i 0 = b.getD i 0) : a = b := by
  apply List.ext_getElem (by omega)
  intro i h1 h2
  have := h i (by omega)
  simpa [List.getD_eq_getElem?_getD, List.getElem?_eq_getElem h1, List.getElem?_eq_getElem h2] using this
theorem levsS_getE {s : ByteArray} {ls : List Int} {b : Nat} (hb : b < 4) : (levsS s ls).getD b 0 = levAt s ls b := by
  unfold levsS; rw [List.getD_eq_getElem?_getD, List.getElem?_map, List.getElem?_range hb]; rfl
section
variable {size : Nat} {was w : List Int}
theorem encBands_zero : encBands size was w 0 = encHead size was (levelsL w) 4 := by unfold encBands bandCels; rw [puts_nil]
theorem encBands_next (n : Nat) : encBands size was w (n + 1) = (encBands size was w n).puts (bandCel w (pulE size was (levelsL w)) n) := by
  unfold encBands; rw [bandCels, puts_app]
theorem encBands_ok (h1 : LevelsOk was) {n : Nat} (hn : n ≤ 4) : (encBands size was w n).Ok (12 + 9 * n) ∧ (encBands size was w n).Inv ∧ (encBands size was w n).size = size := by
  obtain ⟨a, b, c⟩ := encHead_ok (size := size) h1 (levelsL_ok w) (n := 4) (by omega)
  have h := Sp.Enc.puts_all a b (bandCels_cel w (pulE size was (levelsL w)) n) _ (Nat.le_refl _)
  rw [List.take_length] at h
  have hl := bandCels_len w (pulE size was (levelsL w)) n
  unfold encBands
  obtain ⟨E, hE⟩ : ∃ E, (encHead size was (levelsL w) 4).puts (bandCels w (pulE size was (levelsL w)) n) = E := ⟨_, rfl⟩
  rw [hE] at h ⊢
  obtain ⟨m, hm⟩ : ∃ m, (bandCels w (pulE size was (levelsL w)) n).length = m := ⟨_, rfl⟩
  rw [hm] at h hl
  obtain ⟨h3, h4, h5⟩ := h
  refine ⟨?_, h4, h5.trans c⟩
  obtain ⟨q1, q2, q3, q4, q5, q6, q7, q8⟩ := h3
  exact ⟨q1, q2, q3, q4, q5, by omega, q7, by omega⟩
/-- What is used, band by band. -/
theorem encBands_used (h1 : LevelsOk was) {n : Nat} (hn : n ≤ 4) : (encBands size was w n).used ≤ (encHead size was (levelsL w) 4).used + ((List.range n).map fun b => (costB b ((pulE size was (levelsL w)).getD b 0).toNat : Int)).sum + 3 * n := by
  induction n with
  | zero => rw [encBands_zero]; simp
  | succ n ih =>
    have i := ih (by omega)
    obtain ⟨ok, inv, _⟩ := encBands_ok (size := size) (w := w) h1 (n := n) (by omega)
    rw [encBands_next, List.range_succ, List.map_append, List.sum_append]
    simp only [List.map_cons, List.map_nil, List.sum_cons, List.sum_nil]
    unfold bandCel
    split
    · rw [puts_nil]; omega
    · have := bit_grows 3 (bandN1 w (pulE size was (levelsL w)) n) (costB n ((pulE size was (levelsL w)).getD n 0).toNat) ok inv
      omega
theorem encBands_none (h : ∀ b < 4, (pulE size was (levelsL w)).getD b 0 = 0) {n : Nat} (hn : n ≤ 4) : encBands size was w n = encHead size was (levelsL w) 4 := by
  induction n with
  | zero => exact encBands_zero
  | succ n ih => rw [encBands_next, ih (by omega)]; unfold bandCel; rw [if_pos (h n (by omega)), puts_nil]
/-- The packet has room for all. -/
theorem pack_fits (h1 : LevelsOk was) (hs0 : 10 ≤ size) : (encBands size was w 4).all.length ≤ size := by
  obtain ⟨ok, inv, _⟩ := encBands_ok (size := size) (w := w) h1 (n := 4) (by omega)
  have hu := encBands_used (size := size) (w := w) h1 (n := 4) (by omega)
  have hh := encHead_used (size := size) h1 (levelsL_ok w) (n := 4) (by omega)
  have hc := pulE_cost size was (levelsL w)
  have hk := pulE_ok size was (levelsL w)
  have hsum : ((List.range 4).map fun b => (costB b ((pulE size was (levelsL w)).getD b 0).toNat : Int)).sum = costS (pulE size was (levelsL w)) := by
    unfold costS; simp [List.range_succ]; omega
  rw [hsum] at hu
  have hlen : (encBands size was w 4).used = 8 * ((encBands size was w 4).out.length : Int) + (32 - (Lib.bitLen (encBands size was w 4).rng.toNat : Int)) := by unfold Sp.Enc.used; rw [inv.gone]
  have hbl := Lib.bitLen_le (encBands size was w 4).rng.toNat 32 (by omega) (by have := ok.rng1; omega)
  rw [Sp.Enc.all_length]
  by_cases hr : roomE size (encHead size was (levelsL w) 4).used = 0
  · have hz : ∀ b < 4, (pulE size was (levelsL w)).getD b 0 = 0 := by
      intro b hb
      rcases Int.lt_or_le 0 ((pulE size was (levelsL w)).getD b 0) with h | h
      · exfalso
        have h8 := hk.2 b hb
        have hp := costB_pos b hb ((pulE size was (levelsL w)).getD b 0).toNat (by omega) (by omega)
        have h4 : b = 0 ∨ b = 1 ∨ b = 2 ∨ b = 3 := by omega
        unfold costS at hc
        rcases h4 with rfl | rfl | rfl | rfl <;> omega
      · have := (hk.2 b hb).1; omega
    rw [encBands_none hz (Nat.le_refl _)] at hlen hbl ⊢
    omega
  · have : roomE size (encHead size was (levelsL w) 4).used = 8 * (size : Int) - 40 - (encHead size was (levelsL w) 4).used := by unfold roomE at hr ⊢; omega
    omega
theorem packS_size (h1 : LevelsOk was) (hs0 : 10 ≤ size) : (packS size was w).size = size := by
  have h := pack_fits (w := w) h1 hs0
  have ht := Sp.trimZ_len (encBands size was w 4).all
  exact Sp.fitS_size (by omega)
/-- The levels are met again. -/
theorem pack_sync (h1 : LevelsOk was) (hs0 : 10 ≤ size) : Sp.Within (packS size was w) (encHead size was (levelsL w) 4) := by
  have h := pack_fits (w := w) h1 hs0
  obtain ⟨ok, inv, _⟩ := encBands_ok (size := size) (w := w) h1 (n := 4) (by omega)
  obtain ⟨ok0, inv0, _⟩ := encHead_ok (size := size) h1 (levelsL_ok w) (n := 4) (by omega)
  have hw : Sp.Within (packS size was w) (encBands size was w 4) := by
    unfold packS
    exact Sp.within_done ok (Sp.fit_begins (Sp.Enc.all_bytes inv.bytes) h)
  unfold encBands at hw
  have h2 := Sp.within_puts ok0 inv0 (bandCels_cel w (pulE size was (levelsL w)) 4) hw 0 (Nat.zero_le _)
  rw [List.take_zero, puts_nil] at h2
  exact h2
theorem lev_meet {s : ByteArray} {lv : List Int} (h1 : LevelsOk was) (h2 : LevelsOk lv) (hw : Sp.Within s (encHead size was lv 4)) : ∀ n, n ≤ 4 → decN s n = (Sp.Dec.new s).takes (levCels was lv n) ∧ ∀ b, b < n → ltakeV (decN s b) = lv.getD b 0 - was.getD b 0 := by
  intro n
  induction n with
  | zero => intro _; exact ⟨rfl, fun b hb => by omega⟩
  | succ n ih =>
    intro hn
    obtain ⟨i1, i2⟩ := ih (by omega)
    have hc : (levCels was lv 4)[n]? = some (levCel was lv n) := by unfold levCels; rw [List.getElem?_map, List.getElem?_range (by omega)]; rfl
    obtain ⟨p1, p2, _⟩ := Sp.puts_back (Sp.Enc.new_ok size) (Sp.Enc.new_inv size) (Sp.new_sync s size) (levCels_cel h1 h2 (Nat.le_refl 4)) hw hc
    rw [levCels_take was lv (by omega), ← i1] at p1 p2
    have hd := levD_bd h1 h2 (b := n) (by omega)
    have hp := Sp.Dec.place_bd (decN_ok s n) (show (1 : Int) ≤ 32768 by decide) (by decide)
    obtain ⟨a, c, hcell⟩ := Sp.cell_is (lv.getD n 0 - was.getD n 0) (by omega) (by omega)
    simp only [levCel, Sp.lapC, hcell.eq] at p1 p2
    have hv : ltakeV (decN s n) = lv.getD n 0 - was.getD n 0 := Sp.cell_hit hp.1 hp.2 hcell.eq p1 p2
    refine ⟨?_, fun b hb => ?_⟩
    · show ltakeD (decN s n) = _
      rw [levCels_next, Sp.Dec.takes_snoc, ← i1]
      unfold ltakeD; rw [hv]; rfl
    · rcases Nat.lt_or_ge b n with h | h
      · exact i2 b h
      · obtain rfl : b = n := by omega
        exact hv
theorem pack_levs (h1 : LevelsOk was) (hs0 : 10 ≤ size) : levsS (packS size was w) was = levelsL w := by
  have hw := pack_sync (w := w) h1 hs0
  obtain ⟨_, h⟩ := lev_meet h1 (levelsL_ok w) hw 4 (Nat.le_refl _)
  have hl := levelsL_ok w
  refine ext4 (levsS_ok _ _).1 hl.1 (fun i hi => ?_)
  rw [levsS_getE hi]
  unfold levAt
  rw [h i hi]
  have := hl.get hi
  omega
end
end Go.Proofs.YtkoljgmapclhkaaGreatDoor
