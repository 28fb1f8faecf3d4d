/- The plain law of the range coder: what is put is met again. -/
import Derived.Test.YtnohjidoelohkaaDoorSpecRangE
namespace Go.Proofs.YtnohjidoelohkaaDoor.Sp

/-- The number that bytes tell, the first one the greatest. -/
def num (l : List Int) : Int := l.foldl (fun a x => a * 256 + x) 0
theorem num_from (l : List Int) : ∀ a : Int, l.foldl (fun a x => a * 256 + x) a = a * 256 ^ l.length + num l := by
  induction l with
  | nil => intro a; simp [num]
  | cons x l ih =>
    intro a
    simp only [num, List.foldl_cons, List.length_cons]
    rw [ih, ih (0 * 256 + x), Int.pow_succ, Int.add_mul, Int.mul_assoc, Int.mul_comm 256]
    simp only [Int.zero_mul, Int.zero_add]
    omega
theorem num_append (l m : List Int) : num (l ++ m) = num l * 256 ^ m.length + num m := by
  rw [num, List.foldl_append, num_from]; rfl
theorem num_snoc (l : List Int) (x : Int) : num (l ++ [x]) = num l * 256 + x := by
  rw [num_append]; simp [num]
theorem num_nil : num [] = 0 := rfl
theorem pow_pos' (n : Nat) : (0 : Int) < 256 ^ n := Int.pow_pos (by omega)
theorem snoc_ind {P : List Int → Prop} (h0 : P []) (hs : ∀ l x, P l → P (l ++ [x])) : ∀ l, P l := by
  intro l
  have : ∀ n, ∀ l : List Int, l.length = n → P l := by
    intro n
    induction n with
    | zero => intro l hl; rw [List.length_eq_zero_iff.1 hl]; exact h0
    | succ n ih =>
      intro l hl
      rcases List.eq_nil_or_concat l with rfl | ⟨m, x, rfl⟩
      · simp at hl
      · rw [List.concat_eq_append] at hl ⊢
        exact hs m x (ih m (by simpa using hl))
  exact this _ l rfl
theorem Bytes.left {l m : List Int} (h : Bytes (l ++ m)) : Bytes l := fun x hx => h x (List.mem_append_left _ hx)
theorem Bytes.last {l : List Int} {x : Int} (h : Bytes (l ++ [x])) : 0 ≤ x ∧ x ≤ 255 := h x (List.mem_append_right _ (List.mem_singleton.2 rfl))
theorem num_bd (l : List Int) : Bytes l → 0 ≤ num l ∧ num l < 256 ^ l.length := by
  refine snoc_ind (P := fun l => Bytes l → 0 ≤ num l ∧ num l < 256 ^ l.length) (fun _ => by simp [num]) (fun l x ih h => ?_) l
  have h1 := ih h.left
  have h2 := h.last
  rw [num_snoc, List.length_append, List.length_singleton, Int.pow_succ]
  omega

theorem carryAt_num (a : List Int) : ∀ b : List Int, Bytes a → num a + 1 < 256 ^ a.length → num (carryAt a.length (a ++ b)) = num (a ++ b) + 256 ^ b.length := by
  refine snoc_ind (P := fun a => ∀ b : List Int, Bytes a → num a + 1 < 256 ^ a.length → num (carryAt a.length (a ++ b)) = num (a ++ b) + 256 ^ b.length) ?_ ?_ a
  · intro b _ h; simp [num] at h
  · intro a x ih b hB hlt
    have hx := hB.last
    have ha := hB.left
    rw [num_snoc, List.length_append, List.length_singleton, Int.pow_succ] at hlt
    rw [List.length_append, List.length_singleton, carryAt]
    have hget : (a ++ [x] ++ b).getD a.length 0 = x := by
      rw [List.append_assoc, List.getD_eq_getElem?_getD, List.getElem?_append_right (by omega)]; simp
    have hset : ∀ y, (a ++ [x] ++ b).set a.length y = a ++ ([y] ++ b) := by
      intro y
      rw [List.append_assoc, List.set_append_right _ _ (by omega)]; simp
    simp only [hget, hset]
    have hp := pow_pos' b.length
    split
    · rename_i h0
      obtain rfl : x = 255 := by omega
      rw [ih ([_] ++ b) ha (by omega), List.append_assoc]
      simp only [num_append, List.length_append, List.length_singleton, Nat.add_comm 1]
      rw [show num [((255 : Int) + 1) % 256] = 0 from rfl, show num [(255 : Int)] = 255 from rfl, Int.pow_succ]
      omega
    · rename_i h0
      rw [show (x + 1) % 256 = x + 1 from by omega, List.append_assoc]
      simp only [num_append, List.length_append, List.length_singleton]
      rw [show num [x + 1] = x + 1 from by simp [num], show num [x] = x from by simp [num], Int.add_mul]
      omega

def Enc.val (e : Enc) : Int := num e.out * 4294967296 + e.low
/-- An encoder's number, and its range, lie in as many digits as it has gone. -/
structure Enc.Inv (e : Enc) : Prop where
  gone : e.gone = e.out.length
  bytes : Bytes e.out
  low0 : 0 ≤ e.low
  top : e.val + e.rng ≤ 256 ^ (e.out.length + 4)
theorem pow4 (n : Nat) : (256 : Int) ^ (n + 4) = 256 ^ n * 4294967296 := by rw [Int.pow_add]; rfl
theorem Enc.settle_val {e : Enc} (hb : Bytes e.out) (h0 : 0 ≤ e.low) (h1 : e.low ≤ 8589934591) (ht : e.val < 256 ^ (e.out.length + 4)) : e.settle.val = e.val := by
  unfold Enc.settle
  split
  · rename_i h
    have hn := (num_bd e.out hb).1
    have : num e.out + 1 < 256 ^ e.out.length := by
      rw [pow4] at ht
      unfold Enc.val at ht
      omega
    have hc := carryAt_num e.out [] hb this
    simp only [List.append_nil, List.length_nil, Int.pow_zero] at hc
    simp only [Enc.val, carryL, hc]
    omega
  · rfl
theorem Enc.step_val {e : Enc} (h0 : 0 ≤ e.low) (h1 : e.low ≤ 4294967295) : e.step.val = e.val * 256 := by
  simp only [Enc.step, Enc.val, num_snoc]
  omega
/-- What a decoder has read of a text: the number of its first k bytes. -/
def told (s : ByteArray) : Nat → Int
  | 0 => 0
  | k + 1 => told s k * 256 + byteAt s k
theorem told_bd (s : ByteArray) (k : Nat) : 0 ≤ told s k ∧ told s k < 256 ^ k := by
  induction k with
  | zero => simp [told]
  | succ k ih => have := byteAt_bd s k; simp only [told]; rw [Int.pow_succ]; omega
theorem told_from (s : ByteArray) (k d : Nat) : told s k * 256 ^ d ≤ told s (k + d) ∧ told s (k + d) < (told s k + 1) * 256 ^ d := by
  induction d with
  | zero => simp; omega
  | succ d ih =>
    have := byteAt_bd s ((k + d : Nat) : Int)
    rw [← Nat.add_assoc, told, Int.pow_succ, ← Int.mul_assoc, ← Int.mul_assoc]
    omega

theorem Enc.norm_val (k : Nat) : ∀ {e : Enc} {b : Int}, e.Mid b k → e.gone = e.out.length → ∃ d : Nat, (e.norm k).val = e.val * 256 ^ d ∧ (e.norm k).rng = e.rng * 256 ^ d ∧ (e.norm k).out.length = e.out.length + d ∧ (e.norm k).gone = (e.norm k).out.length := by
  induction k with
  | zero => intro e b _ hg; exact ⟨0, by simp [Enc.norm], by simp [Enc.norm], by simp [Enc.norm], hg⟩
  | succ k ih =>
    intro e b hm hg
    by_cases hr : e.rng < 16777216
    · rw [Enc.norm_step hr]
      obtain ⟨d, h1, h2, h3, h4⟩ := ih (Enc.step_mid hm hr) (by simp only [Enc.step, List.length_append, List.length_singleton]; omega)
      refine ⟨d + 1, ?_, ?_, ?_, h4⟩
      · rw [h1, Enc.step_val hm.low0 hm.low1, Int.pow_succ, Int.mul_assoc, Int.mul_comm 256]
      · rw [h2, Int.pow_succ, Int.mul_comm (256 ^ d), ← Int.mul_assoc]; rfl
      · rw [h3]; simp only [Enc.step, List.length_append, List.length_singleton]; omega
    · rw [Enc.norm_done (by omega)]
      exact ⟨0, by simp, by simp, by simp, hg⟩
theorem Enc.raw_val {e : Enc} {b : Int} (h : e.Ok b) (hi : e.Inv) {x y t : Int} (hc : cellIs x y t) :
    (e.raw x y t).val = e.val + e.rng / t * x ∧ (e.raw x y t).rng = e.rng / t * y ∧ (e.raw x y t).out.length = e.out.length ∧ (e.raw x y t).gone = e.gone ∧ e.rng / t * (x + y) ≤ e.rng := by
  obtain ⟨a1, a2, a3, a4, a5, a6, a7, a8⟩ := h
  obtain ⟨c1, c2, c3, c4, c5, c6⟩ := hc
  obtain ⟨b1, b2, b3⟩ := step_bd a3 a4 c1 c2
  have m0 := mul_bd0 b1 c3 (by omega : x ≤ t) b3
  have m1 := mul_bd0 b1 (by omega : 0 ≤ x + y) (by omega : x + y ≤ t) b3
  have my := mul_bd b1 c4 (by omega : y ≤ t) b3
  have hn := Enc.settle_len { e with low := e.low + e.rng / t * x }
  have hg := Enc.settle_gone { e with low := e.low + e.rng / t * x }
  have hv := Enc.settle_val (e := { e with low := e.low + e.rng / t * x }) a5 (by simp only; omega) (by simp only; omega) (by
    have := hi.top
    simp only [Enc.val] at this ⊢
    rw [Int.mul_add] at m1
    omega)
  refine ⟨?_, rfl, hn, hg, m1.2⟩
  have : (e.raw x y t).val = ({ e with low := e.low + e.rng / t * x } : Enc).settle.val := rfl
  rw [this, hv]
  simp only [Enc.val]
  omega
/-- What a cell that is put makes of the number and the range. -/
theorem Enc.put_val {e : Enc} {b : Int} (h : e.Ok b) (hi : e.Inv) {x y t : Int} (hc : cellIs x y t) :
    ∃ d : Nat, (e.put x y t).val = (e.val + e.rng / t * x) * 256 ^ d ∧ (e.put x y t).rng = e.rng / t * y * 256 ^ d ∧ (e.put x y t).out.length = e.out.length + d ∧ (e.put x y t).Inv := by
  obtain ⟨r1, r2, r3, r4, r5⟩ := Enc.raw_val h hi hc
  obtain ⟨d, h1, h2, h3, h4⟩ := Enc.norm_val 3 (Enc.raw_mid h hc) (by rw [r3, r4]; exact hi.gone)
  rw [r1] at h1
  rw [r2] at h2
  rw [r3] at h3
  have hok := Enc.put_ok h hc
  refine ⟨d, h1, h2, h3, ⟨h4, hok.bytes, hok.low0, ?_⟩⟩
  have e1 : (e.put x y t).val + (e.put x y t).rng = (e.val + e.rng / t * (x + y)) * 256 ^ d := by
    have : (e.put x y t).val = (e.val + e.rng / t * x) * 256 ^ d := h1
    have k2 : (e.put x y t).rng = e.rng / t * y * 256 ^ d := h2
    rw [this, k2, ← Int.add_mul, Int.mul_add]
    congr 1; omega
  have h3' : (e.put x y t).out.length = e.out.length + d := h3
  rw [e1, h3', show e.out.length + d + 4 = e.out.length + 4 + d from by omega, Int.pow_add]
  exact Int.mul_le_mul_of_nonneg_right (by have := hi.top; omega) (Int.le_of_lt (pow_pos' d))
theorem Enc.new_inv (n : Int) : (Enc.new n).Inv := ⟨by simp [Enc.new], by intro x hx; simp [Enc.new] at hx, by simp [Enc.new], by simp [Enc.new, Enc.val, num]⟩
end Go.Proofs.YtnohjidoelohkaaDoor.Sp
