/- The plain law of the range coder's reference: low as a list of digits; it tells what the coder tells. -/
import Derived.Test.YtnohjidoelohkaaDoorSpecRangS
namespace Go.Proofs.YtnohjidoelohkaaDoor.Sp

/-- A number added to digits, from the j-th one (counted from 1) on ahead. -/
def addAt : Nat → Int → Int → List Int → List Int
  | 0, _, _, m => m
  | j + 1, c, a, m => addAt j ((c + m.getD j 0 + a % 256) / 256) (a / 256) (m.set j ((c + m.getD j 0 + a % 256) % 256))
theorem addAt_length : ∀ (j : Nat) (c a : Int) (m : List Int), (addAt j c a m).length = m.length
  | 0, _, _, _ => rfl
  | j + 1, c, a, m => by rw [addAt, addAt_length j]; simp
theorem addAt_bytes : ∀ (j : Nat) (c a : Int) (m : List Int), Bytes m → Bytes (addAt j c a m)
  | 0, _, _, _, h => h
  | j + 1, c, a, m, h => by rw [addAt]; exact addAt_bytes j _ _ _ (h.set j (by omega) (by omega))
theorem addAt_num (p : List Int) : ∀ (c a : Int) (q : List Int), 0 ≤ c → 0 ≤ a → Bytes p → num p + c + a < 256 ^ p.length → num (addAt p.length c a (p ++ q)) = num (p ++ q) + (c + a) * 256 ^ q.length := by
  refine snoc_ind (P := fun p => ∀ (c a : Int) (q : List Int), 0 ≤ c → 0 ≤ a → Bytes p → num p + c + a < 256 ^ p.length → num (addAt p.length c a (p ++ q)) = num (p ++ q) + (c + a) * 256 ^ q.length) ?_ ?_ p
  · intro c a q hc ha _ h
    simp [num] at h
    rw [show c = 0 from by omega, show a = 0 from by omega]
    simp [addAt]
  · intro p x ih c a q hc ha hB hlt
    have hx := hB.last
    have hp := hB.left
    rw [num_snoc, List.length_append, List.length_singleton, Int.pow_succ] at hlt
    have hget : (p ++ [x] ++ q).getD p.length 0 = x := by
      rw [List.append_assoc, List.getD_eq_getElem?_getD, List.getElem?_append_right (by omega)]; simp
    have hset : ∀ y, (p ++ [x] ++ q).set p.length y = p ++ ([y] ++ q) := by
      intro y
      rw [List.append_assoc, List.set_append_right _ _ (by omega)]; simp
    rw [List.length_append, List.length_singleton, addAt, hget, hset, ih _ _ _ (by omega) (by omega) hp (by omega), List.append_assoc]
    simp only [num_append, List.length_append, List.length_singleton]
    rw [show num [(c + x + a % 256) % 256] = (c + x + a % 256) % 256 from by simp [num], show num [x] = x from by simp [num], Nat.add_comm 1, Int.pow_succ]
    have e : (c + x + a % 256) % 256 = c + x + a - 256 * ((c + x + a % 256) / 256 + a / 256) := by omega
    rw [e]
    generalize (c + x + a % 256) / 256 + a / 256 = z
    rw [show (c + x + a - 256 * z) = (c + a) + x - 256 * z from by omega, Int.sub_mul, Int.add_mul (c + a) x]
    rw [show z * (256 ^ q.length * 256) = 256 * z * 256 ^ q.length from by rw [← Int.mul_assoc, Int.mul_comm (z * 256 ^ q.length) 256, ← Int.mul_assoc]]
    omega
/-- Lists of digits of one length that tell one number are one. -/
theorem num_inj (l : List Int) : ∀ m : List Int, Bytes l → Bytes m → l.length = m.length → num l = num m → l = m := by
  refine snoc_ind (P := fun l => ∀ m : List Int, Bytes l → Bytes m → l.length = m.length → num l = num m → l = m) ?_ ?_ l
  · intro m _ _ h _
    exact (List.length_eq_zero_iff.1 h.symm).symm
  · intro l x ih m hl hm hlen hn
    rcases List.eq_nil_or_concat m with rfl | ⟨k, y, rfl⟩
    · simp at hlen
    · rw [List.concat_eq_append] at hm hlen hn ⊢
      rw [num_snoc, num_snoc] at hn
      have h1 := hl.last
      have h2 := hm.last
      have hxy : x = y := by omega
      subst hxy
      rw [ih k hl.left hm.left (by simpa using hlen) (by omega)]

/-- The reference's coder: digits, and the range. -/
def rnorm : Nat → List Int × Int → List Int × Int
  | 0, p => p
  | k + 1, p => if p.2 < 16777216 then rnorm k (p.1 ++ [0], p.2 * 256) else p
def rput (low : List Int) (r x y t : Int) : List Int × Int := rnorm 3 (addAt low.length 0 (r / t * x) low, r / t * y)
theorem rnorm_done {p : List Int × Int} (h : 16777216 ≤ p.2) (k : Nat) : rnorm k p = p := by
  cases k with
  | zero => rfl
  | succ k => rw [rnorm, if_neg (by omega)]
theorem rnorm_step {p : List Int × Int} (h : p.2 < 16777216) (k : Nat) : rnorm (k + 1) p = rnorm k (p.1 ++ [0], p.2 * 256) := by rw [rnorm, if_pos h]
theorem step_all {e : Enc} (h0 : 0 ≤ e.low) (h1 : e.low ≤ 4294967295) (hb : Bytes e.out) : e.step.all = e.all ++ [0] := by
  have hsb : Bytes e.step.out := by
    simp only [Enc.step]
    refine hb.append ?_
    intro z hz
    obtain rfl := List.mem_singleton.1 hz
    omega
  refine num_inj _ _ (Enc.all_bytes hsb) ((Enc.all_bytes hb).append (by intro z hz; obtain rfl := List.mem_singleton.1 hz; omega)) (by simp [Enc.all, Enc.step]) ?_
  rw [Enc.all_num (by simp only [Enc.step]; omega) (by simp only [Enc.step]; omega), Enc.step_val h0 h1, num_snoc, Enc.all_num h0 h1]
  omega
theorem rnorm_all (k : Nat) : ∀ {e : Enc} {b : Int}, e.Mid b k → rnorm k (e.all, e.rng) = ((e.norm k).all, (e.norm k).rng) := by
  induction k with
  | zero => intro e b _; rfl
  | succ k ih =>
    intro e b hm
    by_cases hr : e.rng < 16777216
    · rw [rnorm_step hr, Enc.norm_step hr, ← ih (Enc.step_mid hm hr), step_all hm.low0 hm.low1 hm.bytes]
      rfl
    · rw [rnorm_done (by simp only; omega), Enc.norm_done (by omega)]
/-- What the reference puts is what the coder puts. -/
theorem rput_all {e : Enc} {b : Int} (hok : e.Ok b) (hi : e.Inv) {x y t : Int} (hc : cellIs x y t) : rput e.all e.rng x y t = ((e.put x y t).all, (e.put x y t).rng) := by
  obtain ⟨r1, r2, r3, r4, r5⟩ := Enc.raw_val hok hi hc
  have hm := Enc.raw_mid hok hc
  have hb := Enc.all_bytes hok.bytes
  have hn := Enc.all_num hok.low0 hok.low1
  obtain ⟨b1, b2, b3⟩ := step_bd hok.rng0 hok.rng1 hc.1 hc.2.1
  have m0 := mul_bd0 b1 hc.2.2.1 (by have := hc.2.2.2.2.1; omega : x ≤ t) b3
  have my := mul_bd b1 hc.2.2.2.1 (by have := hc.2.2.2.2.2; have := hc.2.2.1; omega : y ≤ t) b3
  have hx : e.rng / t * (x + y) = e.rng / t * x + e.rng / t * y := Int.mul_add _ _ _
  have hlow : addAt e.all.length 0 (e.rng / t * x) e.all = (e.raw x y t).all := by
    have h1 := addAt_num e.all 0 (e.rng / t * x) [] (by omega) m0.1 hb (by
      have := hi.top
      rw [hn, Enc.all_length]
      omega)
    rw [List.append_nil] at h1
    refine num_inj _ _ (addAt_bytes _ _ _ _ hb) (Enc.all_bytes hm.bytes) (by rw [addAt_length, Enc.all_length, Enc.all_length, r3]) ?_
    rw [h1, Enc.all_num hm.low0 hm.low1, r1, hn]
    simp
  rw [rput, hlow, show e.rng / t * y = (e.raw x y t).rng from r2.symm, rnorm_all 3 hm]
  rfl
/-- How many turns of the loop are enough. -/
def Enough (r : Int) (k : Nat) : Prop := 16777216 ≤ r * 256 ^ k
theorem Enough.pos {r : Int} {k : Nat} (h : Enough r k) (hr : r < 16777216) : ∃ j, k = j + 1 := by
  cases k with
  | zero => unfold Enough at h; simp at h; omega
  | succ j => exact ⟨j, rfl⟩
theorem Enough.step {r : Int} {k : Nat} (h : Enough r (k + 1)) : Enough (r * 256) k := by
  unfold Enough at *
  rw [Int.pow_succ, Int.mul_comm (256 ^ k), ← Int.mul_assoc] at h
  exact h
theorem Enough.three {r : Int} (h : 512 ≤ r) : Enough r 3 := by unfold Enough; omega
end Go.Proofs.YtnohjidoelohkaaDoor.Sp
