/- Plain laws of a packet decoded: what is in its bounds. -/
import Derived.Test.YtnohjidoelohkaaDoorSpecDec
namespace Go.Proofs.YtnohjidoelohkaaDoor

theorem ltakeD_ok {d : Sp.Dec} {b : Int} (h : d.Ok b) : (ltakeD d).Ok (b + 3) ∧ -24 ≤ ltakeV d ∧ ltakeV d ≤ 24 := by
  obtain ⟨v, a, c, hv, _, _, hci, hD, h1, h2⟩ := ltake_cell h
  rw [hv, hD]
  exact ⟨Sp.Dec.take_ok h hci, h1, h2⟩
theorem decN_ok (s : ByteArray) (k : Nat) : (decN s k).Ok (4 + 3 * k) := by
  induction k with
  | zero => exact Sp.Dec.new_ok s
  | succ k ih =>
    have h := (ltakeD_ok ih).1
    rw [show (4 : Int) + 3 * k + 3 = 4 + 3 * ((k + 1 : Nat) : Int) by omega] at h
    exact h
theorem levAt_bd (s : ByteArray) (ls : List Int) (b : Nat) : 0 ≤ levAt s ls b ∧ levAt s ls b ≤ 20 := by unfold levAt; omega
theorem levsS_ok (s : ByteArray) (ls : List Int) : LevelsOk (levsS s ls) := by
  refine ⟨by simp [levsS], fun x hx => ?_⟩
  obtain ⟨b, _, rfl⟩ := List.mem_map.1 hx
  exact levAt_bd s ls b
theorem used_bd {d : Sp.Dec} {b : Int} (h : d.Ok b) : 0 ≤ d.used ∧ d.used ≤ 8 * b + 32 := by
  have h1 := h.gone0
  have h2 := h.gone1
  have h3 := h.rng0
  have h4 := h.rng1
  have hb := Lib.bitLen_le d.rng.toNat 32 (by omega) (by omega)
  unfold Sp.Dec.used
  omega
theorem pulses_ok (ls : List Int) (f : Nat) : ∀ (ks : List Int) (bits : Int), PulsesOk ks → PulsesOk (pulses ls f ks bits) := by
  induction f with
  | zero => intro ks bits h; exact h
  | succ f ih =>
    intro ks bits h
    unfold pulses
    split
    · exact h
    · have hb := best_ok ls ks bits h 4 (Nat.le_refl _)
      refine ih _ _ (pulsesOk_set h (by have := hb.lo; have := hb.hi; omega) (hb.room (by omega)).1)
theorem zeros_ok : PulsesOk [0, 0, 0, 0] := ⟨rfl, by decide⟩
theorem pulS_ok (s : ByteArray) (ls : List Int) : PulsesOk (pulS s ls) := pulses_ok _ _ _ _ zeros_ok
theorem bandD_ok {d : Sp.Dec} {b : Int} (h : d.Ok b) (i k : Nat) (hi : i < 4) (hk : k ≤ 8) : (bandD d i k).Ok (b + 9) := by
  unfold bandD
  split
  · exact ⟨h.pos0, by have := h.pos1; omega, h.code0, h.code1, h.rng0, h.rng1, h.gone0, by have := h.gone1; omega⟩
  · have hv20 := Sp.vbits_bd (bandN_bd hi) hk
    have := (Sp.Dec.bitF_ok 3 (Sp.vbits (bandN i) k) 0 0 h (by omega) (by decide) (by decide)).1
    simpa using this
theorem bandV_len (d : Sp.Dec) (b lev k : Nat) : (bandV d b lev k).length = bandN b := by
  unfold bandV
  split
  · simp
  · rw [fillL_len, Sp.vec_len]
theorem sizes_mem {l : List Int} {x : Int} (h : x ∈ l) : max x (-x) ≤ Sp.sizes l := by
  induction l with
  | nil => cases h
  | cons y l ih =>
    have e : Sp.sizes (y :: l) = max y (-y) + Sp.sizes l := by
      show (y :: l).foldl (fun s x => s + max x (-x)) 0 = _
      rw [List.foldl_cons, Sp.sizes_from]; omega
    have hnn : ∀ m : List Int, 0 ≤ Sp.sizes m := by
      intro m
      induction m with
      | nil => decide
      | cons z m ihm =>
        have e2 : Sp.sizes (z :: m) = max z (-z) + Sp.sizes m := by
          show (z :: m).foldl (fun s x => s + max x (-x)) 0 = _
          rw [List.foldl_cons, Sp.sizes_from]; omega
        rw [e2]; omega
    have := hnn l
    rw [e]
    rcases List.mem_cons.1 h with rfl | h
    · omega
    · have := ih h; omega
theorem tdiv_within (a m A : Int) (hm : 0 < m) (h0 : -(A * m) ≤ a) (h1 : a ≤ A * m) : -A ≤ a.tdiv m ∧ a.tdiv m ≤ A := by
  rcases Int.le_total 0 a with h | h
  · rw [Int.tdiv_eq_ediv_of_nonneg h]
    have := Int.ediv_nonneg h (by omega : 0 ≤ m)
    have h2 : a / m ≤ A := Int.ediv_le_of_le_mul hm h1
    have h3 : 0 ≤ A := by
      rcases Int.lt_or_le A 0 with h4 | h4
      · have := Int.mul_neg_of_neg_of_pos h4 hm; omega
      · exact h4
    omega
  · have e : a.tdiv m = -((-a) / m) := by
      have h2 := Int.neg_tdiv (-a) m
      rw [Int.neg_neg] at h2
      rw [h2, Int.tdiv_eq_ediv_of_nonneg (by omega)]
    have := Int.ediv_nonneg (by omega : 0 ≤ -a) (by omega : 0 ≤ m)
    have h2 : (-a) / m ≤ A := Int.ediv_le_of_le_mul hm (by omega)
    have h3 : 0 ≤ A := by
      rcases Int.lt_or_le A 0 with h4 | h4
      · have := Int.mul_neg_of_neg_of_pos h4 hm; omega
      · exact h4
    rw [e]; omega
theorem fill_bd {lev : Nat} (hlev : lev ≤ 20) {l : List Int} (hl : ∀ x ∈ l, -8 ≤ x ∧ x ≤ 8) : ∀ y ∈ fillL lev l, -1048576 ≤ y ∧ y ≤ 1048576 := by
  intro y hy
  unfold fillL at hy
  split at hy
  · have := List.eq_of_mem_replicate hy; omega
  · rename_i hno
    obtain ⟨x, hx, rfl⟩ := List.mem_map.1 hy
    have hp : (2 : Int) ^ lev ≤ 2 ^ 20 := by exact_mod_cast (Nat.pow_le_pow_right (by omega) hlev)
    have hp0 : (0 : Int) < 2 ^ lev := by exact_mod_cast Nat.two_pow_pos lev
    have hm := sizes_mem hx
    have h8 := hl x hx
    simp only [not_or] at hno
    obtain ⟨K, hK⟩ : ∃ K, Sp.sizes l = K := ⟨_, rfl⟩
    obtain ⟨p, hpe⟩ : ∃ p : Int, 2 ^ lev = p := ⟨_, rfl⟩
    rw [hK] at hm hno ⊢
    rw [hpe] at hp hp0 ⊢
    have hK0 : 0 < K := by omega
    have b1 : K * p ≤ K * 1048576 := Int.mul_le_mul_of_nonneg_left hp (by omega)
    have b2 : x * p ≤ K * p := Int.mul_le_mul_of_nonneg_right (by omega) (by omega)
    have b3 : (-x) * p ≤ K * p := Int.mul_le_mul_of_nonneg_right (by omega) (by omega)
    rw [Int.neg_mul] at b3
    have e : x * 3 * p = 3 * (x * p) := by rw [Int.mul_comm x 3, Int.mul_assoc]
    exact tdiv_within _ _ 1048576 (by omega) (by rw [e]; omega) (by rw [e]; omega)
theorem bandV_bd {d : Sp.Dec} {c : Int} (hd : d.Ok c) {b lev k : Nat} (hb : b < 4) (hlev : lev ≤ 20) (hk : k ≤ 8) : ∀ y ∈ bandV d b lev k, -1048576 ≤ y ∧ y ≤ 1048576 := by
  unfold bandV
  split
  · intro y hy
    have := List.eq_of_mem_replicate hy
    omega
  · have hn8 := bandN_bd hb
    have hcp : 1 ≤ Sp.cnt (bandN b) k := by rw [Sp.cnt_row _ k (by omega)]; exact cnt_pos b hb k (by omega)
    obtain ⟨z, hz⟩ : ∃ z, (Sp.Dec.bitF 3 d (Sp.vbits (bandN b) k) 0 0).1 = z := ⟨_, rfl⟩
    rw [hz]
    obtain ⟨q, hq⟩ : ∃ q, Sp.cnt (bandN b) k = q := ⟨_, rfl⟩
    have hm0 := Int.emod_nonneg z (show ((Sp.cnt (bandN b) k : Nat) : Int) ≠ 0 by omega)
    have hm1 := Int.emod_lt_of_pos z (show (0 : Int) < ((Sp.cnt (bandN b) k : Nat) : Int) by omega)
    exact fill_bd hlev (Sp.vec_ok (bandN b) hn8 k _ hk hm0 (by rw [Sp.cntI_nat _ hk]; exact hm1)).2
structure BandsOk (p : Sp.Dec × List Int) (c : Int) : Prop where
  dec : p.1.Ok c
  len : p.2.length = 16
  bd : ∀ y ∈ p.2, -1048576 ≤ y ∧ y ≤ 1048576
theorem putL_mem {l : List Int} {o : Nat} {c : List Int} {y : Int} (h : y ∈ putL l o c) : y ∈ l ∨ y ∈ c := by
  unfold putL at h
  rcases List.mem_append.1 h with h | h
  · rcases List.mem_append.1 h with h | h
    · exact .inl (List.mem_of_mem_take h)
    · exact .inr h
  · exact .inl (List.mem_of_mem_drop h)
theorem off_fits : ∀ b < 4, offN b + bandN b ≤ 16 := by decide
theorem bandsS_ok {d : Sp.Dec} {c : Int} (hd : d.Ok c) {ls ks : List Int} (hl : LevelsOk ls) (hk : PulsesOk ks) (b : Nat) (hb : b ≤ 4) : BandsOk (bandsS d ls ks b) (c + 9 * b) := by
  induction b with
  | zero => exact ⟨by simpa [bandsS] using hd, by simp [bandsS], fun y hy => by have := List.eq_of_mem_replicate (show y ∈ List.replicate 16 0 from hy); omega⟩
  | succ b ih =>
    have h := ih (by omega)
    have h8 := hk.2 b (by omega)
    have h20 := hl.get (show b < 4 by omega)
    refine ⟨?_, ?_, ?_⟩
    · have h2 := bandD_ok h.dec b (ks.getD b 0).toNat (by omega) (by omega)
      rw [show c + 9 * (b : Int) + 9 = c + 9 * ((b + 1 : Nat) : Int) by omega] at h2
      exact h2
    · show (putL _ _ _).length = 16
      rw [putL_len (by rw [bandV_len, h.len]; exact off_fits b (by omega)), h.len]
    · intro y hy
      rcases putL_mem hy with h3 | h3
      · exact h.bd y h3
      · exact bandV_bd h.dec (by omega) (by omega) (by omega) y h3
theorem wavS_ok (s : ByteArray) (ls : List Int) : (wavS s ls).length = 16 ∧ (wavS s ls).any wideP = false := by
  have h := bandsS_ok (decN_ok s 4) (levsS_ok s ls) (pulS_ok s ls) 4 (Nat.le_refl _)
  refine ⟨h.len, ?_⟩
  rw [List.any_eq_false]
  intro x hx
  have := h.bd x hx
  simp [wideP]
  omega
/-- Levels alone make a state right. -/
theorem right_levels (ls : List Int) (h : ls.length = 4) : rightS (mkSt ls (List.replicate 16 0) 0) = ls.all levP := by
  match ls, h with
  | [a, b, c, d], _ =>
    have e1 : memL (mkSt [a, b, c, d] (List.replicate 16 0) 0) = List.replicate 16 0 := rfl
    have e2 : levL (mkSt [a, b, c, d] (List.replicate 16 0) 0) = [a, b, c, d] := rfl
    have e3 : lastL (mkSt [a, b, c, d] (List.replicate 16 0) 0) = 0 := rfl
    have e4 : wavL (mkSt [a, b, c, d] (List.replicate 16 0) 0) = List.replicate 16 0 := rfl
    have e5 : lostL (mkSt [a, b, c, d] (List.replicate 16 0) 0) = 0 := rfl
    unfold rightS
    rw [e1, e2, e3, e4, e5]
    have f1 : (List.replicate 16 (0 : Int)).all fitP = true := by decide
    have f2 : (List.replicate 16 (0 : Int)).any wideP = false := by decide
    have f3 : (Sp.cut 22 0 == 0) = true := by decide
    rw [f1, f2, f3]
    simp
end Go.Proofs.YtnohjidoelohkaaDoor
