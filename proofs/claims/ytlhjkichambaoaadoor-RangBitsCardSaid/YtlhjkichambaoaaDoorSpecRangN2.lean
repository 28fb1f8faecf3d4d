/- The plain law of many numbers put in bits, one behind the other. -/
import Derived.Test.YtlhjkichambaoaaDoorSpecRangN
namespace Go.Proofs.YtlhjkichambaoaaDoor.Sp

def cntN (K : List Int) (i : Nat) : Nat := (K.getD i 0 % 25).toNat
def numN (L K : List Int) (i : Nat) : Int := L.getD i 0 % 2 ^ cntN K i
theorem cntN_le (K : List Int) (i : Nat) : cntN K i ≤ 24 := by unfold cntN; omega
theorem numN_bd (L K : List Int) (i : Nat) : 0 ≤ numN L K i ∧ numN L K i < 2 ^ cntN K i := by
  have h3 : (0 : Int) < 2 ^ cntN K i := Int.pow_pos (by omega)
  exact ⟨Int.emod_nonneg _ (by omega), Int.emod_lt_of_pos _ h3⟩
/-- The cells of the first i numbers. -/
def bitAll (L K : List Int) : Nat → List Cel
  | 0 => []
  | i + 1 => bitAll L K i ++ bitF 3 (numN L K i) (cntN K i)
theorem bitAll_cel (L K : List Int) (i : Nat) : ∀ c ∈ bitAll L K i, IsCel c := by
  induction i with
  | zero => intro c hc; cases hc
  | succ i ih =>
    intro c hc
    rcases List.mem_append.1 hc with h | h
    · exact ih c h
    · exact bitF_cel _ _ _ c h
theorem bitAll_len (L K : List Int) (i : Nat) : (bitAll L K i).length ≤ 3 * i := by
  induction i with
  | zero => exact Nat.le_refl _
  | succ i ih =>
    have := bitF_len 3 (numN L K i) (cntN K i)
    simp only [bitAll, List.length_append]; omega
theorem Enc.Ok.mono' {e : Enc} {b c : Int} (h : e.Ok b) (hbc : b ≤ c) : e.Ok c := by
  obtain ⟨h1, h2, h3, h4, h5, h6, h7, h8⟩ := h
  exact ⟨h1, h2, h3, h4, h5, by omega, h7, by omega⟩
theorem Dec.Ok.mono' {d : Dec} {b c : Int} (h : d.Ok b) (hbc : b ≤ c) : d.Ok c := by
  obtain ⟨h1, h2, h3, h4, h5, h6, h7, h8⟩ := h
  exact ⟨h1, by omega, h3, h4, h5, h6, h7, by omega⟩
def bitE (L K : List Int) (i : Nat) : Enc := (Enc.new 1000).puts (bitAll L K i)
def bitD (s : ByteArray) (L K : List Int) (i : Nat) : Dec := (Dec.new s).takes (bitAll L K i)
theorem bitE_next (L K : List Int) (i : Nat) : bitE L K (i + 1) = (bitE L K i).puts (bitF 3 (numN L K i) (cntN K i)) := by
  unfold bitE; rw [bitAll, Enc.puts_append]
theorem bitD_next (s : ByteArray) (L K : List Int) (i : Nat) : bitD s L K (i + 1) = (bitD s L K i).takes (bitF 3 (numN L K i) (cntN K i)) := by
  unfold bitD; rw [bitAll, Dec.takes_append]
theorem bitE_ok (L K : List Int) (i : Nat) : (bitE L K i).Ok (9 * i) ∧ (bitE L K i).Inv ∧ (bitE L K i).size = 1000 := by
  have h := Enc.puts_all (Enc.new_ok 1000) (Enc.new_inv 1000) (bitAll_cel L K i) (bitAll L K i).length (Nat.le_refl _)
  rw [List.take_length] at h
  have := bitAll_len L K i
  exact ⟨h.1.mono' (by omega), h.2.1, h.2.2⟩
theorem bitE_within {s : ByteArray} {L K : List Int} {i : Nat} (h : Within s (bitE L K (i + 1))) : Within s (bitE L K i) := by
  rw [bitE_next] at h
  obtain ⟨h1, h2, _⟩ := bitE_ok L K i
  have h3 := within_puts h1 h2 (bitF_cel 3 (numN L K i) (cntN K i)) h 0 (Nat.zero_le _)
  simpa [Enc.puts] using h3
theorem bitE_withins {s : ByteArray} {L K : List Int} (j : Nat) : ∀ i, Within s (bitE L K (i + j)) → Within s (bitE L K i) := by
  induction j with
  | zero => intro i h; exact h
  | succ j ih => intro i h; exact ih i (bitE_within (by rw [show i + j + 1 = i + (j + 1) from by omega]; exact h))
theorem bit_sync {s : ByteArray} {L K : List Int} {N : Nat} (hw : Within s (bitE L K N)) : ∀ i, i ≤ N → Sync s (bitE L K i) (bitD s L K i) := by
  intro i
  induction i with
  | zero => intro _; exact new_sync s 1000
  | succ i ih =>
    intro hi
    obtain ⟨h1, h2, _⟩ := bitE_ok L K i
    have hw1 := bitE_withins (N - (i + 1)) (i + 1) (by rw [Nat.add_sub_cancel' hi]; exact hw)
    rw [bitE_next] at hw1
    have h3 := sync_takes h1 h2 (ih (by omega)) (bitF_cel 3 (numN L K i) (cntN K i)) hw1 _ (Nat.le_refl _)
    rw [List.take_length, ← bitE_next, ← bitD_next] at h3
    exact h3
/-- Each number is met again. -/
theorem bit_meet {s : ByteArray} {L K : List Int} {N : Nat} (hw : Within s (bitE L K N)) (i : Nat) (hi : i < N) :
    Dec.bitF 3 (bitD s L K i) (cntN K i) 0 0 = (numN L K i, bitD s L K (i + 1)) := by
  obtain ⟨h1, h2, _⟩ := bitE_ok L K i
  have hw1 := bitE_withins (N - (i + 1)) (i + 1) (by rw [Nat.add_sub_cancel' hi]; exact hw)
  rw [bitE_next] at hw1
  have hn := numN_bd L K i
  have hc := cntN_le K i
  have h := bits_back 3 (numN L K i) (cntN K i) 0 0 h1 h2 (bit_sync hw i (by omega)) (by omega) hn.1 hn.2 hw1
  rw [h, bitD_next]
  simp
theorem bit_used {s : ByteArray} {L K : List Int} {N : Nat} (hw : Within s (bitE L K N)) : (bitD s L K N).used = (bitE L K N).used := by
  have h := bit_sync hw N (Nat.le_refl _)
  unfold Dec.used Enc.used
  rw [h.rng, h.gone]
theorem bitD_ok (s : ByteArray) (L K : List Int) (i : Nat) : (bitD s L K i).Ok (4 + 9 * i) := by
  have key : ∀ (l : List Cel) (d : Dec) (b : Int), (∀ c ∈ l, IsCel c) → d.Ok b → (d.takes l).Ok (b + 3 * l.length) := by
    intro l
    induction l with
    | nil => intro d b _ h; simpa [Dec.takes] using h
    | cons c l ih =>
      intro d b hc h
      rw [Dec.takes_cons]
      have h2 := ih _ _ (fun x hx => hc x (List.mem_cons_of_mem _ hx)) (Dec.take_ok h (hc c List.mem_cons_self))
      rw [show b + 3 + 3 * (l.length : Int) = b + 3 * ((c :: l).length : Int) from by simp only [List.length_cons]; omega] at h2
      exact h2
  have := bitAll_len L K i
  exact (key _ _ _ (bitAll_cel L K i) (Dec.new_ok s)).mono' (by omega)
/-- The bytes tell the digits. -/
theorem bit_within (L K : List Int) (N : Nat) (hN : N ≤ 100) : Within (fitS (bitE L K N).all 1000) (bitE L K N) := by
  obtain ⟨h1, h2, _⟩ := bitE_ok L K N
  have hl : (bitE L K N).all.length ≤ 1000 := by rw [Enc.all_length]; have := h1.len; omega
  exact within_done h1 (fit_begins (Enc.all_bytes h1.bytes) hl)
end Go.Proofs.YtlhjkichambaoaaDoor.Sp
