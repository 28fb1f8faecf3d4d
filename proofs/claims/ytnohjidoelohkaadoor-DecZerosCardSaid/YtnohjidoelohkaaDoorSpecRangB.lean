/- The plain law of a list of cells: what was put is met again. -/
import Derived.Test.YtnohjidoelohkaaDoorSpecRangT
namespace Go.Proofs.YtnohjidoelohkaaDoor.Sp

abbrev Cel := Int × Int × Int
def IsCel (c : Cel) : Prop := cellIs c.1 c.2.1 c.2.2
def Enc.puts (e : Enc) (l : List Cel) : Enc := l.foldl (fun e c => e.put c.1 c.2.1 c.2.2) e
def Dec.takes (d : Dec) (l : List Cel) : Dec := l.foldl (fun d c => d.take c.1 c.2.1 c.2.2) d
theorem Enc.puts_snoc (e : Enc) (l : List Cel) (c : Cel) : e.puts (l ++ [c]) = (e.puts l).put c.1 c.2.1 c.2.2 := by simp [Enc.puts]
theorem Dec.takes_snoc (d : Dec) (l : List Cel) (c : Cel) : d.takes (l ++ [c]) = (d.takes l).take c.1 c.2.1 c.2.2 := by simp [Dec.takes]
theorem Enc.puts_next {e : Enc} {l : List Cel} {k : Nat} {c : Cel} (h : l[k]? = some c) : e.puts (l.take (k + 1)) = (e.puts (l.take k)).put c.1 c.2.1 c.2.2 := by
  rw [List.take_add_one, h, Option.toList_some, Enc.puts_snoc]
theorem Dec.takes_next {d : Dec} {l : List Cel} {k : Nat} {c : Cel} (h : l[k]? = some c) : d.takes (l.take (k + 1)) = (d.takes (l.take k)).take c.1 c.2.1 c.2.2 := by
  rw [List.take_add_one, h, Option.toList_some, Dec.takes_snoc]
theorem Enc.norm_size (k : Nat) : ∀ e : Enc, (e.norm k).size = e.size := by
  induction k with
  | zero => intro e; rfl
  | succ k ih => intro e; rw [Enc.norm]; split; rw [ih]; rfl; rfl
theorem Enc.put_size (e : Enc) (x y t : Int) : (e.put x y t).size = e.size := by
  unfold Enc.put; rw [Enc.norm_size]; unfold Enc.raw; simp only; rw [Enc.settle_size]
theorem Enc.puts_all {e : Enc} {b : Int} (hok : e.Ok b) (hi : e.Inv) {l : List Cel} (hl : ∀ c ∈ l, IsCel c) : ∀ k, k ≤ l.length → (e.puts (l.take k)).Ok (b + 3 * k) ∧ (e.puts (l.take k)).Inv ∧ (e.puts (l.take k)).size = e.size := by
  intro k
  induction k with
  | zero => intro _; simpa [Enc.puts] using ⟨hok, hi⟩
  | succ k ih =>
    intro hk
    obtain ⟨h1, h2, h3⟩ := ih (by omega)
    have hc : l[k]? = some l[k] := List.getElem?_eq_getElem (by omega)
    rw [Enc.puts_next hc]
    have hcel := hl _ (List.getElem_mem (show k < l.length by omega))
    obtain ⟨_, _, _, _, h4⟩ := Enc.put_val h1 h2 hcel
    refine ⟨?_, h4, by rw [Enc.put_size, h3]⟩
    have h5 := Enc.put_ok h1 hcel
    rw [show b + 3 * (k : Int) + 3 = b + 3 * ((k + 1 : Nat) : Int) from by omega] at h5
    exact h5
theorem within_puts {s : ByteArray} {e : Enc} {b : Int} (hok : e.Ok b) (hi : e.Inv) {l : List Cel} (hl : ∀ c ∈ l, IsCel c) (hw : Within s (e.puts l)) : ∀ k, k ≤ l.length → Within s (e.puts (l.take k)) := by
  intro k hk
  obtain ⟨j, hj⟩ : ∃ j, l.length = k + j := ⟨l.length - k, by omega⟩
  induction j generalizing k with
  | zero => rw [List.take_of_length_le (by omega)]; exact hw
  | succ j ih =>
    have h1 := ih (k + 1) (by omega) (by omega)
    have hc : l[k]? = some l[k] := List.getElem?_eq_getElem (by omega)
    rw [Enc.puts_next hc] at h1
    obtain ⟨h2, h3, _⟩ := Enc.puts_all hok hi hl k hk
    exact within_put h2 h3 (hl _ (List.getElem_mem (show k < l.length by omega))) h1
theorem sync_takes {s : ByteArray} {e : Enc} {d : Dec} {b : Int} (hok : e.Ok b) (hi : e.Inv) (hs : Sync s e d) {l : List Cel} (hl : ∀ c ∈ l, IsCel c) (hw : Within s (e.puts l)) : ∀ k, k ≤ l.length → Sync s (e.puts (l.take k)) (d.takes (l.take k)) := by
  intro k
  induction k with
  | zero => intro _; simpa [Enc.puts, Dec.takes] using hs
  | succ k ih =>
    intro hk
    have h1 := ih (by omega)
    have hc : l[k]? = some l[k] := List.getElem?_eq_getElem (by omega)
    obtain ⟨h2, h3, _⟩ := Enc.puts_all hok hi hl k (by omega)
    have hw1 := within_puts hok hi hl hw (k + 1) hk
    rw [Enc.puts_next hc] at hw1 ⊢
    rw [Dec.takes_next hc]
    exact (sync_take h2 h3 h1 (hl _ (List.getElem_mem (show k < l.length by omega))) hw1).2.2
/-- Cells that are put are met again, and both have used as many bits all along. -/
theorem puts_back {s : ByteArray} {e : Enc} {d : Dec} {b : Int} (hok : e.Ok b) (hi : e.Inv) (hs : Sync s e d) {l : List Cel} (hl : ∀ c ∈ l, IsCel c) (hw : Within s (e.puts l)) {k : Nat} {c : Cel} (hc : l[k]? = some c) :
    c.1 ≤ (d.takes (l.take k)).place c.2.2 ∧ (d.takes (l.take k)).place c.2.2 < c.1 + c.2.1 ∧ (d.takes (l.take (k + 1))).used = (e.puts (l.take (k + 1))).used := by
  have hk : k < l.length := (List.getElem?_eq_some_iff.1 hc).1
  have hcel : IsCel c := hl c (List.mem_of_getElem? hc)
  obtain ⟨h2, h3, _⟩ := Enc.puts_all hok hi hl k (by omega)
  have hw1 := within_puts hok hi hl hw (k + 1) (by omega)
  rw [Enc.puts_next hc] at hw1
  obtain ⟨p1, p2, _⟩ := sync_take h2 h3 (sync_takes hok hi hs hl hw k (by omega)) hcel hw1
  have h4 := sync_takes hok hi hs hl hw (k + 1) (by omega)
  refine ⟨p1, p2, ?_⟩
  unfold Dec.used Enc.used
  rw [h4.rng, h4.gone]
theorem byteAt_nums {l : List Int} (hb : Bytes l) {i : Nat} (hi : i < l.length) : byteAt (strOfNums l) i = l.getD i 0 := by
  have hs : (strOfNums l).size = l.length := strOfNums_size l
  have hbd := hb.get hi
  rw [byteAt, dif_pos (by simp only [Int.toNat_natCast]; omega)]
  simp only [Int.toNat_natCast]
  have hbyte : (strOfNums l)[i]'(by omega) = UInt8.ofNat (l.getD i 0).toNat := by
    show (strOfNums l).data[i]'(by show i < (strOfNums l).size; omega) = _
    simp [strOfNums, List.getD_eq_getElem?_getD, List.getElem?_eq_getElem hi]
  rw [hbyte, UInt8.toNat_ofNat']
  omega
/-- What is put at the end tells the digits. -/
theorem fit_begins {l : List Int} (hb : Bytes l) {n : Nat} (hn : l.length ≤ n) : Begins (fitS l n) l := by
  intro i hi
  have hlen := trimZ_len l
  obtain ⟨k, hk⟩ := trimZ_sub l
  have hz : Bytes (padZ (trimZ l) n) := by
    unfold padZ
    refine (trimZ_bytes hb).append ?_
    intro x hx
    obtain rfl := List.eq_of_mem_replicate hx
    omega
  rw [fitS_yes (by omega), byteAt_nums hz (by rw [padZ_length _ (by omega)]; omega)]
  have hkl := congrArg List.length hk
  simp only [List.length_append, List.length_replicate] at hkl
  have e : padZ (trimZ l) n = l ++ List.replicate (n - l.length) 0 := by
    unfold padZ
    conv => rhs; rw [hk]
    rw [List.append_assoc, List.replicate_append_replicate]
    congr 2
    simp only [List.length_append, List.length_replicate]
    omega
  rw [e, List.getD_eq_getElem?_getD, List.getElem?_append_left hi, ← List.getD_eq_getElem?_getD]
theorem fitOk_short {l : List Int} {n : Nat} (hn : l.length ≤ n) : fitOk l n = true := by
  have := trimZ_len l
  rw [fitOk, decide_eq_true (by omega)]
end Go.Proofs.YtnohjidoelohkaaDoor.Sp
