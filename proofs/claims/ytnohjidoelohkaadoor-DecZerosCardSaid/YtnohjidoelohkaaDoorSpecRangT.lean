/- The plain words of a packet's end: trailing zeros off, zeros on to a size. -/
import Derived.Test.YtnohjidoelohkaaDoorSpecRangR
import Derived.Laws.BytesArg
import Derived.Lib.TrimByte
import Derived.Lib.Repeat
namespace Go.Proofs.YtnohjidoelohkaaDoor.Sp

def trimZ (l : List Int) : List Int := (l.reverse.dropWhile (· == 0)).reverse
theorem trimZ_nil : trimZ [] = [] := rfl
theorem trimZ_zero (l : List Int) : trimZ (l ++ [0]) = trimZ l := by simp [trimZ]
theorem trimZ_snoc (l : List Int) {x : Int} (h : x ≠ 0) : trimZ (l ++ [x]) = l ++ [x] := by
  simp [trimZ, h]
theorem trimZ_sub (l : List Int) : ∃ k, l = trimZ l ++ List.replicate k 0 := by
  refine snoc_ind (P := fun l => ∃ k, l = trimZ l ++ List.replicate k 0) ⟨0, rfl⟩ (fun l x ih => ?_) l
  by_cases hx : x = 0
  · subst hx
    obtain ⟨k, hk⟩ := ih
    refine ⟨k + 1, ?_⟩
    rw [trimZ_zero, List.replicate_succ', ← List.append_assoc, ← hk]
  · exact ⟨0, by rw [trimZ_snoc l hx]; simp⟩
theorem trimZ_len (l : List Int) : (trimZ l).length ≤ l.length := by
  obtain ⟨k, hk⟩ := trimZ_sub l
  have := congrArg List.length hk
  simp only [List.length_append, List.length_replicate] at this
  omega
theorem trimZ_bytes {l : List Int} (h : Bytes l) : Bytes (trimZ l) := by
  obtain ⟨k, hk⟩ := trimZ_sub l
  rw [hk] at h
  exact h.left
/-- As long as n: zeros behind. -/
def padZ (l : List Int) (n : Nat) : List Int := l ++ List.replicate (n - l.length) 0
theorem padZ_more (l : List Int) {n : Nat} (h : l.length < n) : padZ (l ++ [0]) n = padZ l n := by
  unfold padZ
  obtain ⟨k, hk⟩ : ∃ k, n - l.length = k + 1 := ⟨n - l.length - 1, by omega⟩
  rw [hk, show n - (l ++ [(0 : Int)]).length = k from by simp; omega, List.replicate_succ, List.append_assoc]; rfl
theorem padZ_done (l : List Int) {n : Nat} (h : n ≤ l.length) : padZ l n = l := by
  unfold padZ; rw [show n - l.length = 0 from by omega]; simp
theorem padZ_length (l : List Int) {n : Nat} (h : l.length ≤ n) : (padZ l n).length = n := by
  unfold padZ; simp; omega
/-- Do the digits fit into n bytes; and the bytes then. -/
def fitOk (l : List Int) (n : Nat) : Bool := decide ((trimZ l).length ≤ n)
def fitS (l : List Int) (n : Nat) : ByteArray := if (trimZ l).length ≤ n then strOfNums (padZ (trimZ l) n) else ⟨#[]⟩
theorem fitS_yes {l : List Int} {n : Nat} (h : (trimZ l).length ≤ n) : fitS l n = strOfNums (padZ (trimZ l) n) := by rw [fitS, if_pos h]
theorem fitS_no {l : List Int} {n : Nat} (h : ¬ (trimZ l).length ≤ n) : fitS l n = ⟨#[]⟩ := by rw [fitS, if_neg h]
theorem fitS_size {l : List Int} {n : Nat} (h : (trimZ l).length ≤ n) : (fitS l n).size = n := by rw [fitS_yes h, strOfNums_size, padZ_length _ h]
theorem trimB_map (l : List Int) (h : Bytes l) : Lib.trimRightB (l.map fun n => UInt8.ofNat n.toNat) 0 = (trimZ l).map fun n => UInt8.ofNat n.toNat := by
  unfold Lib.trimRightB trimZ
  rw [← List.map_reverse, List.map_reverse (l := List.dropWhile _ _)]
  congr 1
  have hr : Bytes l.reverse := fun x hx => h x (List.mem_reverse.1 hx)
  generalize l.reverse = m at hr
  induction m with
  | nil => rfl
  | cons x m ih =>
    have hx := hr x (List.mem_cons_self ..)
    have hm : Bytes m := fun y hy => hr y (List.mem_cons_of_mem _ hy)
    by_cases h0 : x = 0
    · subst h0
      simpa using ih hm
    · have : ¬ (UInt8.ofNat x.toNat = 0) := by
        intro he
        have h2 := congrArg UInt8.toNat he
        simp only [UInt8.toNat_ofNat', UInt8.toNat_zero] at h2
        omega
      simp [h0, this]
/-- What the coder's text is: the digits' bytes without trailing zeros, zeros behind. -/
theorem fitS_text {l : List Int} {n : Nat} (hb : Bytes l) (h : (trimZ l).length ≤ n) :
    (⟨(Lib.trimRightB (strOfNums l).data.toList 0).toArray⟩ : ByteArray) ++ ⟨(Lib.repeatL [0] (n - (trimZ l).length)).toArray⟩ = fitS l n := by
  rw [fitS_yes h, strOfNums_data, trimB_map l hb, padZ, show ([0] : List UInt8) = List.replicate 1 0 from rfl, Lib.repeatL_replicate]
  apply ByteArray.ext
  simp [strOfNums]
theorem trimText_size {l : List Int} (hb : Bytes l) : (⟨(Lib.trimRightB (strOfNums l).data.toList 0).toArray⟩ : ByteArray).size = (trimZ l).length := by
  rw [strOfNums_data, trimB_map l hb]; simp [ByteArray.size]
theorem strOfNums_append (l m : List Int) : strOfNums l ++ strOfNums m = strOfNums (l ++ m) := by
  apply ByteArray.ext
  simp [strOfNums]
end Go.Proofs.YtnohjidoelohkaaDoor.Sp
