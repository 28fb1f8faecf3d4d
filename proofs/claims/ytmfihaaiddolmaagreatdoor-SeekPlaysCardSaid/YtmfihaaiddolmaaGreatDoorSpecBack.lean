/- A state's bytes, and that they are read back. -/
import Derived.Test.YtmfihaaiddolmaaGreatDoorSpecBy
set_option linter.unusedSimpArgs false
set_option linter.unusedVariables false
namespace Go.Proofs.YtmfihaaiddolmaaGreatDoor

def b8 (x : Int) : UInt8 := UInt8.ofNat (x % 256).toNat
/-- A state's bytes. -/
def bytesL (L : List Int) : List UInt8 := (memL L).flatMap bl4 ++ bl4 (lastL L) ++ (levL L).map b8 ++ (wavL L).flatMap bl4 ++ [b8 (lostL L)]
def bytesS (L : List Int) : ByteArray := if rightS L = true then ⟨(bytesL L).toArray⟩ else ⟨#[]⟩
def bytesE (L : List Int) : Int := if rightS L = true then 0 else 1
theorem flat4_len (l : List Int) : (l.flatMap bl4).length = l.length * 4 := by
  induction l with
  | nil => rfl
  | cons a r ih => rw [List.flatMap_cons, List.length_append, bl4_len, ih, List.length_cons]; omega
theorem b8_val {x : Int} (h0 : 0 ≤ x) (h1 : x ≤ 255) : ((b8 x).toNat : Int) = x := by
  unfold b8
  rw [UInt8.toNat_ofNat']
  omega
theorem bAt_mk (l : List UInt8) (i : Nat) : bAt ⟨l.toArray⟩ i = (l.getD i 0).toNat := by
  unfold bAt
  by_cases h : i < l.length
  · have h2 : i < (ByteArray.mk l.toArray).size := by simpa [ByteArray.size] using h
    rw [dif_pos h2]
    show (l.toArray[i]'(by simpa using h)).toNat = _
    simp [List.getD_eq_getElem?_getD, List.getElem?_eq_getElem h]
  · have h2 : ¬ i < (ByteArray.mk l.toArray).size := by simpa [ByteArray.size] using h
    rw [dif_neg h2, List.getD_eq_getElem?_getD, List.getElem?_eq_none (by omega)]
    rfl
theorem getD_mid {pre m post : List UInt8} {o k : Nat} (ho : pre.length = o) (hk : k < m.length) : (pre ++ m ++ post).getD (o + k) 0 = m.getD k 0 := by
  subst ho
  rw [List.getD_eq_getElem?_getD, List.getD_eq_getElem?_getD, List.append_assoc, List.getElem?_append_right (by omega), Nat.add_sub_cancel_left, List.getElem?_append_left hk]
theorem word_back {pre post : List UInt8} {x : Int} {o : Nat} (ho : pre.length = o) (h0 : -2147483648 ≤ x) (h1 : x ≤ 2147483647) : wordS ⟨(pre ++ bl4 x ++ post).toArray⟩ o = x := by
  have hb : ∀ k, k < 4 → bAt ⟨(pre ++ bl4 x ++ post).toArray⟩ (o + k) = ((bl4 x).getD k 0).toNat := fun k hk => by
    rw [bAt_mk, getD_mid ho (by rw [bl4_len]; exact hk)]
  obtain ⟨y, hy⟩ : ∃ y, x % 4294967296 = y := ⟨_, rfl⟩
  have hl : bl4 x = [UInt8.ofNat (y % 256).toNat, UInt8.ofNat (y / 256 % 256).toNat, UInt8.ofNat (y / 65536 % 256).toNat, UInt8.ofNat (y / 16777216).toNat] := by
    unfold bl4 fourN strOfNums; rw [hy]; rfl
  have e0 := hb 0 (by omega)
  have e1 := hb 1 (by omega)
  have e2 := hb 2 (by omega)
  have e3 := hb 3 (by omega)
  rw [hl] at e0 e1 e2 e3
  simp only [List.getD_cons_zero, List.getD_cons_succ, UInt8.toNat_ofNat'] at e0 e1 e2 e3
  unfold wordS
  simp only [numP, hl]
  rw [e0, e1, e2, e3]
  unfold i32
  have p1 : (256 : Nat) ^ 1 = 256 := rfl
  have p2 : (256 : Nat) ^ 2 = 65536 := rfl
  have p3 : (256 : Nat) ^ 3 = 16777216 := rfl
  have p0 : (256 : Nat) ^ 0 = 1 := rfl
  rw [p0, p1, p2, p3]
  split <;> omega
theorem words_back {pre post : List UInt8} {l : List Int} {o n : Nat} (ho : pre.length = o) (hn : l.length = n) (h : ∀ x ∈ l, -2147483648 ≤ x ∧ x ≤ 2147483647) : readW ⟨(pre ++ l.flatMap bl4 ++ post).toArray⟩ o n = l := by
  subst hn
  apply List.ext_getElem (by rw [readW_len])
  intro i h1 h2
  have hd : l = l.take i ++ [l[i]] ++ l.drop (i + 1) := by
    have := List.take_append_drop i l
    rw [List.drop_eq_getElem_cons h2] at this
    rw [List.append_assoc]; exact this.symm
  have hx := h l[i] (List.getElem_mem h2)
  obtain ⟨x, hxe⟩ : ∃ x, l[i] = x := ⟨_, rfl⟩
  rw [hxe] at hd hx ⊢
  have e : pre ++ l.flatMap bl4 ++ post = (pre ++ (l.take i).flatMap bl4) ++ bl4 x ++ ((l.drop (i + 1)).flatMap bl4 ++ post) := by
    conv => lhs; rw [hd]
    simp only [List.flatMap_append, List.flatMap_singleton, List.append_assoc]
  simp only [readW, List.getElem_map, List.getElem_range]
  rw [e]
  refine word_back ?_ hx.1 hx.2
  rw [List.length_append, flat4_len, List.length_take, ho]
  omega
theorem one_back {pre post : List UInt8} {x : Int} {o : Nat} (ho : pre.length = o) (h0 : 0 ≤ x) (h1 : x ≤ 255) : (bAt ⟨(pre ++ [b8 x] ++ post).toArray⟩ o : Int) = x := by
  have := getD_mid (post := post) (m := [b8 x]) (k := 0) ho (by simp)
  rw [Nat.add_zero] at this
  rw [bAt_mk, this, List.getD_cons_zero, b8_val h0 h1]
theorem ones_back {pre post : List UInt8} {l : List Int} {o n : Nat} (ho : pre.length = o) (hn : l.length = n) (h : ∀ x ∈ l, 0 ≤ x ∧ x ≤ 255) : readB ⟨(pre ++ l.map b8 ++ post).toArray⟩ o n = l := by
  subst hn
  apply List.ext_getElem (by rw [readB_len])
  intro i h1 h2
  have hx := h l[i] (List.getElem_mem h2)
  simp only [readB, List.getElem_map, List.getElem_range]
  rw [bAt_mk, getD_mid ho (by rw [List.length_map]; exact h2), List.getD_eq_getElem?_getD, List.getElem?_map, List.getElem?_eq_getElem h2]
  exact b8_val hx.1 hx.2
theorem cut_bd {n : Nat} {x : Int} (h : (Sp.cut n x == x) = true) : -(2 ^ (n - 1)) ≤ x ∧ x ≤ 2 ^ (n - 1) - 1 := by
  have e : Sp.cut n x = x := by simpa using h
  unfold Sp.cut at e
  have hp : (0 : Int) < 2 ^ (n - 1) := Int.pow_pos (by omega)
  omega
/-- What a right state's numbers are. -/
theorem right_bounds {L : List Int} (h : rightS L = true) : (∀ x ∈ memL L, -2147483648 ≤ x ∧ x ≤ 2147483647) ∧ (-2147483648 ≤ lastL L ∧ lastL L ≤ 2147483647) ∧ (∀ x ∈ levL L, 0 ≤ x ∧ x ≤ 255) ∧ (∀ x ∈ wavL L, -2147483648 ≤ x ∧ x ≤ 2147483647) ∧ (0 ≤ lostL L ∧ lostL L ≤ 255) := by
  unfold rightS at h
  simp only [Bool.and_eq_true, decide_eq_true_eq, List.all_eq_true, Bool.not_eq_true', List.any_eq_false] at h
  obtain ⟨⟨⟨⟨⟨h1, h2⟩, h3⟩, h4⟩, h5⟩, h6⟩ := h
  refine ⟨fun x hx => ?_, ?_, fun x hx => ?_, fun x hx => ?_, h5, h6⟩
  · have := cut_bd (n := 32) (h1 x hx)
    simpa using this
  · have := cut_bd (n := 22) h3
    simp at this; omega
  · have := h2 x hx
    unfold levP at this
    simp only [Bool.and_eq_true, decide_eq_true_eq] at this
    omega
  · have := h4 x hx
    unfold wideP at this
    simp at this
    omega
theorem state_split {L : List Int} (h : L.length = 38) : memL L ++ [lastL L] ++ levL L ++ wavL L ++ [lostL L] = L := by
  unfold memL lastL levL wavL lostL
  have e : ∀ (i : Nat) (hi : i < 38), [L.getD i 0] = (L.drop i).take 1 := fun i hi => by
    rw [List.getD_eq_getElem?_getD, List.getElem?_eq_getElem (by omega), List.drop_eq_getElem_cons (by omega), List.take_succ_cons, List.take_zero]; rfl
  have d : ∀ (i k : Nat), L.take i ++ (L.drop i).take k = L.take (i + k) := fun i k => List.take_add.symm
  rw [e 16 (by omega), e 37 (by omega), d, d, d, d]
  exact List.take_of_length_le (by omega)
theorem bytesL_len {L : List Int} (h : L.length = 38) : (bytesL L).length = 137 := by
  unfold bytesL
  have h1 : (memL L).length = 16 := by unfold memL; rw [List.length_take]; omega
  have h2 : (levL L).length = 4 := by unfold levL; rw [List.length_take, List.length_drop]; omega
  have h3 : (wavL L).length = 16 := by unfold wavL; rw [List.length_take, List.length_drop]; omega
  simp only [List.length_append, flat4_len, bl4_len, List.length_map, h1, h2, h3, List.length_cons, List.length_nil]
/-- What is written is read. -/
theorem read_back {L : List Int} (h : L.length = 38) (hr : rightS L = true) : readL (bytesS L) = L := by
  have hs : bytesS L = ⟨(bytesL L).toArray⟩ := if_pos hr
  have h1 : (memL L).length = 16 := by unfold memL; rw [List.length_take]; omega
  have h2 : (levL L).length = 4 := by unfold levL; rw [List.length_take, List.length_drop]; omega
  have h3 : (wavL L).length = 16 := by unfold wavL; rw [List.length_take, List.length_drop]; omega
  obtain ⟨p1, p2, p3, p4, p5⟩ := right_bounds hr
  rw [hs]
  unfold readL
  have e1 : readW ⟨(bytesL L).toArray⟩ 0 16 = memL L := by
    have := words_back (pre := []) (post := bl4 (lastL L) ++ (levL L).map b8 ++ (wavL L).flatMap bl4 ++ [b8 (lostL L)]) (o := 0) rfl h1 p1
    rw [List.nil_append] at this
    unfold bytesL
    simpa only [List.append_assoc] using this
  have e2 : wordS ⟨(bytesL L).toArray⟩ 64 = lastL L := by
    have := word_back (pre := (memL L).flatMap bl4) (post := (levL L).map b8 ++ (wavL L).flatMap bl4 ++ [b8 (lostL L)]) (o := 64) (by rw [flat4_len, h1]) p2.1 p2.2
    unfold bytesL
    simpa only [List.append_assoc] using this
  have e3 : readB ⟨(bytesL L).toArray⟩ 68 4 = levL L := by
    have := ones_back (pre := (memL L).flatMap bl4 ++ bl4 (lastL L)) (post := (wavL L).flatMap bl4 ++ [b8 (lostL L)]) (o := 68) (by rw [List.length_append, flat4_len, bl4_len, h1]) h2 p3
    unfold bytesL
    simpa only [List.append_assoc] using this
  have e4 : readW ⟨(bytesL L).toArray⟩ 72 16 = wavL L := by
    have := words_back (pre := (memL L).flatMap bl4 ++ bl4 (lastL L) ++ (levL L).map b8) (post := [b8 (lostL L)]) (o := 72) (by rw [List.length_append, List.length_append, flat4_len, bl4_len, h1, List.length_map, h2]) h3 p4
    unfold bytesL
    simpa only [List.append_assoc] using this
  have e5 : (bAt ⟨(bytesL L).toArray⟩ 136 : Int) = lostL L := by
    have := one_back (pre := (memL L).flatMap bl4 ++ bl4 (lastL L) ++ (levL L).map b8 ++ (wavL L).flatMap bl4) (post := []) (o := 136) (by rw [List.length_append, List.length_append, List.length_append, flat4_len, flat4_len, bl4_len, h1, List.length_map, h2, h3]) p5.1 p5.2
    unfold bytesL
    simpa only [List.append_assoc, List.append_nil] using this
  rw [e1, e2, e3, e4, e5, state_split h]
theorem bytes_back {L : List Int} (h : L.length = 38) (hr : rightS L = true) : readE (bytesS L) = 0 ∧ readSt (bytesS L) = L := by
  have hs : (bytesS L).size = 137 := by
    unfold bytesS; rw [if_pos hr]
    show (bytesL L).toArray.size = 137
    rw [List.size_toArray, bytesL_len h]
  have he : readE (bytesS L) = 0 := by unfold readE; rw [if_pos hs, read_back h hr, if_pos hr]
  exact ⟨he, by unfold readSt; rw [if_pos he, read_back h hr]⟩
end Go.Proofs.YtmfihaaiddolmaaGreatDoor
