/- What is read is written again: the bytes of a right check's state are its data. -/
import Derived.Test.YtmfihaaiddolmaaGreatDoorSpecSeek
set_option linter.unusedSimpArgs false
set_option linter.unusedVariables false
namespace Go.Proofs.YtmfihaaiddolmaaGreatDoor

def ub (s : ByteArray) (i : Nat) : UInt8 := UInt8.ofNat (bAt s i)
theorem ub_get {s : ByteArray} {i : Nat} (h : i < s.size) : ub s i = s[i] := by
  unfold ub; rw [bAt_eq h]; exact UInt8.ofNat_toNat
theorem bytes_range (s : ByteArray) : s.data.toList = (List.range s.size).map (ub s) := by
  apply List.ext_getElem
  · rw [List.length_map, List.length_range, Array.length_toList]; rfl
  · intro i h1 h2
    have hi : i < s.size := by rw [List.length_map, List.length_range] at h2; exact h2
    rw [List.getElem_map, List.getElem_range, ub_get hi, Array.getElem_toList]
    rfl
theorem four_bytes (a b c d : Nat) (h0 : a < 256) (h1 : b < 256) (h2 : c < 256) (h3 : d < 256) : fourN ((a + b * 256 + c * 65536 + d * 16777216 : Nat) : Int) = [(a : Int), b, c, d] := by
  unfold fourN
  have e0 : (((a + b * 256 + c * 65536 + d * 16777216 : Nat) : Int) % 256) = a := by omega
  have e1 : (((a + b * 256 + c * 65536 + d * 16777216 : Nat) : Int) / 256 % 256) = b := by omega
  have e2 : (((a + b * 256 + c * 65536 + d * 16777216 : Nat) : Int) / 65536 % 256) = c := by omega
  have e3 : (((a + b * 256 + c * 65536 + d * 16777216 : Nat) : Int) / 16777216) = d := by omega
  rw [e0, e1, e2, e3]
theorem numP4 (s : ByteArray) (o : Nat) : numP s o 4 = bAt s o + bAt s (o + 1) * 256 + bAt s (o + 2) * 65536 + bAt s (o + 3) * 16777216 := by
  have p1 : (256 : Nat) ^ 1 = 256 := rfl
  have p2 : (256 : Nat) ^ 2 = 65536 := rfl
  have p3 : (256 : Nat) ^ 3 = 16777216 := rfl
  have p0 : (256 : Nat) ^ 0 = 1 := rfl
  rw [numP, numP, numP, numP, numP, p0, p1, p2, p3, Nat.add_zero]
  omega
theorem i32_mod (n : Nat) (h : n < 4294967296) : i32 n % 4294967296 = (n : Int) := by
  unfold i32; split <;> omega
theorem bl4_word (s : ByteArray) (o : Nat) : bl4 (wordS s o) = [ub s o, ub s (o + 1), ub s (o + 2), ub s (o + 3)] := by
  have h := numP_lt s o 4
  have hx : wordS s o % 4294967296 = ((numP s o 4 : Nat) : Int) := i32_mod _ h
  unfold bl4
  rw [hx, numP4, four_bytes _ _ _ _ (bAt_lt s o) (bAt_lt s (o + 1)) (bAt_lt s (o + 2)) (bAt_lt s (o + 3))]
  rfl
theorem words_ub (s : ByteArray) (o n : Nat) : (readW s o n).flatMap bl4 = (List.range (n * 4)).map (fun j => ub s (o + j)) := by
  induction n with
  | zero => rfl
  | succ n ih =>
    have e : readW s o (n + 1) = readW s o n ++ [wordS s (o + 4 * n)] := by unfold readW; rw [List.range_succ, List.map_append]; rfl
    rw [e, List.flatMap_append, List.flatMap_singleton, ih, bl4_word, show (n + 1) * 4 = n * 4 + 4 by omega, List.range_add, List.map_append]
    congr 1
    have hr : List.range 4 = [0, 1, 2, 3] := rfl
    rw [hr]
    simp only [List.map_cons, List.map_nil, Nat.add_zero]
    rw [show o + 4 * n = o + n * 4 by omega]
    simp only [Nat.add_assoc]
theorem b8_ub (s : ByteArray) (i : Nat) : b8 (bAt s i : Nat) = ub s i := by
  have := bAt_lt s i
  unfold b8 ub
  congr 1
  omega
theorem ones_ub (s : ByteArray) (o n : Nat) : (readB s o n).map b8 = (List.range n).map (fun j => ub s (o + j)) := by
  unfold readB
  rw [List.map_map]
  apply List.map_congr_left
  intro i _
  exact b8_ub s (o + i)
theorem parts_cat {a c d : List Int} {b e : Int} (ha : a.length = 16) (hc : c.length = 4) (hd : d.length = 16) : memL (a ++ [b] ++ c ++ d ++ [e]) = a ∧ lastL (a ++ [b] ++ c ++ d ++ [e]) = b ∧ levL (a ++ [b] ++ c ++ d ++ [e]) = c ∧ wavL (a ++ [b] ++ c ++ d ++ [e]) = d ∧ lostL (a ++ [b] ++ c ++ d ++ [e]) = e := by
  have e1 : a ++ [b] ++ c ++ d ++ [e] = a ++ (b :: (c ++ (d ++ [e]))) := by simp only [List.append_assoc, List.cons_append, List.nil_append]
  have e2 : a ++ [b] ++ c ++ d ++ [e] = (a ++ [b]) ++ (c ++ (d ++ [e])) := by simp only [List.append_assoc]
  have e3 : a ++ [b] ++ c ++ d ++ [e] = (a ++ [b] ++ c) ++ (d ++ [e]) := by simp only [List.append_assoc]
  have l2 : (a ++ [b]).length = 17 := by rw [List.length_append, ha]; rfl
  have l3 : (a ++ [b] ++ c).length = 21 := by rw [List.length_append, l2, hc]
  have l4 : (a ++ [b] ++ c ++ d).length = 37 := by rw [List.length_append, l3, hd]
  refine ⟨?_, ?_, ?_, ?_, ?_⟩
  · unfold memL; rw [e1, List.take_left' ha]
  · unfold lastL; rw [e1, List.getD_eq_getElem?_getD, List.getElem?_append_right (by omega), ha]; rfl
  · unfold levL; rw [e2, List.drop_left' l2, List.take_left' hc]
  · unfold wavL; rw [e3, List.drop_left' l3, List.take_left' hd]
  · unfold lostL; rw [List.getD_eq_getElem?_getD, List.getElem?_append_right (by omega), l4]; rfl
theorem cat_range (a b : Nat) (f g : Nat → UInt8) (h : ∀ j, g j = f (a + j)) : (List.range a).map f ++ (List.range b).map g = (List.range (a + b)).map f := by
  rw [show g = fun j => f (a + j) from funext h, List.range_add, List.map_append, List.map_map]; rfl
theorem bytes_of_read {s : ByteArray} (h : s.size = 137) : bytesL (readL s) = s.data.toList := by
  have hp := parts_cat (b := wordS s 64) (e := (bAt s 136 : Int)) (readW_len s 0 16) (readB_len s 68 4) (readW_len s 72 16)
  have hu : bytesL (readL s) = (memL (readL s)).flatMap bl4 ++ bl4 (lastL (readL s)) ++ (levL (readL s)).map b8 ++ (wavL (readL s)).flatMap bl4 ++ [b8 (lostL (readL s))] := by unfold bytesL; with_reducible rfl
  have hL : readL s = readW s 0 16 ++ [wordS s 64] ++ readB s 68 4 ++ readW s 72 16 ++ [(bAt s 136 : Int)] := by unfold readL; with_reducible rfl
  rw [← hL] at hp
  have k1 : [ub s 64, ub s (64 + 1), ub s (64 + 2), ub s (64 + 3)] = (List.range 4).map (fun j => ub s (64 + j)) := rfl
  have k2 : [ub s 136] = (List.range 1).map (fun j => ub s (136 + j)) := rfl
  rw [hu, hp.1, hp.2.1, hp.2.2.1, hp.2.2.2.1, hp.2.2.2.2, words_ub, words_ub, ones_ub, bl4_word, b8_ub, bytes_range, h, k1, k2]
  rw [cat_range (16 * 4) 4 (fun j => ub s (0 + j)) _ (fun j => by rw [Nat.zero_add]), cat_range (16 * 4 + 4) 4 _ _ (fun j => by rw [Nat.zero_add]), cat_range (16 * 4 + 4 + 4) (16 * 4) _ _ (fun j => by rw [Nat.zero_add]), cat_range (16 * 4 + 4 + 4 + 16 * 4) 1 _ _ (fun j => by rw [Nat.zero_add])]
  have e0 : (fun j => ub s (0 + j)) = ub s := funext fun j => by rw [Nat.zero_add]
  rw [e0]
/-- A right check's data are the bytes of its state. -/
theorem check_data {s : ByteArray} (h : readE s = 0) : bytesS (readSt s) = s := by
  have hs : s.size = 137 := by
    unfold readE at h
    split at h
    · assumption
    · exact absurd h (by decide)
  have hr : rightS (readL s) = true := by
    unfold readE at h
    rw [if_pos hs] at h
    split at h
    · assumption
    · exact absurd h (by decide)
  unfold readSt
  rw [if_pos h]
  unfold bytesS
  rw [if_pos hr, bytes_of_read hs]
theorem check_data_iff {s : ByteArray} {L : List Int} (hl : L.length = 38) (hr : rightS L = true) (h : readE s = 0) : readSt s = L ↔ s = bytesS L := by
  constructor
  · intro e; rw [← e]; exact (check_data h).symm
  · intro e; rw [e]; exact (bytes_back hl hr).2
end Go.Proofs.YtmfihaaiddolmaaGreatDoor
