/- The walk of state.Bytes' put. -/
import Derived.Test.YtbpdocdomjafbaaGreatDoorSpec8
import Derived.Test.YtbpdocdomjafbaaGreatDoorBuild
set_option linter.unusedSimpArgs false
set_option linter.unusedVariables false
namespace Go.Proofs.YtbpdocdomjafbaaGreatDoor
open Go.RowKit

/-- The four bytes of a number. -/
def bl4 (x : Int) : List UInt8 := (strOfNums (fourN (x % 4294967296))).data.toList
theorem bl4_len (x : Int) : (bl4 x).length = 4 := by
  unfold bl4
  have := strOfNums_size (fourN (x % 4294967296))
  rw [Array.length_toList]
  exact this
theorem str_bytes (s : ByteArray) : Lib.strCells s = Lib.byteCells s.data.toList := rfl
theorem bytes_app (a b : List UInt8) : Lib.byteCells (a ++ b) = Lib.byteCells a ++ Lib.byteCells b := by unfold Lib.byteCells; rw [List.map_append]
theorem bytesC_len (l : List UInt8) : (Lib.byteCells l).length = l.length := by unfold Lib.byteCells; rw [List.length_map]
theorem IsB.newB {T e : TypeId} {B b : Nat} {bs : List Value} {w w' : World} (h : Lib.IsBuilder T e B b bs w) (hb : Below w.heap.size w w') : Lib.IsBuilder T e B b bs w' := by
  have each : ∀ p, Lib.BuilderAt T e B b p bs w → Lib.BuilderAt T e B b p bs w' := fun p ⟨h1, v, h2, h3, h4⟩ =>
    ⟨h1, v, (hb.block b (Array.getElem?_eq_some_iff.1 h2).1).trans h2, own_newB h3 hb, h4⟩
  rcases h with h | h
  · exact .inl (each _ h)
  · exact .inr (each _ h)
set_option maxRecDepth 100000 in
set_option maxHeartbeats 4000000 in
theorem put_any (Bb g o n : Nat) (l : List Int) (hn : l.length = n) (hn16 : n ≤ 16) (bs : List UInt8) (hbs : bs.length ≤ 1000) (w : World) (hBb : Bb < w.heap.size)
    (hrd : ∀ k wr, k < n → (k = 0 → wr = w) → Below Bb w wr → wr.cell? ⟨g, o + k, none⟩ = some (.int .i64 (l.getD k 0)))
    (hb : Lib.IsBuilder 67 5 Bb Bb (Lib.byteCells bs) w) :
    Calls Tryz.prog 25 #[.slice (some ⟨g, o, none⟩) n n, .pointer (some ⟨Bb, 0, none⟩)] w fun e w' => e = .returned (.tuple #[]) ∧ Lib.IsBuilder 67 5 Bb Bb (Lib.byteCells (bs ++ l.flatMap bl4)) w' ∧ Below Bb w w' := by
  have HRD := Lib.hid hrd
  have HN := Lib.hid hn
  clear hrd hn
  go_enter Tryz.func25, Tryz.ntmps25
  go_wp2_with fail
  go_loopw [7] (fun i wr => ∃ k : Nat, k ≤ n ∧ i = .int .i64 k ∧ (k = 0 → wr = w) ∧ Below Bb w wr ∧ Lib.IsBuilder 67 5 Bb Bb (Lib.byteCells (bs ++ (l.take k).flatMap bl4)) wr) (fun i _ => n - (intOf i).toNat)
  case atStart => exact ⟨0, by omega, rfl, fun _ => rfl, Below.refl _ _, by simpa using hb⟩
  case round =>
    obtain ⟨k, hk, rfl, h0, hfar, hB⟩ := hrel
    by_cases hlt : k < n
    · have c0 := HRD.out k wr hlt h0 hfar
      have hkl : k < l.length := by rw [HN.out]; exact hlt
      have hget : l[k]? = some (l.getD k 0) := by rw [List.getD_eq_getElem?_getD, List.getElem?_eq_getElem hkl]; rfl
      obtain ⟨x, hx⟩ : ∃ x, l.getD k 0 = x := ⟨_, rfl⟩
      rw [hx] at c0 hget
      have HG := Lib.hid hget
      clear hx hget hkl h0
      go_wp2_with fail
      rw [show wrap32 x % 4294967296 = x % 4294967296 from by unfold wrap32; omega]
      refine (CFour_any _ (by omega) (by omega) _).mono ?_
      rintro r w2 ⟨rfl, hb2⟩
      have hB2 := IsB.newB hB hb2
      have hf2 := hfar.trans (hb2.mono (by have := hfar.size; omega))
      have hs2 : Bb ≤ w2.heap.size := by have := hf2.size; omega
      obtain ⟨s4, hs4⟩ : ∃ s, strOfNums (fourN (x % 4294967296)) = s := ⟨_, rfl⟩
      have hz : s4.size = 4 := by rw [← hs4]; exact strOfNums_size _
      have he : (l.take (k + 1)).flatMap bl4 = (l.take k).flatMap bl4 ++ s4.data.toList := by rw [List.take_add_one, HG.out, Option.toList_some, List.flatMap_append, List.flatMap_singleton, ← hs4]; rfl
      have hlen : (bs ++ (l.take k).flatMap bl4).length ≤ 1100 := by
        rw [List.length_append]
        have : ((l.take k).flatMap bl4).length = (l.take k).length * 4 := by
          generalize l.take k = m
          induction m with
          | nil => rfl
          | cons a r ih => rw [List.flatMap_cons, List.length_append, bl4_len, ih, List.length_cons]; omega
        rw [this, List.length_take]; omega
      rw [hs4]
      have HE2 := Lib.hid he
      have HZ := Lib.hid hz
      clear hs4 he hz
      go_wp2_with fail
      refine (WriteString_any Bb Bb _ s4 _ hB2 (by rw [bytesC_len, HZ.out]; omega) hs2).mono ?_
      rintro r w3 ⟨rfl, hB3, hb3⟩
      go_wp2_with fail
      go_roundw
      case rel => exact ⟨k + 1, hlt, by go_num, fun h => by omega, hf2.trans hb3, .inr (by rw [HE2.out, ← List.append_assoc, bytes_app, ← str_bytes]; exact hB3)⟩
      case measure => simp [intOf]; omega
    · obtain rfl : k = n := by omega
      have ht : l.take k = l := by rw [← HN.out]; exact List.take_length
      rw [ht] at hB
      go_wp2_with fail
      go_end0
      exact ⟨rfl, hB, hfar⟩
end Go.Proofs.YtbpdocdomjafbaaGreatDoor
