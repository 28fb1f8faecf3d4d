/- The walks of the range coder's reference (spoolref07): what a cell is, the end. -/
import Derived.Test.YthpjkgpngbdhbaaGreatDoorRangR2
import Derived.Test.YthpjkgpngbdhbaaGreatDoorLot0
import Derived.Test.YthpjkgpngbdhbaaGreatDoorLot1
import Derived.WalkSmall
set_option linter.unusedSimpArgs false
set_option linter.unusedVariables false
namespace Go.Proofs.YthpjkgpngbdhbaaGreatDoor
open Go.RowKit

theorem Row.cap {W : World} {e : TypeId} {o : Option Addr} {n cap : Nat} {xs : List Value} (h : Row W e (.slice o n cap) xs) : n ≤ cap ∧ cap ≤ 9223372036854775807 := by
  rcases h.2 with ⟨he, _⟩ | ⟨g, cap', cur, he, hb, hg, hc, hm, hs, ht⟩
  · cases he; omega
  · cases he; simp only [maxLen] at hm; omega
theorem Row.pop {W : World} {e : TypeId} {g n cap : Nat} {xs : List Value} {x : Value} (hn : xs.length = n) (h : Row W e (.slice (some ⟨g, 0, none⟩) (n + 1) cap) (xs ++ [x])) : Row W e (.slice (some ⟨g, 0, none⟩) n cap) xs := by
  unfold Row at h ⊢
  rw [List.length_append, List.length_singleton, hn] at h
  rw [hn]
  exact ownsRow_pop (by omega) h
theorem Row.str {W : World} {v : Value} {l : List Int} (h : Row W 5 v (bytesV l)) : (convert 127 9 v).run Tryz.prog W = .ok (.string (strOfNums l)) W := by
  have h' := h
  rcases h.2 with ⟨rfl, h0⟩ | ⟨g, cap, cur, rfl, _⟩
  · obtain rfl : l = [] := by simpa using h0
    exact run_convert_bytes_nil W 127 5 Tryz.underlying127 Tryz.underlying5 0 0 9 Tryz.underlying9
  · refine run_convert_bytes_arg W 127 5 Tryz.underlying127 Tryz.underlying5 g 0 _ cap l (by simp) (fun i hi => ?_) 9 Tryz.underlying9
    rw [Nat.zero_add, h'.cellAt (by simp) i (by simpa using hi), bytes_get (by simpa using hi)]

end Go.Proofs.YthpjkgpngbdhbaaGreatDoor
