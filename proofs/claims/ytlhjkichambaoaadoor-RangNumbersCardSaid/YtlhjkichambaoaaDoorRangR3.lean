/- The walks of the range coder's reference (spoolref07): what a cell is, the end. -/
import Derived.Test.YtlhjkichambaoaaDoorRangR2
import Derived.Test.YtlhjkichambaoaaDoorSpecRangT
import Derived.Test.YtlhjkichambaoaaDoorRangE2
import Derived.WalkSmall
namespace Go.Proofs.YtlhjkichambaoaaDoor
open Go.RowKit

theorem Row.cap {W : World} {e : TypeId} {o : Option Addr} {n cap : Nat} {xs : List Value} (h : Row W e (.slice o n cap) xs) : n ≤ cap ∧ cap ≤ 9223372036854775807 := by
  rcases h.2 with ⟨he, _⟩ | ⟨g, cap', cur, he, hb, hg, hc, hm, hs, ht⟩
  · cases he; omega
  · cases he; simp only [maxLen] at hm; omega
theorem Row.pop {W : World} {e : TypeId} {g n cap : Nat} {xs : List Value} {x : Value} (hn : xs.length = n) (h : Row W e (.slice (some ⟨g, 0, none⟩) (n + 1) cap) (xs ++ [x])) : Row W e (.slice (some ⟨g, 0, none⟩) n cap) xs := by
  unfold Row at h ⊢
  rw [List.length_append, List.length_singleton, hn] at h
  rw [hn]
  exact ownsRow_pop (by omega) h
theorem Row.str {W : World} {v : Value} {l : List Int} (h : Row W 5 v (bytesV l)) : (convert 48 9 v).run Tryd.prog W = .ok (.string (strOfNums l)) W := by
  have h' := h
  rcases h.2 with ⟨rfl, h0⟩ | ⟨g, cap, cur, rfl, _⟩
  · obtain rfl : l = [] := by simpa using h0
    exact run_convert_bytes_nil W 48 5 Tryd.underlying48 Tryd.underlying5 0 0 9 Tryd.underlying9
  · refine run_convert_bytes_arg W 48 5 Tryd.underlying48 Tryd.underlying5 g 0 _ cap l (by simp) (fun i hi => ?_) 9 Tryd.underlying9
    rw [Nat.zero_add, h'.cellAt (by simp) i (by simpa using hi), bytes_get (by simpa using hi)]

set_option maxHeartbeats 800000 in
theorem RIs_yes {x y t : Int} (h : Sp.cellIs x y t) (w : World) :
    Calls Tryd.prog 14 #[.agg #[.int .i64 x, .int .i64 y, .int .i64 t]] w fun e w' => e = .returned (.bool true) ∧ Below w.heap.size w w' := by
  obtain ⟨h1, h2, h3, h4, h5, h6⟩ := h
  have h7 : x + y ≤ t := by omega
  have h8 : x ≤ t := by omega
  have h9 : y ≤ t := by omega
  have hBB := Blk.new w #[.int .i64 x, .int .i64 y, .int .i64 t] 34
  have d0 := hBB.cell 0
  have d1 := hBB.cell 1
  have d2 := hBB.cell 2
  simp only [List.getElem?_toArray, List.getElem?_cons_zero, List.getElem?_cons_succ] at d0 d1 d2
  go_enter Tryd.func14, Tryd.ntmps14
  go_wp2
  go_ret
  exact ⟨rfl, by go_grown⟩
set_option maxHeartbeats 800000 in
theorem RIs_no {x y t : Int} (h : ¬ Sp.cellIs x y t) (w : World) :
    Calls Tryd.prog 14 #[.agg #[.int .i64 x, .int .i64 y, .int .i64 t]] w fun e w' => e = .returned (.bool false) ∧ Below w.heap.size w w' := by
  have hBB := Blk.new w #[.int .i64 x, .int .i64 y, .int .i64 t] 34
  have d0 := hBB.cell 0
  have d1 := hBB.cell 1
  have d2 := hBB.cell 2
  simp only [List.getElem?_toArray, List.getElem?_cons_zero, List.getElem?_cons_succ] at d0 d1 d2
  by_cases h1 : 1 ≤ t
  · by_cases h2 : t ≤ 32768
    · by_cases h3 : 0 ≤ x
      · by_cases h4 : 1 ≤ y
        · by_cases h5 : x ≤ t
          · by_cases h6 : y ≤ t
            · have h7 : ¬ x + y ≤ t := fun h7 => h ⟨h1, h2, h3, h4, by omega, by omega⟩
              clear h
              go_enter Tryd.func14, Tryd.ntmps14
              go_wp2
              go_ret
              exact ⟨rfl, by go_grown⟩
            all_goals
              clear h
              go_enter Tryd.func14, Tryd.ntmps14
              go_wp2
              go_ret
              exact ⟨rfl, by go_grown⟩
          all_goals
            clear h
            go_enter Tryd.func14, Tryd.ntmps14
            go_wp2
            go_ret
            exact ⟨rfl, by go_grown⟩
        all_goals
          clear h
          go_enter Tryd.func14, Tryd.ntmps14
          go_wp2
          go_ret
          exact ⟨rfl, by go_grown⟩
      all_goals
        clear h
        go_enter Tryd.func14, Tryd.ntmps14
        go_wp2
        go_ret
        exact ⟨rfl, by go_grown⟩
    all_goals
      clear h
      go_enter Tryd.func14, Tryd.ntmps14
      go_wp2
      go_ret
      exact ⟨rfl, by go_grown⟩
  all_goals
    clear h
    go_enter Tryd.func14, Tryd.ntmps14
    go_wp2
    go_ret
    exact ⟨rfl, by go_grown⟩
end Go.Proofs.YtlhjkichambaoaaDoor
