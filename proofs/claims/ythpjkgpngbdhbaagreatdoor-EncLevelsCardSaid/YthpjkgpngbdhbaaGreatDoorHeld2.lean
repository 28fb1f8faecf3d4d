/- The walk of enc.held: waves brought into their range, in the slice that they lie in. -/
import Derived.Test.YthpjkgpngbdhbaaGreatDoorShape2
set_option linter.unusedSimpArgs false
set_option linter.unusedVariables false
namespace Go.Proofs.YthpjkgpngbdhbaaGreatDoor
open Go.RowKit

theorem Nums.at {W : World} {base : Nat} {v : Value} {l : List Int} (h : Nums W base v l) (h1 : 1 ≤ l.length) : ∃ g cap cur, v = .slice (some ⟨g, 0, none⟩) l.length cap ∧ base ≤ g ∧ Blk W g cur 3 ∧ l.length ≤ cap ∧ cap ≤ maxLen ∧ cur.size = cap ∧ cur.toList.take l.length = intsV l := by
  rcases h.1.2 with ⟨_, h0⟩ | ⟨g, cap, cur, rfl, hb, hg, h3, h4, h5, h6⟩
  · omega
  · exact ⟨g, cap, cur, rfl, hb, hg, h3, h4, by omega, by rwa [Nat.mul_one] at h6⟩
theorem Nums.of {W : World} {base g cap : Nat} {cur : Array Value} {l : List Int} (hb : base ≤ g) (hg : Blk W g cur 3) (h3 : l.length ≤ cap) (h4 : cap ≤ maxLen) (h5 : cur.size = cap) (h6 : cur.toList.take l.length = intsV l) : Nums W base (.slice (some ⟨g, 0, none⟩) l.length cap) l :=
  ⟨⟨by rw [List.length_map]; omega, .inr ⟨g, cap, cur, rfl, hb, hg, h3, h4, by omega, by rw [Nat.mul_one]; exact h6⟩⟩, fun k hk => by
    obtain rfl : g = k := by simpa [Value.ownBlock] using hk
    exact hg.lt, Nat.le_refl _⟩
theorem heldL_get (c : List Int) {i : Nat} (h : i < c.length) : (heldL c).getD i 0 = max (min (c.getD i 0) 1048576) (-1048576) := by
  unfold heldL
  rw [List.getD_eq_getElem?_getD, List.getElem?_map, List.getElem?_eq_getElem h, List.getD_eq_getElem?_getD, List.getElem?_eq_getElem h]; rfl
theorem cur_get {cur : Array Value} {l : List Int} (h6 : cur.toList.take l.length = intsV l) {i : Nat} (hi : i < l.length) : cur[i]? = some (.int .i64 (l.getD i 0)) := by
  have h := congrArg (fun x : List Value => x[i]?) h6
  simp only [List.getElem?_take, if_pos hi] at h
  rw [← Array.getElem?_toList, h]
  exact ints_get hi
theorem cur_set {cur : Array Value} {l : List Int} (h6 : cur.toList.take l.length = intsV l) {i : Nat} (x : Int) : (cur.setIfInBounds i (.int .i64 x)).toList.take (l.set i x).length = intsV (l.set i x) := by
  rw [Array.toList_setIfInBounds, List.length_set, List.take_set, h6]
  exact ints_set l i x

set_option maxRecDepth 100000 in
set_option maxHeartbeats 1600000 in
theorem held_any (c : List Int) (n : Nat) (hn : c.length = n) (h1 : 1 ≤ n) (base : Nat) (v : Value) (w : World) (hN : Nums w base v c) :
    Calls Tryz.prog 70 #[v] w fun e w' => e = .returned v ∧ Nums w' base v (heldL c) ∧ Below base w w' := by
  obtain ⟨g, cap, cur, rfl, hbg, hg, h3, h4, h5, h6⟩ := hN.at (by omega)
  have hh := heldL_len c
  obtain ⟨F, hF⟩ : ∃ F, heldL c = F := ⟨_, rfl⟩
  have hget := fun i (hi : i < c.length) => heldL_get c hi
  simp only [hF] at hget
  rw [hF] at hh ⊢
  rw [hn] at hh h3 ⊢
  simp only [hn] at hget
  have HG := Lib.hid hget
  have HH := Lib.hid hh
  have HN := Lib.hid hn
  have hcm := h4
  unfold maxLen at hcm
  have hbs : base ≤ w.heap.size := by have := hg.lt; omega
  have hb0 := Below.refl base w
  have hT0 : Hid (cur.toList.take (turnF F c 0).length = intsV (turnF F c 0)) := Lib.hid (by rw [turnF_zero]; exact h6)
  clear hget hh hF hn hN h6
  go_enter Tryz.func70, Tryz.ntmps70
  go_wp2_with fail
  go_loopw [7] (fun iv wr => ∃ (i : Nat) (cu : Array Value), i ≤ n ∧ iv = .int .i64 i ∧ Blk wr g cu 3 ∧ cu.size = cap ∧ Hid (cu.toList.take (turnF F c i).length = intsV (turnF F c i)) ∧ Below base w wr) (fun iv _ => n - (intOf iv).toNat)
  case atStart => exact ⟨0, cur, by omega, rfl, hg, h5, hT0, hb0⟩
  case round =>
    clear hg hb0 h5 hT0
    obtain ⟨i, cu, hi2, rfl, hg, h5, HT, hb⟩ := hrel
    by_cases hlt : i < n
    · have hlti : (i : Int) < (n : Int) := by omega
      have LT := turnF_len (k := i) HH.out HN.out (Nat.le_of_lt hlt)
      have hx := turnF_get (f := F) (o := c) (k := i) HH.out hlt
      have hset := turnF_set (k := i) HH.out HN.out hlt (HG.out i hlt)
      obtain ⟨T, hTe⟩ : ∃ T, turnF F c i = T := ⟨_, rfl⟩
      have ht := HT.out
      rw [hTe] at LT hx hset ht
      have cx := (hg.cell i).trans (cur_get ht (by rw [LT.out]; exact hlt))
      rw [hx] at cx
      have hsz : i < cu.size := by omega
      have hcs := cur_set ht (i := i) (max (min (c.getD i 0) 1048576) (-1048576))
      rw [hset] at hcs
      have f3 := hg.frozen i
      obtain ⟨x, hxe⟩ : ∃ x, c.getD i 0 = x := ⟨_, rfl⟩
      rw [hxe] at cx hcs
      obtain ⟨z, hz⟩ : ∃ z, max (min x 1048576) (-1048576) = z := ⟨_, rfl⟩
      rw [hz] at hcs
      have HZ := Lib.hid hz
      have HCS := Lib.hid hcs
      have HG2 := hg.set i (.int .i64 z)
      clear hcs hz hset hx ht hxe hTe HT LT
      go_wp2_with fail
      rw [HZ.out]
      go_roundw
      case rel => exact ⟨i + 1, cu.setIfInBounds i (.int .i64 z), hlt, by go_num, HG2, by rw [Array.size_setIfInBounds]; exact h5, HCS, by exact bl_⟩
      case measure => simp [intOf]; omega
    · obtain rfl : n = i := by omega
      have ht := HT.out
      rw [turnF_all HH.out HN.out] at ht
      have hl := HH.out
      go_wp2_with fail
      go_ret
      refine ⟨rfl, ?_, hb⟩
      have h := Nums.of (base := base) hbg hg (by omega) h4 h5 ht
      rw [hl] at h
      exact h
end Go.Proofs.YthpjkgpngbdhbaaGreatDoor
