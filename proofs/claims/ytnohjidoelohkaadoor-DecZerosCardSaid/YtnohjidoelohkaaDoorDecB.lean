/- The walks of slices.ContainsFunc on whole numbers, of level.sum, level.right, level.Fill. -/
import Derived.Test.YtnohjidoelohkaaDoorDecA
import Derived.Test.YtnohjidoelohkaaDoorSpecVect
import Derived.Deep.OwnRows
namespace Go.Proofs.YtnohjidoelohkaaDoor
open Go.RowKit

/-- A slice whose numbers lie in memory, wherever it came from. -/
def SliceI (W : World) (v : Value) (l : List Int) : Prop :=
  ∃ o cap, v = .slice o l.length cap ∧ l.length ≤ cap ∧ cap ≤ 9223372036854775807 ∧ ∀ (j : Nat) (x : Int), l[j]? = some x → ∃ g f, o = some ⟨g, f, none⟩ ∧ W.cell? ⟨g, f + j, none⟩ = some (.int .i64 x)
theorem Row.sliceI {W : World} {v : Value} {l : List Int} (h : Row W 3 v (intsV l)) : SliceI W v l := by
  have h' := h
  rcases h.2 with ⟨rfl, h0⟩ | ⟨g, cap, cur, rfl, hb, hg, hn, hc, hs, ht⟩
  · have h1 : l = [] := by simpa using h0
    subst h1
    exact ⟨none, 0, rfl, Nat.le_refl _, by omega, fun j x hx => by simp at hx⟩
  · rw [List.length_map] at h' hn ⊢
    refine ⟨_, cap, rfl, hn, by simpa [maxLen] using hc, fun j x hx => ⟨g, 0, rfl, ?_⟩⟩
    have hj : j < l.length := (List.getElem?_eq_some_iff.1 hx).1
    rw [Nat.zero_add, h'.cellAt (by simp) j hj, ints_get hj, List.getD_eq_getElem?_getD, hx, Option.getD_some]

set_option maxHeartbeats 800000 in
theorem Index_any (f : FuncId) (p : Int → Bool) (l : List Int) (v : Value) (w : World) (hS : SliceI w v l) (hl : l.length ≤ 1000000) (hcf : ∀ (x : Int) (w : World), (callFunc f #[.int .i64 x]).run Tryd.prog w = .ok (.enter f #[.int .i64 x]) w) (hf : ∀ x ∈ l, ∀ w, Calls Tryd.prog f #[.int .i64 x] w fun e w' => e = .returned (.bool (p x)) ∧ w = w') :
    Calls Tryd.prog 52 #[v, .func (.func f) #[] #[]] w fun e w' => (∃ r : Int, e = .returned (.int .i64 r) ∧ decide (0 ≤ r) = l.any p) ∧ w = w' := by
  obtain ⟨o, cap, rfl, hc1, hc2, hcl⟩ := hS
  have HC := Lib.hid hcl
  have HF := Lib.hid hf
  clear hcl hf
  go_enter Tryd.func52, Tryd.ntmps52
  go_wp2_with fail
  go_loop [8] (fun i => ∃ k : Nat, k ≤ l.length ∧ i = .int .i64 k ∧ Hid ((l.take k).any p = false)) (fun i => l.length - (intOf i).toNat)
  case atStart => exact ⟨0, Nat.zero_le _, rfl, Lib.hid rfl⟩
  case round =>
    obtain ⟨k, hk, rfl, HA⟩ := hrel
    by_cases hlt : k < l.length
    · obtain ⟨x, hx⟩ : ∃ x, l[k]? = some x := ⟨_, List.getElem?_eq_getElem hlt⟩
      obtain ⟨g, f0, rfl, hcell⟩ := HC.out k x hx
      have hfx := HF.out x (List.mem_of_getElem? hx)
      have htk : l.take (k + 1) = l.take k ++ [x] := by rw [List.take_add_one, hx]; rfl
      have hany : (l.take (k + 1)).any p = p x := by rw [htk, List.any_append, HA.out]; simp
      have hall : p x = true → l.any p = true := fun h => List.any_eq_true.2 ⟨x, List.mem_of_getElem? hx, h⟩
      have HAN := Lib.hid hany
      have HAL := Lib.hid hall
      clear hany hall htk hx
      cases hp : p x with
      | true =>
        rw [hp] at hfx
        go_wp2_with fail
        refine (hfx _).mono ?_
        rintro e w1 ⟨rfl, rfl⟩
        go_wp2_with fail
        go_ret
        exact ⟨⟨_, rfl, by rw [HAL.out hp]; simp⟩, rfl⟩
      | false =>
        rw [hp] at hfx
        go_wp2_with fail
        refine (hfx _).mono ?_
        rintro e w1 ⟨rfl, rfl⟩
        go_wp2_with fail
        go_round
        case rel => exact ⟨k + 1, hlt, by go_num, Lib.hid (by rw [HAN.out, hp])⟩
        case measure => simp [intOf]; omega
    · obtain rfl : k = l.length := by omega
      have h := HA.out
      rw [List.take_length] at h
      go_wp2_with fail
      go_ret
      exact ⟨⟨_, rfl, by first | (rw [h]; rfl) | (simp [h]) | decide⟩, rfl⟩
set_option maxHeartbeats 400000 in
theorem Contains_any (f : FuncId) (p : Int → Bool) (l : List Int) (v : Value) (w : World) (hS : SliceI w v l) (hl : l.length ≤ 1000000) (hcf : ∀ (x : Int) (w : World), (callFunc f #[.int .i64 x]).run Tryd.prog w = .ok (.enter f #[.int .i64 x]) w) (hf : ∀ x ∈ l, ∀ w, Calls Tryd.prog f #[.int .i64 x] w fun e w' => e = .returned (.bool (p x)) ∧ w = w') :
    Calls Tryd.prog 27 #[v, .func (.func f) #[] #[]] w fun e w' => e = .returned (.bool (l.any p)) ∧ w = w' := by
  have hI := Index_any f p l v w hS hl hcf hf
  clear hf hS
  go_enter Tryd.func27, Tryd.ntmps27
  go_wp2_with fail
  refine hI.mono ?_
  rintro e w1 ⟨⟨r, rfl, hr⟩, rfl⟩
  go_wp2_with fail
  go_ret
  rw [← hr]
  exact ⟨by simp, rfl⟩
/-- Pulses that are no band's. -/
def farP (x : Int) : Bool := decide (x < -8) || decide (8 < x)
theorem right1_any (x : Int) (w : World) : Calls Tryd.prog 68 #[.int .i64 x] w fun e w' => e = .returned (.bool (farP x)) ∧ w = w' := by
  unfold farP
  by_cases h1 : x < -8
  · go_enter Tryd.func68, Tryd.ntmps68
    go_wp2
    go_ret
    exact ⟨by simp [h1], rfl⟩
  · go_enter Tryd.func68, Tryd.ntmps68
    go_wp2
    go_ret
    exact ⟨by simp; omega, rfl⟩
theorem far_none {l : List Int} (h : ∀ x ∈ l, -8 ≤ x ∧ x ≤ 8) : l.any farP = false := by
  rw [List.any_eq_false]
  intro x hx
  have := h x hx
  unfold farP
  simp; omega
set_option maxHeartbeats 400000 in
theorem right_yes (lev : Int) (h0 : 0 ≤ lev) (h1 : lev ≤ 20) (l : List Int) (v : Value) (w : World) (hS : SliceI w v l) (hl : l.length ≤ 8) (hb : ∀ x ∈ l, -8 ≤ x ∧ x ≤ 8) :
    Calls Tryd.prog 59 #[.int .i64 lev, v] w fun e w' => e = .returned (.bool true) ∧ w = w' := by
  have hC := Contains_any 68 farP l v w hS (by omega) (fun _ _ => by kernel_rfl) (fun x _ w => right1_any x w)
  rw [far_none hb] at hC
  obtain ⟨o, cap, rfl, hc1, hc2, _⟩ := hS
  have hl2 : (l.length : Int) ≤ 8 := by omega
  go_enter Tryd.func59, Tryd.ntmps59
  go_wp2_with fail
  refine hC.mono ?_
  rintro e w1 ⟨rfl, rfl⟩
  go_wp2_with fail
  go_ret
  exact ⟨rfl, rfl⟩
theorem Sp.sizes_snoc (l : List Int) (x : Int) : Sp.sizes (l ++ [x]) = Sp.sizes l + max x (-x) := by simp [Sp.sizes]
theorem Sp.sizes_bd (l : List Int) (h : ∀ x ∈ l, -8 ≤ x ∧ x ≤ 8) : 0 ≤ Sp.sizes l ∧ Sp.sizes l ≤ 8 * l.length := by
  induction l with
  | nil => simp [Sp.sizes]
  | cons x l ih =>
    have h1 := ih (fun y hy => h y (List.mem_cons_of_mem _ hy))
    have h2 := h x List.mem_cons_self
    rw [Sp.sizes_cons]
    simp only [List.length_cons]
    omega
set_option maxHeartbeats 800000 in
theorem sum_any (l : List Int) (v : Value) (w : World) (hS : SliceI w v l) (hl : l.length ≤ 8) (hb : ∀ x ∈ l, -8 ≤ x ∧ x ≤ 8) :
    Calls Tryd.prog 60 #[v] w fun e w' => e = .returned (.int .i64 (Sp.sizes l)) ∧ w = w' := by
  obtain ⟨o, cap, rfl, hc1, hc2, hcl⟩ := hS
  have HC := Lib.hid hcl
  have HB := Lib.hid hb
  clear hcl hb
  go_enter Tryd.func60, Tryd.ntmps60
  go_wp2_with fail
  go_loop [3, 8] (fun s i => ∃ k : Nat, k ≤ l.length ∧ i = .int .i64 k ∧ s = .int .i64 (Sp.sizes (l.take k))) (fun _ i => l.length - (intOf i).toNat)
  case atStart => exact ⟨0, Nat.zero_le _, rfl, rfl⟩
  case round =>
    obtain ⟨k, hk, rfl, rfl⟩ := hrel
    have hbd := Sp.sizes_bd (l.take k) (fun x hx => HB.out x (List.mem_of_mem_take hx))
    rw [List.length_take] at hbd
    by_cases hlt : k < l.length
    · obtain ⟨x, hx⟩ : ∃ x, l[k]? = some x := ⟨_, List.getElem?_eq_getElem hlt⟩
      obtain ⟨g, f0, rfl, hcell⟩ := HC.out k x hx
      have hx8 := HB.out x (List.mem_of_getElem? hx)
      have htk : Sp.sizes (l.take (k + 1)) = Sp.sizes (l.take k) + max x (-x) := by rw [List.take_add_one, hx, Option.toList_some, Sp.sizes_snoc]
      have HT := Lib.hid htk
      have hm1 : max (min x 1099511627776) (-1099511627776) = x := by omega
      have hm2 : 0 ≤ max x (-x) ∧ max x (-x) ≤ 8 := by omega
      obtain ⟨y, hy⟩ : ∃ y, max x (-x) = y := ⟨_, rfl⟩
      rw [hy] at hm2
      have HY := Lib.hid hy
      obtain ⟨s, hs⟩ : ∃ s, Sp.sizes (l.take k) = s := ⟨_, rfl⟩
      rw [hs] at hbd ⊢
      have HS := Lib.hid hs
      clear htk hx hs
      go_wp2_with fail
      go_round
      case rel => exact ⟨k + 1, hlt, by go_num, by rw [HT.out, HS.out, HY.out]⟩
      case measure => simp [intOf]; omega
    · obtain rfl : k = l.length := by omega
      rw [List.take_length]
      go_wp2_with fail
      go_ret
      exact ⟨rfl, rfl⟩
end Go.Proofs.YtnohjidoelohkaaDoor
