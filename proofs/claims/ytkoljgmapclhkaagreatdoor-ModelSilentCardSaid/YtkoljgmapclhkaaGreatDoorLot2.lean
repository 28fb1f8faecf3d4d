/- The walks of slices.ContainsFunc on whole numbers, of level.sum, level.right, level.Fill. The walk of level.Fill: a band's waves out of its pulses. The walk of level.Put: a band's waves laid into a frame's. The walks of package spare: what pulses cost, how many each band has. The walk of spare.Pulses: how many pulses each band has. The walks of dec.may, state.fits and dec.band. The walk of dec.band where a band has pulses. The walk of mdct.Held: are a frame's numbers small enough? The walk of state.Right: is a state right? A state's 38 numbers lie in one row: 16 of Mem, Last, 4 Levels, 16 Waves, Lost. The plain words of a packet decoded: levels, waves, the way back, the tilt, the state behind. -/
import Derived.Test.YtkoljgmapclhkaaGreatDoorLot1
import Derived.Test.YtkoljgmapclhkaaGreatDoorLot0
import Derived.Deep.OwnRows
import Derived.Laws.CopyRow
import Derived.Deep.WholeRow
import Derived.Deep.MidRow
import Derived.Deep.RegionHeld3
import Derived.Deep.Cut
import Derived.WalkMore
set_option linter.unusedSimpArgs false
set_option linter.unusedVariables false
namespace Go.Proofs.YtkoljgmapclhkaaGreatDoor
open Go.RowKit

/-- A slice whose numbers lie in memory, wherever it came from. -/
def SliceI (W : World) (v : Value) (l : List Int) : Prop :=
  ∃ o cap, v = .slice o l.length cap ∧ l.length ≤ cap ∧ cap ≤ 9223372036854775807 ∧ ∀ (j : Nat) (x : Int), l[j]? = some x → ∃ g f, o = some ⟨g, f, none⟩ ∧ W.cell? ⟨g, f + j, none⟩ = some (.int .i64 x)
theorem Row.sliceI {W : World} {v : Value} {l : List Int} (h : Row W 3 v (intsV l)) : SliceI W v l := by
  have h' := h
  rcases h.2 with ⟨rfl, h0⟩ | ⟨g, cap, cur, rfl, hb, hg, hn, hc, hs, ht⟩
  · have h1 : l = [] := by simpa using h0
    subst h1
    exact ⟨none, 0, rfl, Nat.le_refl _, by omega, fun j x hx => by simp at hx⟩
  · rw [List.length_map] at h' hn ⊢
    refine ⟨_, cap, rfl, hn, by simpa [maxLen] using hc, fun j x hx => ⟨g, 0, rfl, ?_⟩⟩
    have hj : j < l.length := (List.getElem?_eq_some_iff.1 hx).1
    rw [Nat.zero_add, h'.cellAt (by simp) j hj, ints_get hj, List.getD_eq_getElem?_getD, hx, Option.getD_some]

set_option maxHeartbeats 800000 in
theorem Index_any (f : FuncId) (p : Int → Bool) (l : List Int) (v : Value) (w : World) (hS : SliceI w v l) (hl : l.length ≤ 1000000) (hcf : ∀ (x : Int) (w : World), (callFunc f #[.int .i64 x]).run Tryz.prog w = .ok (.enter f #[.int .i64 x]) w) (hf : ∀ x ∈ l, ∀ w, Calls Tryz.prog f #[.int .i64 x] w fun e w' => e = .returned (.bool (p x)) ∧ w = w') :
    Calls Tryz.prog 146 #[v, .func (.func f) #[] #[]] w fun e w' => (∃ r : Int, e = .returned (.int .i64 r) ∧ decide (0 ≤ r) = l.any p) ∧ w = w' := by
  obtain ⟨o, cap, rfl, hc1, hc2, hcl⟩ := hS
  have HC := Lib.hid hcl
  have HF := Lib.hid hf
  clear hcl hf
  go_enter Tryz.func146, Tryz.ntmps146
  go_wp2_with fail
  go_loop [8] (fun i => ∃ k : Nat, k ≤ l.length ∧ i = .int .i64 k ∧ Hid ((l.take k).any p = false)) (fun i => l.length - (intOf i).toNat)
  case atStart => exact ⟨0, Nat.zero_le _, rfl, Lib.hid rfl⟩
  case round =>
    obtain ⟨k, hk, rfl, HA⟩ := hrel
    by_cases hlt : k < l.length
    · obtain ⟨x, hx⟩ : ∃ x, l[k]? = some x := ⟨_, List.getElem?_eq_getElem hlt⟩
      obtain ⟨g, f0, rfl, hcell⟩ := HC.out k x hx
      have hfx := HF.out x (List.mem_of_getElem? hx)
      have htk : l.take (k + 1) = l.take k ++ [x] := by rw [List.take_add_one, hx]; rfl
      have hany : (l.take (k + 1)).any p = p x := by rw [htk, List.any_append, HA.out]; simp
      have hall : p x = true → l.any p = true := fun h => List.any_eq_true.2 ⟨x, List.mem_of_getElem? hx, h⟩
      have HAN := Lib.hid hany
      have HAL := Lib.hid hall
      clear hany hall htk hx
      cases hp : p x with
      | true =>
        rw [hp] at hfx
        go_wp2_with fail
        refine (hfx _).mono ?_
        rintro e w1 ⟨rfl, rfl⟩
        go_wp2_with fail
        go_ret
        exact ⟨⟨_, rfl, by rw [HAL.out hp]; simp⟩, rfl⟩
      | false =>
        rw [hp] at hfx
        go_wp2_with fail
        refine (hfx _).mono ?_
        rintro e w1 ⟨rfl, rfl⟩
        go_wp2_with fail
        go_round
        case rel => exact ⟨k + 1, hlt, by go_num, Lib.hid (by rw [HAN.out, hp])⟩
        case measure => simp [intOf]; omega
    · obtain rfl : k = l.length := by omega
      have h := HA.out
      rw [List.take_length] at h
      go_wp2_with fail
      go_ret
      exact ⟨⟨_, rfl, by first | (rw [h]; rfl) | (simp [h]) | decide⟩, rfl⟩
set_option maxHeartbeats 400000 in
theorem Contains_any (f : FuncId) (p : Int → Bool) (l : List Int) (v : Value) (w : World) (hS : SliceI w v l) (hl : l.length ≤ 1000000) (hcf : ∀ (x : Int) (w : World), (callFunc f #[.int .i64 x]).run Tryz.prog w = .ok (.enter f #[.int .i64 x]) w) (hf : ∀ x ∈ l, ∀ w, Calls Tryz.prog f #[.int .i64 x] w fun e w' => e = .returned (.bool (p x)) ∧ w = w') :
    Calls Tryz.prog 106 #[v, .func (.func f) #[] #[]] w fun e w' => e = .returned (.bool (l.any p)) ∧ w = w' := by
  have hI := Index_any f p l v w hS hl hcf hf
  clear hf hS
  go_enter Tryz.func106, Tryz.ntmps106
  go_wp2_with fail
  refine hI.mono ?_
  rintro e w1 ⟨⟨r, rfl, hr⟩, rfl⟩
  go_wp2_with fail
  go_ret
  rw [← hr]
  exact ⟨by simp, rfl⟩
/-- Pulses that are no band's. -/
def farP (x : Int) : Bool := decide (x < -8) || decide (8 < x)
theorem right1_any (x : Int) (w : World) : Calls Tryz.prog 177 #[.int .i64 x] w fun e w' => e = .returned (.bool (farP x)) ∧ w = w' := by
  unfold farP
  by_cases h1 : x < -8
  · go_enter Tryz.func177, Tryz.ntmps177
    go_wp2
    go_ret
    exact ⟨by simp [h1], rfl⟩
  · go_enter Tryz.func177, Tryz.ntmps177
    go_wp2
    go_ret
    exact ⟨by simp; omega, rfl⟩
theorem far_none {l : List Int} (h : ∀ x ∈ l, -8 ≤ x ∧ x ≤ 8) : l.any farP = false := by
  rw [List.any_eq_false]
  intro x hx
  have := h x hx
  unfold farP
  simp; omega
set_option maxHeartbeats 400000 in
theorem right_yes (lev : Int) (h0 : 0 ≤ lev) (h1 : lev ≤ 20) (l : List Int) (v : Value) (w : World) (hS : SliceI w v l) (hl : l.length ≤ 8) (hb : ∀ x ∈ l, -8 ≤ x ∧ x ≤ 8) :
    Calls Tryz.prog 150 #[.int .i64 lev, v] w fun e w' => e = .returned (.bool true) ∧ w = w' := by
  have hC := Contains_any 177 farP l v w hS (by omega) (fun _ _ => by kernel_rfl) (fun x _ w => right1_any x w)
  rw [far_none hb] at hC
  obtain ⟨o, cap, rfl, hc1, hc2, _⟩ := hS
  have hl2 : (l.length : Int) ≤ 8 := by omega
  go_enter Tryz.func150, Tryz.ntmps150
  go_wp2_with fail
  refine hC.mono ?_
  rintro e w1 ⟨rfl, rfl⟩
  go_wp2_with fail
  go_ret
  exact ⟨rfl, rfl⟩
theorem Sp.sizes_snoc (l : List Int) (x : Int) : Sp.sizes (l ++ [x]) = Sp.sizes l + max x (-x) := by simp [Sp.sizes]
theorem Sp.sizes_bd (l : List Int) (h : ∀ x ∈ l, -8 ≤ x ∧ x ≤ 8) : 0 ≤ Sp.sizes l ∧ Sp.sizes l ≤ 8 * l.length := by
  induction l with
  | nil => simp [Sp.sizes]
  | cons x l ih =>
    have h1 := ih (fun y hy => h y (List.mem_cons_of_mem _ hy))
    have h2 := h x List.mem_cons_self
    rw [Sp.sizes_cons]
    simp only [List.length_cons]
    omega
set_option maxHeartbeats 800000 in
theorem sum_any (l : List Int) (v : Value) (w : World) (hS : SliceI w v l) (hl : l.length ≤ 8) (hb : ∀ x ∈ l, -8 ≤ x ∧ x ≤ 8) :
    Calls Tryz.prog 132 #[v] w fun e w' => e = .returned (.int .i64 (Sp.sizes l)) ∧ w = w' := by
  obtain ⟨o, cap, rfl, hc1, hc2, hcl⟩ := hS
  have HC := Lib.hid hcl
  have HB := Lib.hid hb
  clear hcl hb
  go_enter Tryz.func132, Tryz.ntmps132
  go_wp2_with fail
  go_loop [3, 8] (fun s i => ∃ k : Nat, k ≤ l.length ∧ i = .int .i64 k ∧ s = .int .i64 (Sp.sizes (l.take k))) (fun _ i => l.length - (intOf i).toNat)
  case atStart => exact ⟨0, Nat.zero_le _, rfl, rfl⟩
  case round =>
    obtain ⟨k, hk, rfl, rfl⟩ := hrel
    have hbd := Sp.sizes_bd (l.take k) (fun x hx => HB.out x (List.mem_of_mem_take hx))
    rw [List.length_take] at hbd
    by_cases hlt : k < l.length
    · obtain ⟨x, hx⟩ : ∃ x, l[k]? = some x := ⟨_, List.getElem?_eq_getElem hlt⟩
      obtain ⟨g, f0, rfl, hcell⟩ := HC.out k x hx
      have hx8 := HB.out x (List.mem_of_getElem? hx)
      have htk : Sp.sizes (l.take (k + 1)) = Sp.sizes (l.take k) + max x (-x) := by rw [List.take_add_one, hx, Option.toList_some, Sp.sizes_snoc]
      have HT := Lib.hid htk
      have hm1 : max (min x 1099511627776) (-1099511627776) = x := by omega
      have hm2 : 0 ≤ max x (-x) ∧ max x (-x) ≤ 8 := by omega
      obtain ⟨y, hy⟩ : ∃ y, max x (-x) = y := ⟨_, rfl⟩
      rw [hy] at hm2
      have HY := Lib.hid hy
      obtain ⟨s, hs⟩ : ∃ s, Sp.sizes (l.take k) = s := ⟨_, rfl⟩
      rw [hs] at hbd ⊢
      have HS := Lib.hid hs
      clear htk hx hs
      go_wp2_with fail
      go_round
      case rel => exact ⟨k + 1, hlt, by go_num, by rw [HT.out, HS.out, HY.out]⟩
      case measure => simp [intOf]; omega
    · obtain rfl : k = l.length := by omega
      rw [List.take_length]
      go_wp2_with fail
      go_ret
      exact ⟨rfl, rfl⟩
end Go.Proofs.YtkoljgmapclhkaaGreatDoor

namespace Go.Proofs.YtkoljgmapclhkaaGreatDoor
open Go.RowKit

/-- A band's waves. -/
def fillL (lev : Nat) (l : List Int) : List Int := if lev = 0 ∨ Sp.sizes l = 0 then List.replicate l.length 0 else l.map fun n => (n * 3 * 2 ^ lev).tdiv (4 * Sp.sizes l)
theorem fillL_len (lev : Nat) (l : List Int) : (fillL lev l).length = l.length := by unfold fillL; split <;> simp
theorem cellI_lt {W : World} {a : Addr} {v : Value} (h : W.cell? a = some v) : a.block < W.heap.size := by
  rcases Nat.lt_or_ge a.block W.heap.size with h1 | h1
  · exact h1
  · simp [World.cell?, Array.getElem?_eq_none h1] at h
theorem SliceI.cellAt {W W' : World} {v : Value} {l : List Int} (h : SliceI W v l) (hb : Below W.heap.size W W') : SliceI W' v l := by
  obtain ⟨o, cap, hv, h1, h2, h3⟩ := h
  refine ⟨o, cap, hv, h1, h2, fun j x hx => ?_⟩
  obtain ⟨g, f, ho, hc⟩ := h3 j x hx
  exact ⟨g, f, ho, (hb.cell (cellI_lt hc)).trans hc⟩
theorem Row.made (w : World) (n : Nat) (hn : n ≤ 1000000) : Row (w.alloc (.cells (madeCells #[.int .i64 0] n) 3)) 3 (.slice (some ⟨w.heap.size, 0, none⟩) n n) (intsV (List.replicate n 0)) := by
  have h := World.ownsRow_lit (base := 0) (e := 3) (size := 1) w (madeCells #[.int .i64 0] n) n (Nat.zero_le _) (by unfold maxLen; omega) (by simp [size_madeCells])
  have e : (madeCells #[.int .i64 0] n).toList = intsV (List.replicate n 0) := by rw [toList_madeCells_one]; simp
  rw [e] at h
  exact Row.mk h
theorem madeI : (Tryz.prog.info? 3).map (fun i => (i.zero, i.size, i.bytes)) = some (some (.int .i64 0), 1, 8) := by kernel_rfl
/-- A list filled so far. -/
def partL (f : List Int) (k : Nat) : List Int := f.take k ++ List.replicate (f.length - k) 0
theorem partL_zero (f : List Int) : partL f 0 = List.replicate f.length 0 := by simp [partL]
theorem partL_all (f : List Int) : partL f f.length = f := by simp [partL]
theorem partL_len (f : List Int) {k : Nat} (h : k ≤ f.length) : (partL f k).length = f.length := by simp [partL]; omega
theorem partL_set (f : List Int) {k : Nat} (h : k < f.length) : (partL f k).set k (f.getD k 0) = partL f (k + 1) := by
  unfold partL
  obtain ⟨d, hd⟩ : ∃ d, f.length - k = d + 1 := ⟨f.length - k - 1, by omega⟩
  rw [hd, show f.length - (k + 1) = d from by omega, List.replicate_succ, List.set_append_right _ _ (by rw [List.length_take]; omega), List.length_take, show k - min k f.length = 0 from by omega, List.set_cons_zero, List.take_add_one, List.getElem?_eq_getElem h, Option.toList_some, List.append_assoc, List.getD_eq_getElem?_getD, List.getElem?_eq_getElem h]
  rfl
theorem pow_bd20 {a : Nat} (h : a ≤ 20) : (1 : Int) ≤ 2 ^ a ∧ (2 : Int) ^ a ≤ 1048576 := by
  have h2 : (2 : Int) ^ a ≤ 2 ^ 20 := by exact_mod_cast (Nat.pow_le_pow_right (by omega : 0 < 2) h)
  have h3 : (0 : Int) < 2 ^ a := Int.pow_pos (by omega)
  omega
theorem quo_bd {n K : Int} {P : Int} (hn : -8 ≤ n ∧ n ≤ 8) (hP : 1 ≤ P ∧ P ≤ 1048576) (hK : 1 ≤ K) : -(24 * P) ≤ n * 3 * P ∧ n * 3 * P ≤ 24 * P ∧ -(24 * P) ≤ (n * 3 * P).tdiv (4 * K) ∧ (n * 3 * P).tdiv (4 * K) ≤ 24 * P := by
  have h1 : n * 3 * P ≤ 24 * P := Int.mul_le_mul_of_nonneg_right (by omega) (by omega)
  have h2 : (-24) * P ≤ n * 3 * P := Int.mul_le_mul_of_nonneg_right (by omega) (by omega)
  have h3 : ((n * 3 * P).tdiv (4 * K)).natAbs ≤ (n * 3 * P).natAbs := by rw [Int.natAbs_tdiv]; exact Nat.div_le_self _ _
  omega

set_option maxRecDepth 100000 in
set_option maxHeartbeats 1600000 in
theorem Fill_any (lev : Nat) (h1 : lev ≤ 20) (l : List Int) (v : Value) (w : World) (hS : SliceI w v l) (hl : l.length ≤ 8) (hb : ∀ x ∈ l, -8 ≤ x ∧ x ≤ 8) :
    Calls Tryz.prog 119 #[.int .i64 lev, v] w fun e w' => ∃ v', e = .returned v' ∧ Row w' 3 v' (intsV (fillL lev l)) ∧ Below w.heap.size w w' ∧ Hid (∀ g, v'.ownBlock = some g → w.heap.size ≤ g) := by
  have hmk : ∀ w, (Instr.makeSlice 48 (.int .i64 (l.length : Int)) (.int .i64 (l.length : Int))).run Tryz.prog w = .ok (.slice (some ⟨w.heap.size, 0, none⟩) l.length l.length) (w.alloc (.cells (madeCells #[.int .i64 0] l.length) 3)) :=
    run_make_row' 48 3 (.int .i64 0) 8 Tryz.underlying48 madeI rfl .i64 .i64 l.length (by omega) (by omega)
  have hb0 : Below w.heap.size w (w.alloc (.cells (madeCells #[.int .i64 0] l.length) 3)) := (Below.refl _ _).alloc (Nat.le_refl _) _
  have hS0 := hS.cellAt hb0
  have hR0 := Row.made w l.length (by omega)
  have hr := right_yes lev (by omega) (by omega) l v _ hS0 hl hb
  have hsum := sum_any l v _ hS0 hl hb
  have hsz := Sp.sizes_bd l hb
  obtain ⟨o, cap, rfl, hc1, hc2, hcl⟩ := hS
  have HC := Lib.hid hcl
  have HB := Lib.hid hb
  have hlev : (lev : Int) ≤ 20 := by omega
  clear hcl hb hS0
  obtain ⟨B, hB⟩ : ∃ B, w.heap.size = B := ⟨_, rfl⟩
  rw [hB] at hR0
  by_cases hz : lev = 0
  · subst hz
    have hf : fillL 0 l = List.replicate l.length 0 := by unfold fillL; rw [if_pos (.inl rfl)]
    rw [hf]
    go_enter Tryz.func119, Tryz.ntmps119
    go_wp2_with fail
    refine hr.mono ?_
    rintro e w1 ⟨rfl, rfl⟩
    go_wp2_with fail
    go_ret
    exact ⟨_, rfl, hR0, hb0, Lib.hid (by intro g hg; simp [Value.ownBlock] at hg; omega)⟩
  · have hz2 : ¬ (lev : Int) = 0 := by omega
    obtain ⟨K, hK⟩ : ∃ K, Sp.sizes l = K := ⟨_, rfl⟩
    rw [hK] at hsum hsz
    obtain ⟨F, hFF⟩ : ∃ F, fillL lev l = F := ⟨_, rfl⟩
    rw [hFF]
    have HFF := Lib.hid hFF
    clear hFF
    go_enter Tryz.func119, Tryz.ntmps119
    go_wp2_with fail
    refine hr.mono ?_
    rintro e w1 ⟨rfl, rfl⟩
    go_wp2_with fail
    refine hsum.mono ?_
    rintro e w1 ⟨rfl, rfl⟩
    by_cases hK0 : K = 0
    · subst hK0
      have hf : F = List.replicate l.length 0 := by rw [← HFF.out]; unfold fillL; rw [if_pos (.inr hK)]
      have HF := Lib.hid hf
      clear hf
      go_wp2_with fail
      go_loop [25] (fun i => ∃ k : Nat, k ≤ l.length ∧ i = .int .i64 k) (fun i => l.length - (intOf i).toNat)
      case atStart => exact ⟨0, Nat.zero_le _, rfl⟩
      case round =>
        obtain ⟨k, hk, rfl⟩ := hrel
        by_cases hlt : k < l.length
        · obtain ⟨x, hx⟩ : ∃ x, l[k]? = some x := ⟨_, List.getElem?_eq_getElem hlt⟩
          obtain ⟨g, f0, rfl, hcell⟩ := HC.out k x hx
          have hcell2 := (hb0.cell (cellI_lt hcell)).trans hcell
          clear hx
          go_wp2_with fail
          go_round
          case rel => exact ⟨k + 1, hlt, by go_num⟩
          case measure => simp [intOf]; omega
        · obtain rfl : k = l.length := by omega
          go_wp2_with fail
          go_ret
          exact ⟨_, rfl, by rw [HF.out]; exact hR0, by rw [← hB]; exact hb0, Lib.hid (by intro g hg; simp [Value.ownBlock] at hg; omega)⟩
    · have hf : fillL lev l = l.map fun n => (n * 3 * 2 ^ lev).tdiv (4 * K) := by unfold fillL; rw [if_neg (by rw [hK]; omega), hK]
      have hP := pow_bd20 h1
      obtain ⟨P, hPP⟩ : ∃ P, (2 : Int) ^ lev = P := ⟨_, rfl⟩
      rw [hPP] at hf hP
      have hFl : F.length = l.length := by rw [← HFF.out]; exact fillL_len lev l
      rw [HFF.out] at hf
      have HF := Lib.hid hf
      rw [← hFl, ← partL_zero] at hR0
      have HFL := Lib.hid hFl
      clear hf hK
      go_wp2_with fail
      go_loopw [25] (fun i wr => ∃ k : Nat, k ≤ l.length ∧ i = .int .i64 k ∧ Row wr 3 (.slice (some ⟨B, 0, none⟩) l.length l.length) (intsV (partL F k)) ∧ Below w.heap.size w wr) (fun i _ => l.length - (intOf i).toNat)
      case atStart => exact ⟨0, Nat.zero_le _, rfl, by rw [← HFL.out]; exact hR0, hb0⟩
      case round =>
        clear hR0 hb0
        obtain ⟨k, hk, rfl, hR, hb⟩ := hrel
        by_cases hlt : k < l.length
        · obtain ⟨x, hx⟩ : ∃ x, l[k]? = some x := ⟨_, List.getElem?_eq_getElem hlt⟩
          obtain ⟨g, f0, rfl, hcell⟩ := HC.out k x hx
          have hx8 := HB.out x (List.mem_of_getElem? hx)
          have hcell2 := (hb.cell (cellI_lt hcell)).trans hcell
          obtain ⟨t1, t2, t3, t4⟩ := quo_bd hx8 hP (show 1 ≤ K by omega)
          have hFk : F.getD k 0 = (x * 3 * P).tdiv (4 * K) := by rw [HF.out, List.getD_eq_getElem?_getD, List.getElem?_map, hx]; rfl
          obtain ⟨q, hq⟩ : ∃ q, (x * 3 * P).tdiv (4 * K) = q := ⟨_, rfl⟩
          rw [hq] at t3 t4 hFk
          have hset := partL_set F (k := k) (by rw [HFL.out]; exact hlt)
          rw [hFk] at hset
          have HSET := Lib.hid hset
          have hplen : (intsV (partL F k)).length = l.length := by rw [List.length_map, partL_len F (by rw [HFL.out]; omega), HFL.out]
          have hst := hR.stored hplen k (.int .i64 q)
          have f1 := hR.frozenAt hplen k
          have c1 : wr.cell? ⟨B, k, none⟩ = some (.int .i64 ((partL F k).getD k 0)) := by
            rw [hR.cellAt hplen k hlt, ints_get (by rw [List.length_map] at hplen; omega)]
          rw [ints_set, HSET.out] at hst
          have hb2 := hb.setCell (p := ⟨B, k, none⟩) (by show w.heap.size ≤ B; omega) (.int .i64 q)
          clear hx hset hplen hFk
          go_wp2_with fail
          go_roundw
          case rel => exact ⟨k + 1, hlt, by go_num, hst, hb2⟩
          case measure => simp [intOf]; omega
        · obtain rfl : k = l.length := by omega
          go_wp2_with fail
          go_ret
          refine ⟨_, rfl, ?_, hb, Lib.hid (by intro g hg; simp [Value.ownBlock] at hg; omega)⟩
          have h := hR
          rw [← HFL.out, partL_all] at h
          rw [HFL.out] at h
          exact h
end Go.Proofs.YtkoljgmapclhkaaGreatDoor

namespace Go.Proofs.YtkoljgmapclhkaaGreatDoor
open Go.RowKit

theorem Blk.load {W : World} {b : Nat} {cs : Array Value} {t : TypeId} (h : Blk W b cs t) (ty : TypeId) {n : Nat} {e : TypeId} (hu : Tryz.prog.underlying ty = some (.array n e)) (hi : (Tryz.prog.info? ty).map (·.size) = some cs.size) :
    (Instr.loadAt ty (.pointer (some ⟨b, 0, none⟩))).run Tryz.prog W = .ok (.agg cs) W := by
  simp only [Instr.loadAt, Instr.sureAddr, Sem.run_bind, Sem.run_pure, Result.andThen_ok, run_loadVar_row W b t ty cs (0, 0) (.array n e) h hu rfl hi]
theorem Blk.loadS {W : World} {b : Nat} {cs : Array Value} {t : TypeId} (h : Blk W b cs t) (ty : TypeId) {fs : Array Field} (hu : Tryz.prog.underlying ty = some (.struct fs)) (hi : (Tryz.prog.info? ty).map (·.size) = some cs.size) :
    (Instr.loadAt ty (.pointer (some ⟨b, 0, none⟩))).run Tryz.prog W = .ok (.agg cs) W := by
  simp only [Instr.loadAt, Instr.sureAddr, Sem.run_bind, Sem.run_pure, Result.andThen_ok, run_loadVar_row W b t ty cs (0, 0) (.struct fs) h hu rfl hi]
theorem Blk.store {W : World} {b : Nat} {cs new : Array Value} {t : TypeId} (h : Blk W b cs t) (ty : TypeId) (hi : (Tryz.prog.info? ty).map (·.size) = some new.size) (ho : cs.size = new.size) (h1 : new.all (·.oneCell') = true) :
    (Instr.storeAt ty (.pointer (some ⟨b, 0, none⟩)) (.agg new)).run Tryz.prog W = .ok () (W.setRow b new) := by
  simp only [Instr.storeAt, Instr.sureAddr, Sem.run_bind, Sem.run_pure, Result.andThen_ok, run_storeVar_row W b t ty cs new h hi ho h1]
theorem wpList_load_blk {ops : Array Oper} {rest : List Oper} {op : Oper} {a : Act} {w : World} {Q : Exit → Act → World → Prop} (hgd : op.guard = none) (ty : TypeId) (x : Operand) (ho : op.op = .load ty x)
    (b : Nat) (hx : a.eval x = .pointer (some ⟨b, 0, none⟩)) (cs : Array Value) (t : TypeId) (hb : Blk w b cs t) {n : Nat} {e : TypeId} (hu : Tryz.prog.underlying ty = some (.array n e)) (hi : (Tryz.prog.info? ty).map (·.size) = some cs.size)
    (h : wpList Tryz.prog ops Q rest (a.put op.dst (.agg cs)) w) : wpList Tryz.prog ops Q (op :: rest) a w :=
  wpList_plain hgd fun _ hK => by
    unfold Oper.wp execOp
    simp only [ho, hx, Instr.loadAt, Instr.sureAddr, Sem.run_bind, Sem.run_pure, Result.andThen_ok, run_loadVar_row w b t ty cs (0, 0) (.array n e) hb hu rfl hi]
    exact hK _ _ h
theorem wpList_store_blk {ops : Array Oper} {rest : List Oper} {op : Oper} {a : Act} {w : World} {Q : Exit → Act → World → Prop} (hgd : op.guard = none) (ty : TypeId) (x y : Operand) (ho : op.op = .store ty x y)
    (b : Nat) (cs new : Array Value) (hx : a.eval x = .pointer (some ⟨b, 0, none⟩)) (hy : a.eval y = .agg new) (t : TypeId) (hb : Blk w b cs t) (hi : (Tryz.prog.info? ty).map (·.size) = some new.size) (hs : cs.size = new.size) (h1 : new.all (·.oneCell') = true)
    (h : wpList Tryz.prog ops Q rest (a.put op.dst undef) (w.setRow b new)) : wpList Tryz.prog ops Q (op :: rest) a w :=
  wpList_plain hgd fun _ hK => by
    unfold Oper.wp execOp
    simp only [ho, hx, hy, Instr.storeAt, Instr.sureAddr, Sem.run_bind, Sem.run_pure, Result.andThen_ok, run_storeVar_row w b t ty cs new hb hi hs h1]
    exact hK _ _ h
theorem Blk.setRow {W : World} {b : Nat} {cs new : Array Value} {t : TypeId} (h : Blk W b cs t) : Blk (W.setRow b new) b new t := setRow_heap W b cs new t (0, 0) h
theorem Blk.setRowOther {W : World} {b g : Nat} {cs new : Array Value} {t : TypeId} (h : Blk W b cs t) (hne : b ≠ g) : Blk (W.setRow g new) b cs t := (setRow_other W g b new hne).trans h
theorem Below.setRow {B : Nat} {a w : World} (h : Below B a w) {g : Nat} (hg : B ≤ g) (new : Array Value) : Below B a (w.setRow g new) :=
  h.trans ⟨rfl, rfl, rfl, by simp, fun k hk => setRow_other w g k new (by omega)⟩
theorem Kept.setRow {S : Nat → Prop} {w w' : World} (h : Kept S w w') {g : Nat} (hg : S g ∨ w.heap.size ≤ g) (new : Array Value) : Kept S w (w'.setRow g new) :=
  ⟨h.os, h.tape, h.output, by simpa using h.size, fun k hk hn => (setRow_other w' g k new (fun e => by rcases hg with h1 | h1; exact hn (e ▸ h1); omega)).trans (h.block k hk hn)⟩
abbrev arrV (l : List Int) : Array Value := (intsV l).toArray
theorem arr_size (l : List Int) : (arrV l).size = l.length := by simp
theorem ints_one (l : List Int) : ∀ v ∈ intsV l, v.oneCell' = true := by
  intro v hv
  obtain ⟨x, _, rfl⟩ := List.mem_map.1 hv
  rfl
theorem arr_one (l : List Int) : (arrV l).all (·.oneCell') = true := Array.all_eq_true_iff_forall_mem.2 (fun v hv => ints_one l v (by simpa using hv))
theorem blockInfo : (Tryz.prog.info? 26).map (·.size) = some 16 := by kernel_rfl
/-- Numbers laid into others from a place on. -/
def putL (l : List Int) (o : Nat) (c : List Int) : List Int := l.take o ++ c ++ l.drop (o + c.length)
theorem putL_len {l c : List Int} {o : Nat} (h : o + c.length ≤ l.length) : (putL l o c).length = l.length := by simp [putL]; omega
def offN (b : Nat) : Nat := [0, 2, 4, 8].getD b 0

theorem copy_put {W : World} {xb g cap : Nat} {l c : List Int} {t : TypeId} (hX : Blk W xb (arrV l) t) (hR : Row W 3 (.slice (some ⟨g, 0, none⟩) c.length cap) (intsV c)) (o d n : Nat) (hn : c.length = n) (hd : o + d = 16) (hl : l.length = 16) (hnd : n ≤ d) :
    (Builtin.copy_ #[48, 48] 3 #[.slice (some ⟨xb, o, none⟩) d d, .slice (some ⟨g, 0, none⟩) n cap]).run Tryz.prog W = .ok (goInt (n : Nat)) (W.setRow xb (arrV (putL l o c))) := by
  have hlen : (intsV c).length = n := by rw [List.length_map, hn]
  have h := run_copy_row (P := Tryz.prog) W 48 48 3 3 xb o d d ⟨g, 0, none⟩ n cap (arrV l) t (intsV c) Tryz.underlying48 (by kernel_rfl) hX (by rw [hlen]; exact (Nat.min_eq_left hnd).symm) (fun j v hj => by
    have hj2 : j < c.length := by have := (List.getElem?_eq_some_iff.1 hj).1; simpa using this
    rw [Addr.add_mid, Nat.zero_add, hR.cellAt (by simp) j hj2, hj]) (by rw [hlen, arr_size, hl]; omega) (ints_one c)
  rw [hlen] at h
  rw [h]
  have e : ((arrV l).toList.take o ++ intsV c ++ (arrV l).toList.drop (o + n)).toArray = arrV (putL l o c) := by
    simp only [putL, arrV, intsV, List.map_append, List.map_take, List.map_drop, hn]
  rw [e]
set_option maxRecDepth 100000 in
set_option maxHeartbeats 1600000 in
theorem LPut_any (l : List Int) (hl : l.length = 16) (b : Nat) (hb : b < 4) (c : List Int) (hc : c.length = bandN b) (v : Value) (w : World) (hR : Row w 3 v (intsV c)) (hW : BandsW w) :
    Calls Tryz.prog 66 #[.agg (arrV l), .int .i64 b, v] w fun e w' => e = .returned (.agg (arrV (putL l (offN b) c))) ∧ Below w.heap.size w w' := by
  have hm := may_yes b hb
  have hsz := Size_any b hb
  have hne : intsV c ≠ [] := by
    intro h
    have h2 := congrArg List.length h
    rw [List.length_map, hc] at h2
    have hb4 : b = 0 ∨ b = 1 ∨ b = 2 ∨ b = 3 := by omega
    rcases hb4 with rfl | rfl | rfl | rfl <;> simp [bandN] at h2
  obtain ⟨g, cap, rfl, hg⟩ := hR.slice hne
  rw [List.length_map] at hR ⊢
  have hX0 := Blk.new w (arrV l) 26
  obtain ⟨xb, hxb⟩ : ∃ xb, w.heap.size = xb := ⟨_, rfl⟩
  rw [hxb] at hX0
  have hb4 : b = 0 ∨ b = 1 ∨ b = 2 ∨ b = 3 := by omega
  rcases hb4 with rfl | rfl | rfl | rfl
  · simp only [bandN, offN, List.getD_cons_zero, List.getD_cons_succ] at hc hsz ⊢
    rw [hc]
    go_enter Tryz.func66, Tryz.ntmps66
    go_wp2_with fail
    refine (hm _).mono ?_
    rintro e w1 ⟨rfl, rfl⟩
    go_wp2_with fail
    refine (hsz _ (Blk.alloc (Blk.alloc hW _) _)).mono ?_
    rintro e w3 ⟨rfl, hK3⟩
    have hX3 := (hX0.alloc _).keep hK3 (fun h => h)
    have hR3 := ((hR.alloc (.cells (arrV l) 26)).alloc _).keep hK3 (fun _ _ h => h)
    have hW3 : BandsW w3 := Blk.keep (Blk.alloc (Blk.alloc hW _) _) hK3 (fun h => h)
    have hZ3 := (Blk.new (w.alloc (.cells (arrV l) 26)) _ 26).keep hK3 (fun h => h)
    have hb3 : Below w.heap.size w w3 := (((Below.refl w.heap.size w).alloc (Nat.le_refl _) _).alloc (by simp) _).trans (hK3.below (fun _ h => h.elim) (by simp; omega))
    have hcopy := copy_put hX3 hR3 0 16 2 hc rfl hl (by decide)
    have hpl : (putL l 0 c).length = 16 := by rw [putL_len (by omega), hl]
    have hX4 := hX3.setRow (new := arrV (putL l 0 c))
    have hload := hX4.load 26 Tryz.underlying26 (by rw [arr_size, hpl]; kernel_rfl)
    simp only [World.size_alloc, hxb] at hZ3
    have hZ4 := hZ3.setRowOther (g := xb) (new := arrV (putL l 0 c)) (by omega)
    have hstore := hZ4.store (new := arrV (putL l 0 c)) 26 (by rw [arr_size, hpl]; kernel_rfl) (by rw [arr_size, hpl]; rfl) (arr_one _)
    have hZ5 := hZ4.setRow (new := arrV (putL l 0 c))
    have hread := run_loadVar_row (P := Tryz.prog) _ _ _ 26 _ (0, 0) (.array 16 3) hZ5 Tryz.underlying26 rfl (by rw [arr_size, hpl]; kernel_rfl)
    have hb5 : Below w.heap.size w ((w3.setRow xb (arrV (putL l 0 c))).setRow (xb + 1) (arrV (putL l 0 c))) := Below.setRow (Below.setRow hb3 (by omega) _) (by omega) _
    have c0 := hW3.cell 0
    simp only [List.getElem?_toArray, List.getElem?_cons_zero, List.getElem?_cons_succ] at c0
    have hsz1 : (Tryz.prog.info? 26).map (·.size) = some (arrV (putL l 0 c)).size := by rw [arr_size, hpl]; kernel_rfl
    have hsz2 : (#[.int .i64 0, .int .i64 0, .int .i64 0, .int .i64 0, .int .i64 0, .int .i64 0, .int .i64 0, .int .i64 0, .int .i64 0, .int .i64 0, .int .i64 0, .int .i64 0, .int .i64 0, .int .i64 0, .int .i64 0, .int .i64 0] : Array Value).size = (arrV (putL l 0 c)).size := by rw [arr_size, hpl]; rfl
    clear hX3 hR3 hW3 hZ3 hload hstore hread
    go_wp2_with (first | (refine wpList_load_blk rfl 26 (.tmp 3) rfl xb rfl (arrV (putL l 0 c)) 26 hX4 Tryz.underlying26 hsz1 ?_) | (refine wpList_store_blk rfl 26 (.tmp 6) (.tmp 22) rfl (xb + 1) _ (arrV (putL l 0 c)) rfl rfl 26 hZ4 hsz1 hsz2 (arr_one _) ?_))
    exact bodyPost_ret (v := .agg (arrV (putL l 0 c))) (results_cell_row Tryz.results66 _ _ (xb + 1) 26 _ (0, 0) (.array 16 3) rfl hZ5 Tryz.underlying26 rfl hsz1) rfl ⟨rfl, hb5⟩
  · simp only [bandN, offN, List.getD_cons_zero, List.getD_cons_succ] at hc hsz ⊢
    rw [hc]
    go_enter Tryz.func66, Tryz.ntmps66
    go_wp2_with fail
    refine (hm _).mono ?_
    rintro e w1 ⟨rfl, rfl⟩
    go_wp2_with fail
    refine (hsz _ (Blk.alloc (Blk.alloc hW _) _)).mono ?_
    rintro e w3 ⟨rfl, hK3⟩
    have hX3 := (hX0.alloc _).keep hK3 (fun h => h)
    have hR3 := ((hR.alloc (.cells (arrV l) 26)).alloc _).keep hK3 (fun _ _ h => h)
    have hW3 : BandsW w3 := Blk.keep (Blk.alloc (Blk.alloc hW _) _) hK3 (fun h => h)
    have hZ3 := (Blk.new (w.alloc (.cells (arrV l) 26)) _ 26).keep hK3 (fun h => h)
    have hb3 : Below w.heap.size w w3 := (((Below.refl w.heap.size w).alloc (Nat.le_refl _) _).alloc (by simp) _).trans (hK3.below (fun _ h => h.elim) (by simp; omega))
    have hcopy := copy_put hX3 hR3 2 14 2 hc rfl hl (by decide)
    have hpl : (putL l 2 c).length = 16 := by rw [putL_len (by omega), hl]
    have hX4 := hX3.setRow (new := arrV (putL l 2 c))
    have hload := hX4.load 26 Tryz.underlying26 (by rw [arr_size, hpl]; kernel_rfl)
    simp only [World.size_alloc, hxb] at hZ3
    have hZ4 := hZ3.setRowOther (g := xb) (new := arrV (putL l 2 c)) (by omega)
    have hstore := hZ4.store (new := arrV (putL l 2 c)) 26 (by rw [arr_size, hpl]; kernel_rfl) (by rw [arr_size, hpl]; rfl) (arr_one _)
    have hZ5 := hZ4.setRow (new := arrV (putL l 2 c))
    have hread := run_loadVar_row (P := Tryz.prog) _ _ _ 26 _ (0, 0) (.array 16 3) hZ5 Tryz.underlying26 rfl (by rw [arr_size, hpl]; kernel_rfl)
    have hb5 : Below w.heap.size w ((w3.setRow xb (arrV (putL l 2 c))).setRow (xb + 1) (arrV (putL l 2 c))) := Below.setRow (Below.setRow hb3 (by omega) _) (by omega) _
    have c0 := hW3.cell 1
    simp only [List.getElem?_toArray, List.getElem?_cons_zero, List.getElem?_cons_succ] at c0
    have hsz1 : (Tryz.prog.info? 26).map (·.size) = some (arrV (putL l 2 c)).size := by rw [arr_size, hpl]; kernel_rfl
    have hsz2 : (#[.int .i64 0, .int .i64 0, .int .i64 0, .int .i64 0, .int .i64 0, .int .i64 0, .int .i64 0, .int .i64 0, .int .i64 0, .int .i64 0, .int .i64 0, .int .i64 0, .int .i64 0, .int .i64 0, .int .i64 0, .int .i64 0] : Array Value).size = (arrV (putL l 2 c)).size := by rw [arr_size, hpl]; rfl
    clear hX3 hR3 hW3 hZ3 hload hstore hread
    go_wp2_with (first | (refine wpList_load_blk rfl 26 (.tmp 3) rfl xb rfl (arrV (putL l 2 c)) 26 hX4 Tryz.underlying26 hsz1 ?_) | (refine wpList_store_blk rfl 26 (.tmp 6) (.tmp 22) rfl (xb + 1) _ (arrV (putL l 2 c)) rfl rfl 26 hZ4 hsz1 hsz2 (arr_one _) ?_))
    exact bodyPost_ret (v := .agg (arrV (putL l 2 c))) (results_cell_row Tryz.results66 _ _ (xb + 1) 26 _ (0, 0) (.array 16 3) rfl hZ5 Tryz.underlying26 rfl hsz1) rfl ⟨rfl, hb5⟩
  · simp only [bandN, offN, List.getD_cons_zero, List.getD_cons_succ] at hc hsz ⊢
    rw [hc]
    go_enter Tryz.func66, Tryz.ntmps66
    go_wp2_with fail
    refine (hm _).mono ?_
    rintro e w1 ⟨rfl, rfl⟩
    go_wp2_with fail
    refine (hsz _ (Blk.alloc (Blk.alloc hW _) _)).mono ?_
    rintro e w3 ⟨rfl, hK3⟩
    have hX3 := (hX0.alloc _).keep hK3 (fun h => h)
    have hR3 := ((hR.alloc (.cells (arrV l) 26)).alloc _).keep hK3 (fun _ _ h => h)
    have hW3 : BandsW w3 := Blk.keep (Blk.alloc (Blk.alloc hW _) _) hK3 (fun h => h)
    have hZ3 := (Blk.new (w.alloc (.cells (arrV l) 26)) _ 26).keep hK3 (fun h => h)
    have hb3 : Below w.heap.size w w3 := (((Below.refl w.heap.size w).alloc (Nat.le_refl _) _).alloc (by simp) _).trans (hK3.below (fun _ h => h.elim) (by simp; omega))
    have hcopy := copy_put hX3 hR3 4 12 4 hc rfl hl (by decide)
    have hpl : (putL l 4 c).length = 16 := by rw [putL_len (by omega), hl]
    have hX4 := hX3.setRow (new := arrV (putL l 4 c))
    have hload := hX4.load 26 Tryz.underlying26 (by rw [arr_size, hpl]; kernel_rfl)
    simp only [World.size_alloc, hxb] at hZ3
    have hZ4 := hZ3.setRowOther (g := xb) (new := arrV (putL l 4 c)) (by omega)
    have hstore := hZ4.store (new := arrV (putL l 4 c)) 26 (by rw [arr_size, hpl]; kernel_rfl) (by rw [arr_size, hpl]; rfl) (arr_one _)
    have hZ5 := hZ4.setRow (new := arrV (putL l 4 c))
    have hread := run_loadVar_row (P := Tryz.prog) _ _ _ 26 _ (0, 0) (.array 16 3) hZ5 Tryz.underlying26 rfl (by rw [arr_size, hpl]; kernel_rfl)
    have hb5 : Below w.heap.size w ((w3.setRow xb (arrV (putL l 4 c))).setRow (xb + 1) (arrV (putL l 4 c))) := Below.setRow (Below.setRow hb3 (by omega) _) (by omega) _
    have c0 := hW3.cell 2
    simp only [List.getElem?_toArray, List.getElem?_cons_zero, List.getElem?_cons_succ] at c0
    have hsz1 : (Tryz.prog.info? 26).map (·.size) = some (arrV (putL l 4 c)).size := by rw [arr_size, hpl]; kernel_rfl
    have hsz2 : (#[.int .i64 0, .int .i64 0, .int .i64 0, .int .i64 0, .int .i64 0, .int .i64 0, .int .i64 0, .int .i64 0, .int .i64 0, .int .i64 0, .int .i64 0, .int .i64 0, .int .i64 0, .int .i64 0, .int .i64 0, .int .i64 0] : Array Value).size = (arrV (putL l 4 c)).size := by rw [arr_size, hpl]; rfl
    clear hX3 hR3 hW3 hZ3 hload hstore hread
    go_wp2_with (first | (refine wpList_load_blk rfl 26 (.tmp 3) rfl xb rfl (arrV (putL l 4 c)) 26 hX4 Tryz.underlying26 hsz1 ?_) | (refine wpList_store_blk rfl 26 (.tmp 6) (.tmp 22) rfl (xb + 1) _ (arrV (putL l 4 c)) rfl rfl 26 hZ4 hsz1 hsz2 (arr_one _) ?_))
    exact bodyPost_ret (v := .agg (arrV (putL l 4 c))) (results_cell_row Tryz.results66 _ _ (xb + 1) 26 _ (0, 0) (.array 16 3) rfl hZ5 Tryz.underlying26 rfl hsz1) rfl ⟨rfl, hb5⟩
  · simp only [bandN, offN, List.getD_cons_zero, List.getD_cons_succ] at hc hsz ⊢
    rw [hc]
    go_enter Tryz.func66, Tryz.ntmps66
    go_wp2_with fail
    refine (hm _).mono ?_
    rintro e w1 ⟨rfl, rfl⟩
    go_wp2_with fail
    refine (hsz _ (Blk.alloc (Blk.alloc hW _) _)).mono ?_
    rintro e w3 ⟨rfl, hK3⟩
    have hX3 := (hX0.alloc _).keep hK3 (fun h => h)
    have hR3 := ((hR.alloc (.cells (arrV l) 26)).alloc _).keep hK3 (fun _ _ h => h)
    have hW3 : BandsW w3 := Blk.keep (Blk.alloc (Blk.alloc hW _) _) hK3 (fun h => h)
    have hZ3 := (Blk.new (w.alloc (.cells (arrV l) 26)) _ 26).keep hK3 (fun h => h)
    have hb3 : Below w.heap.size w w3 := (((Below.refl w.heap.size w).alloc (Nat.le_refl _) _).alloc (by simp) _).trans (hK3.below (fun _ h => h.elim) (by simp; omega))
    have hcopy := copy_put hX3 hR3 8 8 8 hc rfl hl (by decide)
    have hpl : (putL l 8 c).length = 16 := by rw [putL_len (by omega), hl]
    have hX4 := hX3.setRow (new := arrV (putL l 8 c))
    have hload := hX4.load 26 Tryz.underlying26 (by rw [arr_size, hpl]; kernel_rfl)
    simp only [World.size_alloc, hxb] at hZ3
    have hZ4 := hZ3.setRowOther (g := xb) (new := arrV (putL l 8 c)) (by omega)
    have hstore := hZ4.store (new := arrV (putL l 8 c)) 26 (by rw [arr_size, hpl]; kernel_rfl) (by rw [arr_size, hpl]; rfl) (arr_one _)
    have hZ5 := hZ4.setRow (new := arrV (putL l 8 c))
    have hread := run_loadVar_row (P := Tryz.prog) _ _ _ 26 _ (0, 0) (.array 16 3) hZ5 Tryz.underlying26 rfl (by rw [arr_size, hpl]; kernel_rfl)
    have hb5 : Below w.heap.size w ((w3.setRow xb (arrV (putL l 8 c))).setRow (xb + 1) (arrV (putL l 8 c))) := Below.setRow (Below.setRow hb3 (by omega) _) (by omega) _
    have c0 := hW3.cell 3
    simp only [List.getElem?_toArray, List.getElem?_cons_zero, List.getElem?_cons_succ] at c0
    have hsz1 : (Tryz.prog.info? 26).map (·.size) = some (arrV (putL l 8 c)).size := by rw [arr_size, hpl]; kernel_rfl
    have hsz2 : (#[.int .i64 0, .int .i64 0, .int .i64 0, .int .i64 0, .int .i64 0, .int .i64 0, .int .i64 0, .int .i64 0, .int .i64 0, .int .i64 0, .int .i64 0, .int .i64 0, .int .i64 0, .int .i64 0, .int .i64 0, .int .i64 0] : Array Value).size = (arrV (putL l 8 c)).size := by rw [arr_size, hpl]; rfl
    clear hX3 hR3 hW3 hZ3 hload hstore hread
    go_wp2_with (first | (refine wpList_load_blk rfl 26 (.tmp 3) rfl xb rfl (arrV (putL l 8 c)) 26 hX4 Tryz.underlying26 hsz1 ?_) | (refine wpList_store_blk rfl 26 (.tmp 6) (.tmp 22) rfl (xb + 1) _ (arrV (putL l 8 c)) rfl rfl 26 hZ4 hsz1 hsz2 (arr_one _) ?_))
    exact bodyPost_ret (v := .agg (arrV (putL l 8 c))) (results_cell_row Tryz.results66 _ _ (xb + 1) 26 _ (0, 0) (.array 16 3) rfl hZ5 Tryz.underlying26 rfl hsz1) rfl ⟨rfl, hb5⟩
end Go.Proofs.YtkoljgmapclhkaaGreatDoor

namespace Go.Proofs.YtkoljgmapclhkaaGreatDoor
open Go.RowKit

/-- An array's number, by its place. -/
theorem run_index_arr (t : TypeId) (n : Nat) (l : List Int) (hl : l.length = n) (hu : Tryz.prog.underlying t = some (.array n 3)) (k : Nat) (hk : k < n) (w : World) :
    (Instr.index t (.agg (arrV l)) (.int .i64 (k : Int))).run Tryz.prog w = .ok (.int .i64 (l.getD k 0)) w := by
  have hkl : k < l.length := by omega
  have h1 : (sizeOf 3).run Tryz.prog w = .ok 1 w := by kernel_rfl
  have h2 : (isAgg 3).run Tryz.prog w = .ok false w := by kernel_rfl
  simp [Instr.index, run_underlying hu, asIntOf, hk, go_sem, h1, h2, List.getElem?_eq_getElem hkl]
def costB (b k : Nat) : Nat := Sp.vbits (bandN b) k
theorem bandN_bd {b : Nat} (h : b < 4) : bandN b ≤ 8 := by
  have hb4 : b = 0 ∨ b = 1 ∨ b = 2 ∨ b = 3 := by omega
  rcases hb4 with rfl | rfl | rfl | rfl <;> decide
theorem cost_any (b k : Nat) (hb : b < 4) (hk : k ≤ 8) (w : World) (hW : BandsW w) : Calls Tryz.prog 114 #[.int .i64 b, .int .i64 k] w fun e w' => e = .returned (.int .i64 (costB b k : Nat)) ∧ Below w.heap.size w w' := by
  go_enter Tryz.func114, Tryz.ntmps114
  go_wp2_with fail
  refine (Size_any b hb _ hW).mono ?_
  rintro e w1 ⟨rfl, hK1⟩
  go_wp2_with fail
  refine (VBits_any (bandN b) k (bandN_bd hb) hk _).mono ?_
  rintro e w2 ⟨rfl, hb2⟩
  go_wp2_with fail
  go_ret
  exact ⟨rfl, (hK1.below (fun _ h => h.elim) (Nat.le_refl _)).trans (hb2.mono hK1.size)⟩
theorem costB_bd {b k : Nat} (hb : b < 4) (hk : k ≤ 8) : costB b k ≤ 20 := Sp.vbits_bd (bandN_bd hb) hk
theorem Room_any (n : Nat) (hn0 : 10 ≤ n) (hn1 : n ≤ 32) (u : Int) (hu0 : 0 ≤ u) (hu1 : u ≤ 1000000) (w : World) : Calls Tryz.prog 63 #[.int .i64 n, .int .i64 u] w fun e w' => e = .returned (.int .i64 (max (8 * (n : Int) - 40 - u) 0)) ∧ w = w' := by
  go_enter Tryz.func63, Tryz.ntmps63
  go_wp2
  go_ret
  exact ⟨rfl, rfl⟩

/-- Levels that may be. -/
def LevelsOk (ls : List Int) : Prop := ls.length = 4 ∧ ∀ x ∈ ls, 0 ≤ x ∧ x ≤ 20
theorem LevelsOk.get {ls : List Int} (h : LevelsOk ls) {k : Nat} (hk : k < 4) : 0 ≤ ls.getD k 0 ∧ ls.getD k 0 ≤ 20 := by
  have hkl : k < ls.length := by rw [h.1]; exact hk
  rw [List.getD_eq_getElem?_getD, List.getElem?_eq_getElem hkl, Option.getD_some]
  exact h.2 _ (List.getElem_mem hkl)
theorem fourInfo : (Tryz.prog.info? 27).map (·.size) = some 4 := by kernel_rfl
set_option maxRecDepth 100000 in
set_option maxHeartbeats 800000 in
theorem sright_yes (ls : List Int) (hL : LevelsOk ls) (bits : Int) (h0 : 0 ≤ bits) (h1 : bits ≤ 1048576) (w : World) : Calls Tryz.prog 113 #[.agg (arrV ls), .int .i64 bits] w fun e w' => e = .returned (.bool true) ∧ Below w.heap.size w w' := by
  have hidx := fun k (hk : k < 4) (w : World) => run_index_arr 27 4 ls hL.1 Tryz.underlying27 k hk w
  have hX := Blk.new w (arrV ls) 27
  have hsz : (Tryz.prog.info? 27).map (·.size) = some (arrV ls).size := by rw [arr_size, hL.1]; exact fourInfo
  have hb1 : Below w.heap.size w (w.alloc (.cells (arrV ls) 27)) := (Below.refl _ _).alloc (Nat.le_refl _) _
  have HI := Lib.hid hidx
  clear hidx
  go_enter Tryz.func113, Tryz.ntmps113
  go_wp2_with (first | (refine wpList_load_blk rfl 27 (.tmp 2) rfl w.heap.size rfl (arrV ls) 27 hX Tryz.underlying27 hsz ?_))
  go_loop [8] (fun i => ∃ k : Nat, k ≤ 4 ∧ i = .int .i64 k) (fun i => 4 - (intOf i).toNat)
  case atStart => exact ⟨0, by omega, rfl⟩
  case round =>
    obtain ⟨k, hk, rfl⟩ := hrel
    by_cases hlt : k < 4
    · have hi := HI.out k hlt
      obtain ⟨x0, x1⟩ := hL.get hlt
      obtain ⟨x, hx⟩ : ∃ x, ls.getD k 0 = x := ⟨_, rfl⟩
      rw [hx] at hi x0 x1
      clear hx
      go_wp2_with fail
      go_round
      case rel => exact ⟨k + 1, hlt, by go_num⟩
      case measure => simp [intOf]; omega
    · obtain rfl : k = 4 := by omega
      go_wp2_with fail
      go_ret
      exact ⟨rfl, hb1⟩

/-- One band looked at: the best so far, and its price. -/
def pstep (ls ks : List Int) (bits : Int) (acc : Int × Int) (b : Nat) : Int × Int :=
  if ls.getD b 0 = 0 ∨ ks.getD b 0 = 8 ∨ (0 ≤ acc.1 ∧ 2 * ls.getD b 0 - 3 * ks.getD b 0 ≤ 2 * ls.getD acc.1.toNat 0 - 3 * ks.getD acc.1.toNat 0) then acc
  else if (costB b (ks.getD b 0 + 1).toNat : Int) - (costB b (ks.getD b 0).toNat : Int) ≤ bits then ((b : Int), (costB b (ks.getD b 0 + 1).toNat : Int) - (costB b (ks.getD b 0).toNat : Int)) else acc
def pbest (ls ks : List Int) (bits : Int) (n : Nat) : Int × Int := (List.range n).foldl (pstep ls ks bits) (-1, 0)
theorem pbest_next (ls ks : List Int) (bits : Int) (n : Nat) : pbest ls ks bits (n + 1) = pstep ls ks bits (pbest ls ks bits n) n := by simp [pbest, List.range_succ]
/-- The pulses given, one by one. -/
def pulses (ls : List Int) : Nat → List Int → Int → List Int
  | 0, ks, _ => ks
  | f + 1, ks, bits => if (pbest ls ks bits 4).1 < 0 then ks else pulses ls f (ks.set (pbest ls ks bits 4).1.toNat (ks.getD (pbest ls ks bits 4).1.toNat 0 + 1)) (bits - (pbest ls ks bits 4).2)
/-- Pulses that may be. -/
def PulsesOk (ks : List Int) : Prop := ks.length = 4 ∧ ∀ k < 4, 0 ≤ ks.getD k 0 ∧ ks.getD k 0 ≤ 8
/-- What is told of the best: a band that has room, at a price that can be paid. -/
structure BestOk (ls ks : List Int) (bits : Int) (p : Int × Int) : Prop where
  lo : -1 ≤ p.1
  hi : p.1 < 4
  room : 0 ≤ p.1 → ks.getD p.1.toNat 0 < 8 ∧ ls.getD p.1.toNat 0 ≠ 0
  pay : 0 ≤ p.1 → p.2 ≤ bits
  bd : -20 ≤ p.2 ∧ p.2 ≤ 20
theorem best_ok (ls ks : List Int) (bits : Int) (hk : PulsesOk ks) (n : Nat) (hn : n ≤ 4) : BestOk ls ks bits (pbest ls ks bits n) := by
  induction n with
  | zero => exact ⟨by simp [pbest], by simp [pbest], fun h => by simp [pbest] at h, fun h => by simp [pbest] at h, by simp [pbest]⟩
  | succ n ih =>
    have h := ih (by omega)
    rw [pbest_next]
    obtain ⟨p, hp⟩ : ∃ p, pbest ls ks bits n = p := ⟨_, rfl⟩
    rw [hp] at h ⊢
    unfold pstep
    split
    · exact h
    · rename_i hno
      simp only [not_or] at hno
      split
      · rename_i hpay
        have h8 := hk.2 n (by omega)
        have c1 := costB_bd (b := n) (k := (ks.getD n 0 + 1).toNat) (by omega) (by omega)
        have c2 := costB_bd (b := n) (k := (ks.getD n 0).toNat) (by omega) (by omega)
        exact ⟨by simp only; omega, by simp only; omega, fun _ => by simp only [Int.toNat_natCast]; exact ⟨by omega, hno.1⟩, fun _ => hpay, by simp only; omega⟩
      · exact h
end Go.Proofs.YtkoljgmapclhkaaGreatDoor

namespace Go.Proofs.YtkoljgmapclhkaaGreatDoor
open Go.RowKit

def zero4 : Array Value := #[.int .i64 0, .int .i64 0, .int .i64 0, .int .i64 0]
theorem belowNN {B : Nat} {a w : World} (h : Below B a w) (n : Nat) : Below B a (w.drewN n) := ⟨h.os, h.tape, h.output, h.size, h.block⟩
structure PW (w wr : World) (xb : Nat) (ls ks : List Int) : Prop where
  lev : Blk wr xb (arrV ls) 27
  res : Blk wr (xb + 1) zero4 27
  pul : Blk wr (xb + 2) (arrV ks) 27
  bands : BandsW wr
  far : Below w.heap.size w wr
theorem PW.drew {w wr : World} {xb : Nat} {ls ks : List Int} (h : PW w wr xb ls ks) : PW w wr.drew xb ls ks := ⟨h.lev.drew, h.res.drew, h.pul.drew, Blk.drew h.bands, h.far.drew⟩
theorem PW.drewN {w wr : World} {xb : Nat} {ls ks : List Int} (h : PW w wr xb ls ks) (n : Nat) : PW w (wr.drewN n) xb ls ks := ⟨h.lev.drewN n, h.res.drewN n, h.pul.drewN n, Blk.drewN h.bands n, belowNN h.far n⟩
theorem PW.below {w wr w' : World} {xb : Nat} {ls ks : List Int} (h : PW w wr xb ls ks) (hb : Below wr.heap.size wr w') : PW w w' xb ls ks :=
  ⟨h.lev.newB hb, h.res.newB hb, h.pul.newB hb, Blk.newB h.bands hb, h.far.trans (hb.mono h.far.size)⟩
theorem PW.kcell {w wr : World} {xb : Nat} {ls ks : List Int} (h : PW w wr xb ls ks) (n : Nat) : wr.cell? ⟨xb + 2, n, none⟩ = (arrV ks)[n]? := h.pul.cell n
theorem PW.lcell {w wr : World} {xb : Nat} {ls ks : List Int} (h : PW w wr xb ls ks) (n : Nat) : wr.cell? ⟨xb, n, none⟩ = (arrV ls)[n]? := h.lev.cell n
theorem arr_get {l : List Int} {n : Nat} (h : n < l.length) : (arrV l)[n]? = some (.int .i64 (l.getD n 0)) := by
  rw [List.getElem?_toArray, ints_get h]
/-- The pulses given so far, as they lie in memory. -/
def numAt (W : World) (g i : Nat) : Int := match W.cell? ⟨g, i, none⟩ with
  | some (.int _ n) => n
  | _ => 0
def tot4 (W : World) (g : Nat) : Int := numAt W g 0 + numAt W g 1 + numAt W g 2 + numAt W g 3
def tot (ks : List Int) : Int := ks.getD 0 0 + ks.getD 1 0 + ks.getD 2 0 + ks.getD 3 0
theorem tot_set {ks : List Int} (h : ks.length = 4) {i : Nat} (hi : i < 4) : tot (ks.set i (ks.getD i 0 + 1)) = tot ks + 1 := by
  match ks, h with
  | [a, b, c, d], _ =>
    have hi4 : i = 0 ∨ i = 1 ∨ i = 2 ∨ i = 3 := by omega
    rcases hi4 with rfl | rfl | rfl | rfl <;> simp [tot] <;> omega
theorem tot4_eq {w wr : World} {xb : Nat} {ls ks : List Int} (h : PW w wr xb ls ks) (hk : ks.length = 4) : tot4 wr (xb + 2) = tot ks := by
  have e : ∀ i, i < 4 → numAt wr (xb + 2) i = ks.getD i 0 := fun i hi => by
    unfold numAt
    rw [h.kcell i, arr_get (by omega)]
  unfold tot4 tot
  rw [e 0 (by omega), e 1 (by omega), e 2 (by omega), e 3 (by omega)]
theorem arr_set (l : List Int) (i : Nat) (x : Int) : (arrV l).setIfInBounds i (.int .i64 x) = arrV (l.set i x) := by
  rw [List.setIfInBounds_toArray, ints_set]
theorem PW.put {w wr : World} {xb : Nat} {ls ks : List Int} (h : PW w wr xb ls ks) (hw : w.heap.size ≤ xb) (i : Nat) (x : Int) : PW w (wr.setCell ⟨xb + 2, i, none⟩ (.int .i64 x)) xb ls (ks.set i x) :=
  ⟨h.lev.other (by simp only []; omega) _, h.res.other (by simp only []; omega) _, by rw [← arr_set]; exact h.pul.set i _, Blk.other h.bands (by simp only []; omega) _, h.far.setCell (by show w.heap.size ≤ xb + 2; omega) _⟩
theorem tot_bd {ks : List Int} (h : PulsesOk ks) : 0 ≤ tot ks ∧ tot ks ≤ 32 := by
  have h0 := h.2 0 (by omega)
  have h1 := h.2 1 (by omega)
  have h2 := h.2 2 (by omega)
  have h3 := h.2 3 (by omega)
  unfold tot; omega
theorem pulsesOk_set {ks : List Int} (h : PulsesOk ks) {i : Nat} (hi : i < 4) (h8 : ks.getD i 0 < 8) : PulsesOk (ks.set i (ks.getD i 0 + 1)) := by
  refine ⟨by rw [List.length_set]; exact h.1, fun k hk => ?_⟩
  have hik := h.2 i hi
  have hkk := h.2 k hk
  by_cases he : k = i
  · subst he
    rw [List.getD_eq_getElem?_getD, List.getElem?_set_self (by rw [h.1]; exact hk), Option.getD_some]
    omega
  · rw [List.getD_eq_getElem?_getD, List.getElem?_set_ne (Ne.symm he), ← List.getD_eq_getElem?_getD]
    exact hkk

set_option maxRecDepth 100000 in
set_option maxHeartbeats 3200000 in
theorem Pulses_any (ls : List Int) (hL : LevelsOk ls) (bits : Int) (h0 : 0 ≤ bits) (h1 : bits ≤ 1000000) (w : World) (hW : BandsW w) : Calls Tryz.prog 62 #[.agg (arrV ls), .int .i64 bits] w fun e w' => e = .returned (.agg (arrV (pulses ls 33 [0, 0, 0, 0] bits))) ∧ Below w.heap.size w w' := by
  have hidx := fun k (hk : k < 4) (w : World) => run_index_arr 27 4 ls hL.1 Tryz.underlying27 k hk w
  have HI := Lib.hid hidx
  clear hidx
  have hszl : (Tryz.prog.info? 27).map (·.size) = some (arrV ls).size := by rw [arr_size, hL.1]; exact fourInfo
  obtain ⟨R, hR⟩ : ∃ R, pulses ls 33 [0, 0, 0, 0] bits = R := ⟨_, rfl⟩
  rw [hR]
  have HR := Lib.hid hR
  clear hR
  obtain ⟨xb, hxb⟩ : ∃ xb, w.heap.size = xb := ⟨_, rfl⟩
  have hP0 : PW w (((w.alloc (.cells (arrV ls) 27)).alloc (.cells zero4 27)).alloc (.cells (arrV [0, 0, 0, 0]) 27)) xb ls [0, 0, 0, 0] := by
    refine ⟨?_, ?_, ?_, Blk.alloc (Blk.alloc (Blk.alloc hW _) _) _, ?_⟩
    · exact (Blk.alloc (Blk.alloc (hxb ▸ Blk.new w (arrV ls) 27) _) _)
    · have h := Blk.new (w.alloc (.cells (arrV ls) 27)) zero4 27
      rw [World.size_alloc, hxb] at h
      exact h.alloc _
    · have h := Blk.new ((w.alloc (.cells (arrV ls) 27)).alloc (.cells zero4 27)) (arrV [0, 0, 0, 0]) 27
      rw [World.size_alloc, World.size_alloc, hxb] at h
      exact h
    · exact (((Below.refl w.heap.size w).alloc (Nat.le_refl _) _).alloc (by simp) _).alloc (by simp; omega) _
  have hP0' : PW w (((w.alloc (.cells (arrV ls) 27)).alloc (.cells #[.int .i64 0, .int .i64 0, .int .i64 0, .int .i64 0] 27)).alloc (.cells #[.int .i64 0, .int .i64 0, .int .i64 0, .int .i64 0] 27)) xb ls [0, 0, 0, 0] := hP0
  clear hP0
  go_enter Tryz.func62, Tryz.ntmps62
  go_wp2_with fail
  go_step3
  go_upto_region 2 with (fail)
  revert hP0'
  generalize (((w.alloc (.cells (arrV ls) 27)).alloc (.cells #[.int .i64 0, .int .i64 0, .int .i64 0, .int .i64 0] 27)).alloc (.cells #[.int .i64 0, .int .i64 0, .int .i64 0, .int .i64 0] 27)) = w0
  intro hP0'
  go_wp2_with (first | (refine wpList_load_blk rfl 27 (.tmp 2) rfl xb rfl (arrV ls) 27 hP0'.lev Tryz.underlying27 hszl ?_))
  refine (sright_yes ls hL bits h0 (by omega) _).mono ?_
  rintro e w1 ⟨rfl, hb1⟩
  have hP1 := hP0'.below hb1
  clear hP0' hb1
  go_wp2_with fail
  go_step3
  go_wp2_with fail
  go_loopw [1] (fun bv wr => ∃ (f : Nat) (ks : List Int) (bt : Int), bv = .int .i64 bt ∧ 0 ≤ bt ∧ bt ≤ 2000000 ∧ Hid (PulsesOk ks) ∧ Hid ((f : Int) + tot ks = 33) ∧ Hid (bt + 20 * f ≤ 1000700) ∧ Hid (pulses ls f ks bt = R) ∧ PW w wr xb ls ks) (fun _ wr => (40 - tot4 wr (xb + 2)).toNat)
  case atStart => exact ⟨33, [0, 0, 0, 0], bits, rfl, h0, by omega, Lib.hid ⟨rfl, fun k hk => by
      have hk4 : k = 0 ∨ k = 1 ∨ k = 2 ∨ k = 3 := by omega
      rcases hk4 with rfl | rfl | rfl | rfl <;> simp⟩, Lib.hid (by simp [tot]), Lib.hid (by omega), HR, hP1⟩
  case round =>
    clear hP1
    obtain ⟨f, ks, bt, rfl, hbt0, hbt1, HK, HT, HB, HRR, hP⟩ := hrel
    have hbest := fun n (hn : n ≤ 4) => best_ok ls ks bt HK.out n hn
    have HBE := Lib.hid hbest
    have HM0 := Lib.hid (tot4_eq hP HK.out.1)
    clear hbest
    go_wp2_with (first | (refine wpList_load_blk rfl 27 (.tmp 2) rfl xb rfl (arrV ls) 27 hP.lev Tryz.underlying27 hszl ?_))
    go_loopw [6, 7, 17] (fun pv qv nv wr => ∃ n : Nat, n ≤ 4 ∧ pv = .int .i64 (pbest ls ks bt n).1 ∧ qv = .int .i64 (pbest ls ks bt n).2 ∧ nv = .int .i64 n ∧ PW w wr xb ls ks) (fun _ _ nv _ => 4 - (intOf nv).toNat)
    case atStart => exact ⟨0, by omega, rfl, rfl, rfl, hP⟩
    case round =>
      clear hP
      obtain ⟨n, hn, rfl, rfl, rfl, hP⟩ := hrel
      have hbe := HBE.out n hn
      have hbest4 := HBE.out 4 (by omega)
      by_cases hlt : n < 4
      · have hi := HI.out n hlt
        obtain ⟨l0, l1⟩ := hL.get hlt
        obtain ⟨k0, k8⟩ := HK.out.2 n hlt
        have hnx := pbest_next ls ks bt n
        obtain ⟨p, hp⟩ : ∃ p, pbest ls ks bt n = p := ⟨_, rfl⟩
        rw [hp] at hbe hnx ⊢
        obtain ⟨best, price⟩ := p
        obtain ⟨b0, b1, b2, b3, b4⟩ := hbe
        simp only at b0 b1 b2 b3 b4
        obtain ⟨kk, hkk⟩ : ∃ kk : Nat, ks.getD n 0 = kk := ⟨(ks.getD n 0).toNat, by omega⟩
        have hyk : (arrV ks)[n]? = some (.int .i64 (kk : Int)) := by rw [arr_get (by rw [HK.out.1]; exact hlt), hkk]
        have HYK := Lib.hid hyk
        have y0 := (hP.kcell n).trans hyk
        rw [hkk] at k0 k8
        obtain ⟨lv, hlv⟩ : ∃ lv, ls.getD n 0 = lv := ⟨_, rfl⟩
        rw [hlv] at hi l0 l1
        obtain ⟨B, hB, hBB⟩ : ∃ B : Nat, B < 4 ∧ (0 ≤ best → best = (B : Int)) := ⟨if 0 ≤ best then best.toNat else 0, by split <;> omega, fun h => by rw [if_pos h]; omega⟩
        obtain ⟨kB, hkB⟩ : ∃ kB, ks.getD B 0 = kB := ⟨_, rfl⟩
        obtain ⟨lB, hlB⟩ : ∃ lB, ls.getD B 0 = lB := ⟨_, rfl⟩
        have kB8 := HK.out.2 B hB
        have lB20 := hL.get hB
        rw [hkB] at kB8
        rw [hlB] at lB20
        have y1 := (hP.kcell B).trans (by rw [arr_get (by rw [HK.out.1]; exact hB), hkB])
        have y2 := (hP.lcell B).trans (by rw [arr_get (by rw [hL.1]; exact hB), hlB])
        unfold pstep at hnx
        simp only [hlv, hkk] at hnx
        by_cases hl0 : lv = 0
        · subst hl0
          rw [if_pos (.inl rfl)] at hnx
          have HNX := Lib.hid hnx
          clear hnx b2 b3 hbest4
          go_wp2_with fail
          go_quiet (fail)
          go_wp2_with fail
          go_roundw
          case rel => exact ⟨n + 1, hlt, by rw [HNX.out], by rw [HNX.out], by go_num, hP.drewN _⟩
          case measure => simp [intOf]; omega
        have e1 : (lv == 0) = false := by simpa using hl0
        have e1' : decide (lv = 0) = false := by simpa using hl0
        by_cases hk8 : kk = 8
        · subst hk8
          rw [if_pos (.inr (.inl rfl))] at hnx
          have HNX := Lib.hid hnx
          clear hnx b2 b3 hbest4
          go_wp2_with fail
          go_quiet (fail)
          go_wp2_with fail
          go_roundw
          case rel => exact ⟨n + 1, hlt, by rw [HNX.out], by rw [HNX.out], by go_num, hP.drewN _⟩
          case measure => simp [intOf]; omega
        have hk8' : ¬ (kk : Int) = 8 := by omega
        have e2 : ((kk : Int) == 8) = false := by simpa using hk8'
        have e2' : decide ((kk : Int) = 8) = false := by simpa using hk8'
        have w1 : IntKind.i64.wrap (2 * lv) = 2 * lv := IntWalk.i64_in _ (by omega)
        have w2 : IntKind.i64.wrap (3 * (kk : Int)) = 3 * (kk : Int) := IntWalk.i64_in _ (by omega)
        have w3 : IntKind.i64.wrap (2 * lv - 3 * (kk : Int)) = 2 * lv - 3 * (kk : Int) := IntWalk.i64_in _ (by omega)
        have w4 : IntKind.i64.wrap (2 * lB) = 2 * lB := IntWalk.i64_in _ (by omega)
        have w5 : IntKind.i64.wrap (3 * kB) = 3 * kB := IntWalk.i64_in _ (by omega)
        have w6 : IntKind.i64.wrap (2 * lB - 3 * kB) = 2 * lB - 3 * kB := IntWalk.i64_in _ (by omega)
        obtain ⟨k1, hk1⟩ : ∃ k1, kk + 1 = k1 := ⟨_, rfl⟩
        have hki : (kk : Int) + 1 = (k1 : Int) := by omega
        have hk1n : ((kk : Int) + 1).toNat = k1 := by omega
        rw [hk1n, Int.toNat_natCast] at hnx
        have hc1 := costB_bd (b := n) (k := k1) hlt (by omega)
        have hc0 := costB_bd (b := n) (k := kk) hlt (by omega)
        obtain ⟨c1, hc1'⟩ : ∃ c, costB n k1 = c := ⟨_, rfl⟩
        obtain ⟨c0, hc0'⟩ : ∃ c, costB n kk = c := ⟨_, rfl⟩
        rw [hc1'] at hc1 hnx
        rw [hc0'] at hc0 hnx
        have HC1 := Lib.hid hc1'
        have HC0 := Lib.hid hc0'
        clear hc1' hc0' hk1n hbest4
        have w8 : IntKind.i64.wrap (k1 : Int) = (k1 : Int) := IntWalk.i64_in _ (by omega)
        have w7 : IntKind.i64.wrap ((c1 : Int) - (c0 : Int)) = (c1 : Int) - (c0 : Int) := IntWalk.i64_in _ (by omega)
        by_cases hbn : best < 0
        · have e3 : decide (0 ≤ best) = false := by simp; omega
          rw [if_neg (by omega)] at hnx
          have HNT := Lib.hid (fun (h : (c1 : Int) - (c0 : Int) ≤ bt) => hnx.trans (if_pos h))
          have HNF := Lib.hid (fun (h : ¬ (c1 : Int) - (c0 : Int) ≤ bt) => hnx.trans (if_neg h))
          clear hnx b2 b3 hBB
          go_wp2_with fail
          go_quiet (fail)
          go_wp2_with fail
          first | go_region_held3 (fun w' => w'.cell? ⟨xb + 2, n, none⟩ = some (.int .i64 kk)) (first | exact y0 | exact y5 | exact y6) (first | (go_at_call_of 114 ((k1 : Nat) : Int); refine (cost_any n k1 hlt (by omega) _ (hP.drewN _).bands).mono ?_; rw [HC1.out]; rintro r5 w5 ⟨rfl, hb5⟩; have hP5 := (hP.drewN _).below hb5; have y5 := (hP5.kcell n).trans HYK.out) | (go_at_call_of 114 ((kk : Nat) : Int); refine (cost_any n kk hlt (by omega) _ hP5.bands).mono ?_; rw [HC0.out]; rintro r6 w6 ⟨rfl, hb6⟩; have hP6 := hP5.below hb6; have y6 := (hP6.kcell n).trans HYK.out))
          by_cases hpay : (c1 : Int) - (c0 : Int) ≤ bt
          · have hst := HNT.out hpay
            go_wp2_with fail
            go_roundw
            case rel => exact ⟨n + 1, hlt, by rw [hst], by rw [hst], by go_num, hP6⟩
            case measure => simp [intOf]; omega
          · have hst := HNF.out (by omega)
            go_wp2_with fail
            go_roundw
            case rel => exact ⟨n + 1, hlt, by rw [hst], by rw [hst], by go_num, hP6⟩
            case measure => simp [intOf]; omega
        · obtain rfl := hBB (by omega)
          rw [Int.toNat_natCast, hkB, hlB] at hnx
          have e3 : decide ((0 : Int) ≤ (B : Int)) = true := by simp
          by_cases hcmp : 2 * lv - 3 * (kk : Int) ≤ 2 * lB - 3 * kB
          · have e4 : decide (2 * lv - 3 * (kk : Int) ≤ 2 * lB - 3 * kB) = true := by simpa using hcmp
            rw [if_pos (.inr (.inr ⟨by omega, hcmp⟩))] at hnx
            have HNX := Lib.hid hnx
            clear hnx b2 b3 hBB
            go_wp2_with fail
            go_quiet (fail)
            go_wp2_with fail
            go_roundw
            case rel => exact ⟨n + 1, hlt, by rw [HNX.out], by rw [HNX.out], by go_num, hP.drewN _⟩
            case measure => simp [intOf]; omega
          · have e4 : decide (2 * lv - 3 * (kk : Int) ≤ 2 * lB - 3 * kB) = false := by simpa using hcmp
            rw [if_neg (by omega)] at hnx
            have HNT := Lib.hid (fun (h : (c1 : Int) - (c0 : Int) ≤ bt) => hnx.trans (if_pos h))
            have HNF := Lib.hid (fun (h : ¬ (c1 : Int) - (c0 : Int) ≤ bt) => hnx.trans (if_neg h))
            clear hnx b2 b3 hBB
            go_wp2_with fail
            go_quiet (fail)
            go_wp2_with fail
            first | go_region_held3 (fun w' => w'.cell? ⟨xb + 2, n, none⟩ = some (.int .i64 kk)) (first | exact y0 | exact y5 | exact y6) (first | (go_at_call_of 114 ((k1 : Nat) : Int); refine (cost_any n k1 hlt (by omega) _ (hP.drewN _).bands).mono ?_; rw [HC1.out]; rintro r5 w5 ⟨rfl, hb5⟩; have hP5 := (hP.drewN _).below hb5; have y5 := (hP5.kcell n).trans HYK.out) | (go_at_call_of 114 ((kk : Nat) : Int); refine (cost_any n kk hlt (by omega) _ hP5.bands).mono ?_; rw [HC0.out]; rintro r6 w6 ⟨rfl, hb6⟩; have hP6 := hP5.below hb6; have y6 := (hP6.kcell n).trans HYK.out))
            by_cases hpay : (c1 : Int) - (c0 : Int) ≤ bt
            · have hst := HNT.out hpay
              go_wp2_with fail
              go_roundw
              case rel => exact ⟨n + 1, hlt, by rw [hst], by rw [hst], by go_num, hP6⟩
              case measure => simp [intOf]; omega
            · have hst := HNF.out (by omega)
              go_wp2_with fail
              go_roundw
              case rel => exact ⟨n + 1, hlt, by rw [hst], by rw [hst], by go_num, hP6⟩
              case measure => simp [intOf]; omega
      · obtain rfl : n = 4 := by omega
        have htb := tot_bd HK.out
        have ht := HT.out
        obtain ⟨f, rfl⟩ : ∃ j, f = j + 1 := ⟨f - 1, by omega⟩
        have hr := HRR.out
        rw [pulses] at hr
        obtain ⟨p, hp⟩ : ∃ p, pbest ls ks bt 4 = p := ⟨_, rfl⟩
        rw [hp] at hbe hr ⊢
        obtain ⟨best, price⟩ := p
        obtain ⟨b0, b1, b2, b3, b4⟩ := hbe
        simp only at b0 b1 b2 b3 b4 hr
        clear hbest4 hp
        by_cases hbn : best < 0
        · rw [if_pos hbn] at hr
          have HR2 := Lib.hid hr
          have hszk : (Tryz.prog.info? 27).map (·.size) = some (arrV ks).size := by rw [arr_size, HK.out.1]; exact fourInfo
          have hsz4 : zero4.size = (arrV ks).size := by rw [arr_size, HK.out.1]; rfl
          clear hr b2 b3
          go_wp2_with (first | (refine wpList_load_blk rfl 27 (.tmp 5) rfl (xb + 2) rfl (arrV ks) 27 hP.pul Tryz.underlying27 hszk ?_) | (refine wpList_store_blk rfl 27 (.tmp 4) (.tmp 80) rfl (xb + 1) zero4 (arrV ks) rfl rfl 27 hP.res hszk hsz4 (arr_one _) ?_))
          (try rw [Exit.noGoto_ret])
          refine bodyPost_ret (v := .agg (arrV ks)) (results_cell_row Tryz.results62 _ _ (xb + 1) 27 _ (0, 0) (.array 4 3) rfl (hP.res.setRow (new := arrV ks)) Tryz.underlying27 rfl hszk) rfl ⟨by rw [HR2.out], Below.setRow hP.far (by omega) _⟩
        · rw [if_neg hbn] at hr
          obtain ⟨B, rfl⟩ : ∃ B : Nat, best = B := ⟨best.toNat, by omega⟩
          rw [Int.toNat_natCast] at hr b2
          obtain ⟨b5, _⟩ := b2 (by omega)
          have b6 := b3 (by omega)
          have hB4 : B < 4 := by omega
          have kB8 := HK.out.2 B hB4
          have hts := tot_set HK.out.1 hB4
          have hpk := pulsesOk_set HK.out hB4 b5
          obtain ⟨kB, hkB⟩ : ∃ kB, ks.getD B 0 = kB := ⟨_, rfl⟩
          rw [hkB] at hr b5 kB8 hts hpk
          have y1 := (hP.kcell B).trans (by rw [arr_get (by rw [HK.out.1]; exact hB4), hkB])
          have f1 := hP.pul.frozen B
          have hP2 := hP.put (by omega) B (kB + 1)
          have HR2 := Lib.hid hr
          have HPK := Lib.hid hpk
          have hm1 := tot4_eq hP HK.out.1
          have hm2 := tot4_eq hP2 hpk.1
          have HM1 := Lib.hid hm1
          have HM2 := Lib.hid hm2
          have HTS := Lib.hid hts
          have hb := HB.out
          clear hr hpk hts hm1 hm2 b2 b3
          go_wp2_with fail
          go_roundw
          case rel => exact ⟨f, ks.set B (kB + 1), bt - price, rfl, by omega, by omega, HPK, Lib.hid (by rw [HTS.out]; omega), Lib.hid (by omega), HR2, hP2⟩
          case measure =>
            show (40 - tot4 (wr.setCell ⟨xb + 2, B, none⟩ (.int .i64 (kB + 1))) (xb + 2)).toNat < (40 - tot4 _ (xb + 2)).toNat
            rw [HM2.out, HM0.out, HTS.out]
            omega
end Go.Proofs.YtkoljgmapclhkaaGreatDoor

namespace Go.Proofs.YtkoljgmapclhkaaGreatDoor
open Go.RowKit

theorem dmay_any (s : ByteArray) (w : World) : Calls Tryz.prog 32 #[.string s] w fun e w' => e = .returned (.bool (decide (10 ≤ s.size ∧ s.size ≤ 32))) ∧ w = w' := by
  by_cases h1 : (10 : Int) ≤ s.size
  · go_enter Tryz.func32, Tryz.ntmps32
    go_wp2
    go_ret
    exact ⟨by simp [show 10 ≤ s.size by omega]; omega, rfl⟩
  · go_enter Tryz.func32, Tryz.ntmps32
    go_wp2
    go_ret
    exact ⟨by simp [show ¬ 10 ≤ s.size by omega], rfl⟩
theorem fits32 (x : Int) (w : World) : Calls Tryz.prog 58 #[.int .i64 x, .int .i64 32] w fun e w' => e = .returned (.bool (Sp.cut 32 x == x)) ∧ w = w' := by
  go_enter Tryz.func58, Tryz.ntmps58
  go_wp2_with fail
  refine (Cut32 x _).mono ?_
  rintro e w1 ⟨rfl, rfl⟩
  go_wp2_with fail
  go_ret
  exact ⟨rfl, rfl⟩
theorem fits22 (x : Int) (w : World) : Calls Tryz.prog 58 #[.int .i64 x, .int .i64 22] w fun e w' => e = .returned (.bool (Sp.cut 22 x == x)) ∧ w = w' := by
  go_enter Tryz.func58, Tryz.ntmps58
  go_wp2_with fail
  refine (Cut22 x _).mono ?_
  rintro e w1 ⟨rfl, rfl⟩
  go_wp2_with fail
  go_ret
  exact ⟨rfl, rfl⟩

/-- A band's waves out of a decoder: which, and the decoder then. -/
def bandV (d : Sp.Dec) (b lev k : Nat) : List Int :=
  if k = 0 then List.replicate (bandN b) 0 else fillL lev (Sp.vec (bandN b) k ((Sp.Dec.bitF 3 d (Sp.vbits (bandN b) k) 0 0).1 % (Sp.cnt (bandN b) k : Nat)))
def bandD (d : Sp.Dec) (b k : Nat) : Sp.Dec := if k = 0 then d else (Sp.Dec.bitF 3 d (Sp.vbits (bandN b) k) 0 0).2
set_option maxRecDepth 100000 in
set_option maxHeartbeats 1600000 in
theorem band_zero (g : Nat) (b lev : Nat) (hb : b < 4) (w : World) (hW : BandsW w) (tk : Value) :
    Calls Tryz.prog 67 #[tk, .int .i64 b, .int .i64 lev, .int .i64 0] w fun e w' => ∃ v, e = .returned v ∧ Row w' 3 v (intsV (List.replicate (bandN b) 0)) ∧ Below w.heap.size w w' ∧ Hid (∀ g, v.ownBlock = some g → w.heap.size ≤ g) := by
  have hmk : ∀ w, (Instr.makeSlice 48 (.int .i64 (bandN b : Int)) (.int .i64 (bandN b : Int))).run Tryz.prog w = .ok (.slice (some ⟨w.heap.size, 0, none⟩) (bandN b) (bandN b)) (w.alloc (.cells (madeCells #[.int .i64 0] (bandN b)) 3)) :=
    run_make_row' 48 3 (.int .i64 0) 8 Tryz.underlying48 madeI rfl .i64 .i64 (bandN b) (by have := bandN_bd hb; omega) (by have := bandN_bd hb; omega)
  go_enter Tryz.func67, Tryz.ntmps67
  go_wp2_with fail
  refine (Size_any b hb _ hW).mono ?_
  rintro e w1 ⟨rfl, hK1⟩
  have hb1 : Below w.heap.size w w1 := hK1.below (fun _ h => h.elim) (Nat.le_refl _)
  have hs1 := hb1.size
  go_wp2_with fail
  go_ret
  exact ⟨_, rfl, Row.made w1 (bandN b) (by have := bandN_bd hb; omega), hb1.alloc hs1 _, Lib.hid (by intro g hg; simp [Value.ownBlock] at hg; omega)⟩
end Go.Proofs.YtkoljgmapclhkaaGreatDoor

namespace Go.Proofs.YtkoljgmapclhkaaGreatDoor
open Go.RowKit

theorem cnt_pos : ∀ b < 4, ∀ k < 9, 1 ≤ (Sp.cntL (bandN b)).getD k 0 := by decide +kernel
set_option maxRecDepth 100000 in
set_option maxHeartbeats 1600000 in
theorem band_any (g : Nat) {c : Int} {d : Sp.Dec} (hd : d.Ok c) (hc : c ≤ 1000000) (b lev k : Nat) (hb : b < 4) (hlev : lev ≤ 20) (hk0 : 1 ≤ k) (hk : k ≤ 8) (w : World) (hW : BandsW w) (hg0 : g ≠ 0) (hB : Blk w g (decC d) 154) :
    Calls Tryz.prog 67 #[.func (.func 65) #[.pointer (some ⟨g, 0, none⟩)] #[], .int .i64 b, .int .i64 lev, .int .i64 k] w fun e w' => ∃ v, e = .returned v ∧ Row w' 3 v (intsV (bandV d b lev k)) ∧ Blk w' g (decC (bandD d b k)) 154 ∧ Kept (· = g) w w' ∧ Hid (∀ i, v.ownBlock = some i → w.heap.size ≤ i) := by
  have hn8 := bandN_bd hb
  have hv20 := Sp.vbits_bd hn8 hk
  have hcp : 1 ≤ Sp.cnt (bandN b) k := by rw [Sp.cnt_row _ k (by omega)]; exact cnt_pos b hb k (by omega)
  have hcb := Sp.cnt_bd hn8 hk
  obtain ⟨_, z0, z1⟩ := Sp.Dec.bitF_ok 3 (Sp.vbits (bandN b) k) 0 0 hd (by omega) (by decide) (by decide)
  have hp24 : (2 : Int) ^ (0 + Sp.vbits (bandN b) k) ≤ 2 ^ 20 := by exact_mod_cast (Nat.pow_le_pow_right (by omega : 0 < 2) (by omega))
  have hsize := Size_any b hb
  have hbits := fun w => VBits_any (bandN b) k hn8 hk w
  have hcount := fun w => Count_any (bandN b) k hn8 hk w
  have hdb := fun w hB => DBits_any g hd (by omega) (Sp.vbits (bandN b) k) (by omega) w hB
  have hvec := fun i h0 h1 w => Vector_any (bandN b) k i hn8 hk h0 h1 w
  have hvok := fun (i : Int) (h0 : 0 ≤ i) (h1 : i < (Sp.cnt (bandN b) k : Nat)) => Sp.vec_ok (bandN b) hn8 k i hk h0 (by rw [Sp.cntI_nat _ hk]; exact h1)
  have hvl := fun i => Sp.vec_len (bandN b) k i
  have hV : bandV d b lev k = fillL lev (Sp.vec (bandN b) k ((Sp.Dec.bitF 3 d (Sp.vbits (bandN b) k) 0 0).1 % (Sp.cnt (bandN b) k : Nat))) := by unfold bandV; rw [if_neg (by omega)]
  have hD : bandD d b k = (Sp.Dec.bitF 3 d (Sp.vbits (bandN b) k) 0 0).2 := by unfold bandD; rw [if_neg (by omega)]
  rw [hV, hD]
  obtain ⟨z, hz⟩ : ∃ z, (Sp.Dec.bitF 3 d (Sp.vbits (bandN b) k) 0 0).1 = z := ⟨_, rfl⟩
  rw [hz] at z0 z1 ⊢
  obtain ⟨q, hq⟩ : ∃ q, Sp.cnt (bandN b) k = q := ⟨_, rfl⟩
  rw [hq] at hcp hcb ⊢
  simp only [hq] at hcount hvec hvok
  simp only [hz] at hdb
  have hz20 : z ≤ 1048576 := by omega
  have hm0 := Int.emod_nonneg z (show (q : Int) ≠ 0 by omega)
  have hm1 := Int.emod_lt_of_pos z (show (0 : Int) < q by omega)
  have hzt : z.tmod (q : Int) = z % (q : Int) := Int.tmod_eq_emod_of_nonneg z0
  have hqz : (q : Int) ≠ 0 := by omega
  have HS := Lib.hid hsize
  have HBI := Lib.hid hbits
  have HC := Lib.hid hcount
  have HDB := Lib.hid hdb
  have HV := Lib.hid hvec
  have HVO := Lib.hid hvok
  have HVL := Lib.hid hvl
  have hk00 : ¬ (k : Int) = 0 := by omega
  clear hsize hbits hcount hdb hvec hvok hvl hV hD hz hq z1 hp24
  go_enter Tryz.func67, Tryz.ntmps67
  go_wp2_with fail
  refine (HS.out _ hW).mono ?_
  rintro e w1 ⟨rfl, hK1⟩
  have hB1 := hB.keep hK1 (fun h => h)
  have hb1 : Below w.heap.size w w1 := hK1.below (fun _ h => h.elim) (Nat.le_refl _)
  go_wp2_with fail
  refine (HBI.out _).mono ?_
  rintro e w2 ⟨rfl, hb12⟩
  have hB2 := hB1.newB hb12
  have hb2 := hb1.trans (hb12.mono hb1.size)
  go_wp2_with fail
  refine (HDB.out _ hB2).mono ?_
  rintro e w3 ⟨rfl, hB3, hK3⟩
  have hK03 : Kept (· = g) w w3 := (Kept.of_below hb2).trans hK3
  go_wp2_with fail
  refine (HC.out _).mono ?_
  rintro e w4 ⟨rfl, hb34⟩
  have hB4 := hB3.newB hb34
  have hK04 := hK03.thenBelow hb34
  go_wp2_with fail
  refine (HV.out _ hm0 hm1 _).mono ?_
  rintro e w5 ⟨v5, rfl, hR5, hb45, hF5⟩
  have hB5 := hB4.newB hb45
  have hK05 := hK04.thenBelow hb45
  go_wp2_with fail
  refine (Fill_any lev hlev _ v5 _ hR5.sliceI (by rw [HVL.out]; omega) (HVO.out _ hm0 hm1).2).mono ?_
  rintro e w6 ⟨v6, rfl, hR6, hb56, hF6⟩
  have hB6 := hB5.newB hb56
  have hK06 := hK05.thenBelow hb56
  go_wp2_with fail
  go_ret
  exact ⟨_, rfl, hR6, hB6, hK06, Lib.hid (fun i hi => by have := hF6.out i hi; have := hK05.size; omega)⟩
end Go.Proofs.YtkoljgmapclhkaaGreatDoor

namespace Go.Proofs.YtkoljgmapclhkaaGreatDoor
open Go.RowKit

/-- A number that is too great for a frame's waves. -/
def wideP (x : Int) : Bool := decide (x < -1048576) || decide (1048576 < x)
theorem Held1_any (x : Int) (w : World) : Calls Tryz.prog 107 #[.int .i64 x] w fun e w' => e = .returned (.bool (wideP x)) ∧ w = w' := by
  unfold wideP
  by_cases h1 : x < -1048576
  · go_enter Tryz.func107, Tryz.ntmps107
    go_wp2
    go_ret
    exact ⟨by simp [h1], rfl⟩
  · go_enter Tryz.func107, Tryz.ntmps107
    go_wp2
    go_ret
    exact ⟨by simp; omega, rfl⟩
theorem Blk.sliceI {W : World} {b : Nat} {l : List Int} {t : TypeId} (h : Blk W b (arrV l) t) (hl : l.length ≤ 1000000) : SliceI W (.slice (some ⟨b, 0, none⟩) l.length l.length) l :=
  ⟨_, l.length, rfl, Nat.le_refl _, by omega, fun j x hx => ⟨b, 0, rfl, by
    have hj : j < l.length := (List.getElem?_eq_some_iff.1 hx).1
    rw [Nat.zero_add, h.cell j, List.getElem?_toArray, ints_get hj, List.getD_eq_getElem?_getD, hx, Option.getD_some]⟩⟩
set_option maxHeartbeats 800000 in
theorem Held_any (l : List Int) (hl : l.length = 16) (w : World) : Calls Tryz.prog 59 #[.agg (arrV l)] w fun e w' => e = .returned (.bool (!l.any wideP)) ∧ Below w.heap.size w w' := by
  have hX := Blk.new w (arrV l) 26
  have hC := Contains_any 107 wideP l _ _ (hX.sliceI (by omega)) (by omega) (fun _ _ => by kernel_rfl) (fun x _ w => Held1_any x w)
  rw [hl] at hC
  have hb1 : Below w.heap.size w (w.alloc (.cells (arrV l) 26)) := (Below.refl _ _).alloc (Nat.le_refl _) _
  go_enter Tryz.func59, Tryz.ntmps59
  go_wp2_with fail
  refine hC.mono ?_
  rintro e w1 ⟨rfl, rfl⟩
  go_wp2_with fail
  go_ret
  exact ⟨rfl, hb1⟩
end Go.Proofs.YtkoljgmapclhkaaGreatDoor

namespace Go.Proofs.YtkoljgmapclhkaaGreatDoor
open Go.RowKit

def memL (L : List Int) : List Int := L.take 16
def lastL (L : List Int) : Int := L.getD 16 0
def levL (L : List Int) : List Int := (L.drop 17).take 4
def wavL (L : List Int) : List Int := (L.drop 21).take 16
def lostL (L : List Int) : Int := L.getD 37 0
def fitP (x : Int) : Bool := Sp.cut 32 x == x
def levP (x : Int) : Bool := decide (0 ≤ x) && decide (x ≤ 20)
/-- Is a state right? -/
def rightS (L : List Int) : Bool := (memL L).all fitP && (levL L).all levP && (Sp.cut 22 (lastL L) == lastL L) && !(wavL L).any wideP && decide (0 ≤ lostL L) && decide (lostL L ≤ 255)
theorem Blk.range {W : World} {b : Nat} {L : List Int} {t : TypeId} (h : Blk W b (arrV L) t) (o n : Nat) (hn : o + n ≤ L.length) : W.rangeAt b o (intsV ((L.drop o).take n)) := fun j v hv => by
  have hj : j < n := by have := (List.getElem?_eq_some_iff.1 hv).1; simp at this; omega
  rw [h.cell (o + j), ← hv]
  simp [List.getElem?_take, List.getElem?_drop, hj]
/-- A guarded load of a whole array that lies in the midst of a block, where its guard lets it run. -/
theorem wpList_load_g {ops : Array Oper} {rest : List Oper} {op : Oper} {a : Act} {w : World} {Q : Exit → Act → World → Prop} (hwd : Region.wanted op (yielded ops a.tmps) = true) (ty : TypeId) (x : Operand) (ho : op.op = .load ty x)
    (b o : Nat) (hx : a.eval x = .pointer (some ⟨b, o, none⟩)) (cs : List Value) (d : TypeDesc) (hc : w.rangeAt b o cs)
    (hu : Tryz.prog.underlying ty = some d) (hd : d.isRow = true) (hi : (Tryz.prog.info? ty).map (·.size) = some cs.length)
    (h : wpList Tryz.prog ops Q rest (a.put op.dst (.agg cs.toArray)) w) : wpList Tryz.prog ops Q (op :: rest) a w :=
  wpList_step fun K hK => by rw [if_pos hwd]; exact wp_load_mid ty x ho b o hx cs d hc hu hd hi (hK _ _ h)
theorem all_false {l : List Int} {p : Int → Bool} {k : Nat} {x : Int} (hx : l[k]? = some x) (hp : p x = false) : l.all p = false := by
  rw [List.all_eq_false]
  exact ⟨x, List.mem_of_getElem? hx, by simp [hp]⟩
set_option maxRecDepth 100000 in
set_option maxHeartbeats 1600000 in
theorem Right_any (L : List Int) (hl : L.length = 38) (w : World) : Calls Tryz.prog 33 #[.agg (arrV L)] w fun e w' => e = .returned (.bool (rightS L)) ∧ Below w.heap.size w w' := by
  have hX := Blk.new w (arrV L) 29
  obtain ⟨xb, hxb⟩ : ∃ xb, w.heap.size = xb := ⟨_, rfl⟩
  rw [hxb] at hX
  have hb0 : Below w.heap.size w (w.alloc (.cells (arrV L) 29)) := (Below.refl _ _).alloc (Nat.le_refl _) _
  have hm : (memL L).length = 16 := by simp [memL, hl]
  have hi0 : (Tryz.prog.info? 26).map (·.size) = some (intsV (memL L)).length := by rw [List.length_map, hm]; exact blockInfo
  have hidx := fun k (hk : k < 16) (w : World) => run_index_arr 26 16 (memL L) hm Tryz.underlying26 k hk w
  have HI := Lib.hid hidx
  clear hidx
  go_enter Tryz.func33, Tryz.ntmps33
  go_upto_region 1 with (fail)
  revert hX hb0
  generalize (w.alloc (.cells (arrV L) 29)) = w0
  intro hX hb0
  have hr0 : w0.rangeAt xb 0 (intsV (memL L)) := by have h := hX.range 0 16 (by omega); simpa [memL] using h
  go_wp2_with (first | (refine wpList_load_mid rfl 26 (.tmp 7) rfl xb 0 rfl (intsV (memL L)) (.array 16 3) hr0 Tryz.underlying26 rfl hi0 ?_))
  go_loop [9] (fun i => ∃ k : Nat, k ≤ 16 ∧ i = .int .i64 k ∧ Hid (((memL L).take k).all fitP = true)) (fun i => 16 - (intOf i).toNat)
  case atStart => exact ⟨0, by omega, rfl, Lib.hid rfl⟩
  case round =>
    obtain ⟨k, hk, rfl, HA⟩ := hrel
    by_cases hlt : k < 16
    · have hi := HI.out k hlt
      have hx : (memL L)[k]? = some ((memL L).getD k 0) := by rw [List.getD_eq_getElem?_getD, List.getElem?_eq_getElem (by omega)]; rfl
      obtain ⟨x, hxe⟩ : ∃ x, (memL L).getD k 0 = x := ⟨_, rfl⟩
      rw [hxe] at hi hx
      have hfx := fun w => fits32 x w
      have HX := Lib.hid hx
      clear hx hxe
      cases hf : (Sp.cut 32 x == x) with
      | true =>
        rw [hf] at hfx
        go_wp2_with fail
        refine (hfx _).mono ?_
        rintro e w1 ⟨rfl, rfl⟩
        go_wp2_with fail
        go_round
        case rel => exact ⟨k + 1, hlt, by go_num, Lib.hid (by rw [List.take_add_one, HX.out, Option.toList_some, List.all_append, HA.out]; simp [fitP, hf])⟩
        case measure => simp [intOf]; omega
      | false =>
        rw [hf] at hfx
        have hno : rightS L = false := by unfold rightS; rw [all_false HX.out (show fitP x = false from hf)]; simp
        go_wp2_with fail
        refine (hfx _).mono ?_
        rintro e w1 ⟨rfl, rfl⟩
        go_wp2_with fail
        go_ret
        rw [hno]
        exact ⟨rfl, hb0⟩
    · obtain rfl : k = 16 := by omega
      have hmem : (memL L).all fitP = true := by have h := HA.out; rw [List.take_of_length_le (by omega)] at h; exact h
      have hv : (levL L).length = 4 := by simp [levL, hl]
      have hr1 : w0.rangeAt xb 17 (intsV (levL L)) := hX.range 17 4 (by omega)
      have hi1 : (Tryz.prog.info? 27).map (·.size) = some (intsV (levL L)).length := by rw [List.length_map, hv]; exact fourInfo
      have hidx2 := fun k (hk : k < 4) (w : World) => run_index_arr 27 4 (levL L) hv Tryz.underlying27 k hk w
      have HI2 := Lib.hid hidx2
      have HMEM := Lib.hid hmem
      clear hidx2 hmem HA HI hr0
      go_wp2_with (first | (refine wpList_load_mid rfl 27 (.tmp 16) rfl xb 17 rfl (intsV (levL L)) (.array 4 3) hr1 Tryz.underlying27 rfl hi1 ?_))
      go_loop [18] (fun i => ∃ k : Nat, k ≤ 4 ∧ i = .int .i64 k ∧ Hid (((levL L).take k).all levP = true)) (fun i => 4 - (intOf i).toNat)
      case atStart => exact ⟨0, by omega, rfl, Lib.hid rfl⟩
      case round =>
        obtain ⟨k, hk, rfl, HA⟩ := hrel
        by_cases hlt : k < 4
        · have hi := HI2.out k hlt
          have hx : (levL L)[k]? = some ((levL L).getD k 0) := by rw [List.getD_eq_getElem?_getD, List.getElem?_eq_getElem (by omega)]; rfl
          obtain ⟨x, hxe⟩ : ∃ x, (levL L).getD k 0 = x := ⟨_, rfl⟩
          rw [hxe] at hi hx
          have HX := Lib.hid hx
          clear hx hxe
          by_cases hx0 : x < 0
          · have HNO := Lib.hid (show rightS L = false by unfold rightS; rw [all_false HX.out (show levP x = false by simp [levP]; omega)]; simp)
            go_wp2_with fail
            go_ret
            rw [HNO.out]
            exact ⟨rfl, by first | exact hb0 | (rw [← hxb]; exact hb0)⟩
          by_cases hx1 : 20 < x
          · have HNO := Lib.hid (show rightS L = false by unfold rightS; rw [all_false HX.out (show levP x = false by simp [levP]; omega)]; simp)
            go_wp2_with fail
            go_ret
            rw [HNO.out]
            exact ⟨rfl, by first | exact hb0 | (rw [← hxb]; exact hb0)⟩
          go_wp2_with fail
          go_round
          case rel => exact ⟨k + 1, hlt, by go_num, Lib.hid (by rw [List.take_add_one, HX.out, Option.toList_some, List.all_append, HA.out]; simp [levP]; omega)⟩
          case measure => simp [intOf]; omega
        · obtain rfl : k = 4 := by omega
          have hlev : (levL L).all levP = true := by have h := HA.out; rw [List.take_of_length_le (by omega)] at h; exact h
          have hw16 : (wavL L).length = 16 := by simp [wavL, hl]
          have hr2 : w0.rangeAt xb 21 (intsV (wavL L)) := hX.range 21 16 (by omega)
          have hi2 : (Tryz.prog.info? 26).map (·.size) = some (intsV (wavL L)).length := by rw [List.length_map, hw16]; exact blockInfo
          have c16 := (hX.cell 16).trans (arr_get (l := L) (by omega))
          have c37 := (hX.cell 37).trans (arr_get (l := L) (by omega))
          have hRS : rightS L = ((Sp.cut 22 (lastL L) == lastL L) && !(wavL L).any wideP && decide (0 ≤ lostL L) && decide (lostL L ≤ 255)) := by unfold rightS; rw [HMEM.out, hlev]; simp
          change w0.cell? ⟨xb, 16, none⟩ = some (.int .i64 (lastL L)) at c16
          change w0.cell? ⟨xb, 37, none⟩ = some (.int .i64 (lostL L)) at c37
          have hft := fun w => fits22 (lastL L) w
          have hhe := fun w => Held_any (wavL L) hw16 w
          have HRS := Lib.hid hRS
          obtain ⟨la, hla⟩ : ∃ la, lastL L = la := ⟨_, rfl⟩
          obtain ⟨lo, hlo⟩ : ∃ lo, lostL L = lo := ⟨_, rfl⟩
          rw [hla] at c16 hft
          rw [hlo] at c37
          clear hRS hlev HA HI2 hr1
          cases hf : (Sp.cut 22 la == la) with
          | false =>
            rw [hf] at hft
            have HNO := Lib.hid (show rightS L = false by rw [HRS.out, hla, hf]; simp)
            go_wp2_with fail
            refine (hft _).mono ?_
            rintro e w1 ⟨rfl, rfl⟩
            go_wp2_with fail
            go_ret
            rw [HNO.out]
            exact ⟨rfl, by first | exact hb0 | (rw [← hxb]; exact hb0)⟩
          | true =>
            rw [hf] at hft
            go_wp2_with fail
            refine (hft _).mono ?_
            rintro e w1 ⟨rfl, rfl⟩
            go_wp2_with (first | (refine wpList_load_g (by rfl) 26 (.tmp 32) rfl xb 21 rfl (intsV (wavL L)) (.array 16 3) hr2 Tryz.underlying26 rfl hi2 ?_))
            refine (hhe _).mono ?_
            rintro e w2 ⟨rfl, hb2⟩
            have d37 := (hb2.cell (p := ⟨xb, 37, none⟩) hX.lt).trans c37
            have hbb := hb0.trans (hb2.mono hb0.size)
            have HR2 := Lib.hid (show rightS L = (!(wavL L).any wideP && decide (0 ≤ lo) && decide (lo ≤ 255)) by rw [HRS.out, hla, hlo, hf]; simp)
            cases hany : (wavL L).any wideP with
            | true =>
              have HNO := Lib.hid (show rightS L = false by rw [HR2.out, hany]; simp)
              go_wp2_with fail
              go_ret
              rw [HNO.out]
              exact ⟨rfl, by first | exact hbb | (rw [← hxb]; exact hbb)⟩
            | false =>
              by_cases h0 : 0 ≤ lo
              · have HNO := Lib.hid (show rightS L = decide (lo ≤ 255) by rw [HR2.out, hany]; simp [h0])
                go_wp2_with fail
                go_ret
                rw [HNO.out]
                exact ⟨rfl, by first | exact hbb | (rw [← hxb]; exact hbb)⟩
              · have HNO := Lib.hid (show rightS L = false by rw [HR2.out, hany]; simp [h0])
                go_wp2_with fail
                go_ret
                rw [HNO.out]
                exact ⟨rfl, by first | exact hbb | (rw [← hxb]; exact hbb)⟩
end Go.Proofs.YtkoljgmapclhkaaGreatDoor

namespace Go.Proofs.YtkoljgmapclhkaaGreatDoor

/-- The cosines all round, and the window. -/
def cosTab : List Int := (List.range 128).map fun u => Sp.cosV (u : Nat)
def winTab : List Int := (List.range 32).map fun n => Sp.sinV (2 * (n : Nat) + 1)
theorem cosTab_len : cosTab.length = 128 := by simp [cosTab]
theorem winTab_len : winTab.length = 32 := by simp [winTab]
def kerAt (n k : Nat) : Int := cosTab.getD ((2 * n + 17) * (2 * k + 1) % 128) 0
theorem cosTab_bd : ∀ u < 128, -32768 ≤ cosTab.getD u 0 ∧ cosTab.getD u 0 ≤ 32768 := by decide +kernel
theorem winTab_bd : ∀ u < 32, -32768 ≤ winTab.getD u 0 ∧ winTab.getD u 0 ≤ 32768 := by decide +kernel
theorem kerAt_bd (n k : Nat) : -32768 ≤ kerAt n k ∧ kerAt n k ≤ 32768 := cosTab_bd _ (Nat.mod_lt _ (by omega))
/-- The sum of the first m told. -/
def sumF (F : Nat → Int) : Nat → Int
  | 0 => 0
  | m + 1 => sumF F m + F m
theorem sumF_bd {F : Nat → Int} {B : Int} (h : ∀ k, -B ≤ F k ∧ F k ≤ B) (m : Nat) : -(B * m) ≤ sumF F m ∧ sumF F m ≤ B * m := by
  induction m with
  | zero => simp [sumF]
  | succ m ih =>
    have h1 := h m
    rw [show ((m + 1 : Nat) : Int) = (m : Int) + 1 from by omega, Int.mul_add, Int.mul_one]
    show -(B * m + B) ≤ sumF F m + F m ∧ sumF F m + F m ≤ B * m + B
    omega
theorem sumF_zero {F : Nat → Int} (h : ∀ k, F k = 0) (m : Nat) : sumF F m = 0 := by
  induction m with
  | zero => rfl
  | succ m ih => simp [sumF, ih, h]
def back1 (wv : List Int) (n : Nat) : Int := Sp.shiftN 16 (Sp.shiftN 15 (sumF (fun k => wv.getD k 0 * kerAt n k) 16) * winTab.getD n 0)
/-- The way back: 32 numbers. -/
def backL (wv : List Int) : List Int := if wv.any wideP then List.replicate 32 0 else (List.range 32).map (back1 wv)
theorem backL_len (wv : List Int) : (backL wv).length = 32 := by unfold backL; split <;> simp
/-- What was laid over. -/
def overL (a b : List Int) : List Int := (List.range 16).map fun i => Sp.cut 32 (Sp.cut 32 (a.getD i 0) + Sp.cut 32 (b.getD i 0))
theorem overL_len (a b : List Int) : (overL a b).length = 16 := by simp [overL]
/-- One sample laid down. -/
def lay1 (last x : Int) : Int := Sp.cut 22 (Sp.cut 22 x + (27853 * last).tdiv 32768)
def layG : Int → List Int → List Int
  | _, [] => []
  | last, x :: r => lay1 last x :: layG (lay1 last x) r
theorem layG_len : ∀ (l : List Int) (last : Int), (layG last l).length = l.length := by
  intro l
  induction l with
  | nil => intro _; rfl
  | cons x r ih => intro last; simp [layG, ih]
/-- Where the samples' last one stands. -/
def layE (last : Int) (l : List Int) : Int := l.foldl lay1 last
def layL (last : Int) (l : List Int) : List Int := layG (Sp.cut 22 last) l
def layN (last : Int) (l : List Int) : Int := layE (Sp.cut 22 last) l
/-- The state that is asked: no Mem, no Last. -/
def mkSt (ls wv : List Int) (lost : Int) : List Int := List.replicate 17 0 ++ ls ++ wv ++ [lost]
/-- The sound of a frame, and the state then. -/
def nextOk (L ls wv : List Int) (lost : Int) : Bool := rightS L && rightS (mkSt ls wv lost)
def nextO (L wv : List Int) : List Int := layL (lastL L) (overL (memL L) ((backL wv).take 16))
def nextN (L wv : List Int) : Int := layN (lastL L) (overL (memL L) ((backL wv).take 16))
def nextSt (L ls wv : List Int) (lost : Int) : List Int := ((backL wv).drop 16).map (Sp.cut 32) ++ [nextN L wv] ++ ls ++ wv ++ [lost]
def soundL (l : List Int) : List Int := l.map (Sp.cut 16)
/-- A decoder behind so many levels. -/
def decN (s : ByteArray) : Nat → Sp.Dec
  | 0 => Sp.Dec.new s
  | k + 1 => ltakeD (decN s k)
/-- The level of a packet. -/
def levAt (s : ByteArray) (ls : List Int) (b : Nat) : Int := max (min (ls.getD b 0 + ltakeV (decN s b)) 20) 0
def levsS (s : ByteArray) (ls : List Int) : List Int := (List.range 4).map (levAt s ls)
def bitsS (s : ByteArray) : Int := max (8 * (s.size : Int) - 40 - (decN s 4).used) 0
def pulS (s : ByteArray) (ls : List Int) : List Int := pulses (levsS s ls) 33 [0, 0, 0, 0] (bitsS s)
/-- A decoder behind so many bands, and the waves then. -/
def bandsS (d : Sp.Dec) (ls ks : List Int) : Nat → Sp.Dec × List Int
  | 0 => (d, List.replicate 16 0)
  | b + 1 => (bandD (bandsS d ls ks b).1 b (ks.getD b 0).toNat, putL (bandsS d ls ks b).2 (offN b) (bandV (bandsS d ls ks b).1 b (ls.getD b 0).toNat (ks.getD b 0).toNat))
def wavS (s : ByteArray) (ls : List Int) : List Int := (bandsS (decN s 4) (levsS s ls) (pulS s ls) 4).2
end Go.Proofs.YtkoljgmapclhkaaGreatDoor
