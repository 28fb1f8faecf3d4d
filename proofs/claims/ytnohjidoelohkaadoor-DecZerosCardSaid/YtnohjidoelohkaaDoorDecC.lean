/- The walk of level.Fill: a band's waves out of its pulses. -/
import Derived.Test.YtnohjidoelohkaaDoorDecB
namespace Go.Proofs.YtnohjidoelohkaaDoor
open Go.RowKit

/-- A band's waves. -/
def fillL (lev : Nat) (l : List Int) : List Int := if lev = 0 ∨ Sp.sizes l = 0 then List.replicate l.length 0 else l.map fun n => (n * 3 * 2 ^ lev).tdiv (4 * Sp.sizes l)
theorem fillL_len (lev : Nat) (l : List Int) : (fillL lev l).length = l.length := by unfold fillL; split <;> simp
theorem cellI_lt {W : World} {a : Addr} {v : Value} (h : W.cell? a = some v) : a.block < W.heap.size := by
  rcases Nat.lt_or_ge a.block W.heap.size with h1 | h1
  · exact h1
  · simp [World.cell?, Array.getElem?_eq_none h1] at h
theorem SliceI.cellAt {W W' : World} {v : Value} {l : List Int} (h : SliceI W v l) (hb : Below W.heap.size W W') : SliceI W' v l := by
  obtain ⟨o, cap, hv, h1, h2, h3⟩ := h
  refine ⟨o, cap, hv, h1, h2, fun j x hx => ?_⟩
  obtain ⟨g, f, ho, hc⟩ := h3 j x hx
  exact ⟨g, f, ho, (hb.cell (cellI_lt hc)).trans hc⟩
theorem Row.made (w : World) (n : Nat) (hn : n ≤ 1000000) : Row (w.alloc (.cells (madeCells #[.int .i64 0] n) 3)) 3 (.slice (some ⟨w.heap.size, 0, none⟩) n n) (intsV (List.replicate n 0)) := by
  have h := World.ownsRow_lit (base := 0) (e := 3) (size := 1) w (madeCells #[.int .i64 0] n) n (Nat.zero_le _) (by unfold maxLen; omega) (by simp [size_madeCells])
  have e : (madeCells #[.int .i64 0] n).toList = intsV (List.replicate n 0) := by rw [toList_madeCells_one]; simp
  rw [e] at h
  exact Row.mk h
theorem madeI : (Tryd.prog.info? 3).map (fun i => (i.zero, i.size, i.bytes)) = some (some (.int .i64 0), 1, 8) := by kernel_rfl
/-- A list filled so far. -/
def partL (f : List Int) (k : Nat) : List Int := f.take k ++ List.replicate (f.length - k) 0
theorem partL_zero (f : List Int) : partL f 0 = List.replicate f.length 0 := by simp [partL]
theorem partL_all (f : List Int) : partL f f.length = f := by simp [partL]
theorem partL_len (f : List Int) {k : Nat} (h : k ≤ f.length) : (partL f k).length = f.length := by simp [partL]; omega
theorem partL_set (f : List Int) {k : Nat} (h : k < f.length) : (partL f k).set k (f.getD k 0) = partL f (k + 1) := by
  unfold partL
  obtain ⟨d, hd⟩ : ∃ d, f.length - k = d + 1 := ⟨f.length - k - 1, by omega⟩
  rw [hd, show f.length - (k + 1) = d from by omega, List.replicate_succ, List.set_append_right _ _ (by rw [List.length_take]; omega), List.length_take, show k - min k f.length = 0 from by omega, List.set_cons_zero, List.take_add_one, List.getElem?_eq_getElem h, Option.toList_some, List.append_assoc, List.getD_eq_getElem?_getD, List.getElem?_eq_getElem h]
  rfl
theorem pow_bd20 {a : Nat} (h : a ≤ 20) : (1 : Int) ≤ 2 ^ a ∧ (2 : Int) ^ a ≤ 1048576 := by
  have h2 : (2 : Int) ^ a ≤ 2 ^ 20 := by exact_mod_cast (Nat.pow_le_pow_right (by omega : 0 < 2) h)
  have h3 : (0 : Int) < 2 ^ a := Int.pow_pos (by omega)
  omega
theorem quo_bd {n K : Int} {P : Int} (hn : -8 ≤ n ∧ n ≤ 8) (hP : 1 ≤ P ∧ P ≤ 1048576) (hK : 1 ≤ K) : -(24 * P) ≤ n * 3 * P ∧ n * 3 * P ≤ 24 * P ∧ -(24 * P) ≤ (n * 3 * P).tdiv (4 * K) ∧ (n * 3 * P).tdiv (4 * K) ≤ 24 * P := by
  have h1 : n * 3 * P ≤ 24 * P := Int.mul_le_mul_of_nonneg_right (by omega) (by omega)
  have h2 : (-24) * P ≤ n * 3 * P := Int.mul_le_mul_of_nonneg_right (by omega) (by omega)
  have h3 : ((n * 3 * P).tdiv (4 * K)).natAbs ≤ (n * 3 * P).natAbs := by rw [Int.natAbs_tdiv]; exact Nat.div_le_self _ _
  omega

set_option maxRecDepth 100000 in
set_option maxHeartbeats 1600000 in
theorem Fill_any (lev : Nat) (h1 : lev ≤ 20) (l : List Int) (v : Value) (w : World) (hS : SliceI w v l) (hl : l.length ≤ 8) (hb : ∀ x ∈ l, -8 ≤ x ∧ x ≤ 8) :
    Calls Tryd.prog 42 #[.int .i64 lev, v] w fun e w' => ∃ v', e = .returned v' ∧ Row w' 3 v' (intsV (fillL lev l)) ∧ Below w.heap.size w w' ∧ Hid (∀ g, v'.ownBlock = some g → w.heap.size ≤ g) := by
  have hmk : ∀ w, (Instr.makeSlice 54 (.int .i64 (l.length : Int)) (.int .i64 (l.length : Int))).run Tryd.prog w = .ok (.slice (some ⟨w.heap.size, 0, none⟩) l.length l.length) (w.alloc (.cells (madeCells #[.int .i64 0] l.length) 3)) :=
    run_make_row' 54 3 (.int .i64 0) 8 Tryd.underlying54 madeI rfl .i64 .i64 l.length (by omega) (by omega)
  have hb0 : Below w.heap.size w (w.alloc (.cells (madeCells #[.int .i64 0] l.length) 3)) := (Below.refl _ _).alloc (Nat.le_refl _) _
  have hS0 := hS.cellAt hb0
  have hR0 := Row.made w l.length (by omega)
  have hr := right_yes lev (by omega) (by omega) l v _ hS0 hl hb
  have hsum := sum_any l v _ hS0 hl hb
  have hsz := Sp.sizes_bd l hb
  obtain ⟨o, cap, rfl, hc1, hc2, hcl⟩ := hS
  have HC := Lib.hid hcl
  have HB := Lib.hid hb
  have hlev : (lev : Int) ≤ 20 := by omega
  clear hcl hb hS0
  obtain ⟨B, hB⟩ : ∃ B, w.heap.size = B := ⟨_, rfl⟩
  rw [hB] at hR0
  by_cases hz : lev = 0
  · subst hz
    have hf : fillL 0 l = List.replicate l.length 0 := by unfold fillL; rw [if_pos (.inl rfl)]
    rw [hf]
    go_enter Tryd.func42, Tryd.ntmps42
    go_wp2_with fail
    refine hr.mono ?_
    rintro e w1 ⟨rfl, rfl⟩
    go_wp2_with fail
    go_ret
    exact ⟨_, rfl, hR0, hb0, Lib.hid (by intro g hg; simp [Value.ownBlock] at hg; omega)⟩
  · have hz2 : ¬ (lev : Int) = 0 := by omega
    obtain ⟨K, hK⟩ : ∃ K, Sp.sizes l = K := ⟨_, rfl⟩
    rw [hK] at hsum hsz
    obtain ⟨F, hFF⟩ : ∃ F, fillL lev l = F := ⟨_, rfl⟩
    rw [hFF]
    have HFF := Lib.hid hFF
    clear hFF
    go_enter Tryd.func42, Tryd.ntmps42
    go_wp2_with fail
    refine hr.mono ?_
    rintro e w1 ⟨rfl, rfl⟩
    go_wp2_with fail
    refine hsum.mono ?_
    rintro e w1 ⟨rfl, rfl⟩
    by_cases hK0 : K = 0
    · subst hK0
      have hf : F = List.replicate l.length 0 := by rw [← HFF.out]; unfold fillL; rw [if_pos (.inr hK)]
      have HF := Lib.hid hf
      clear hf
      go_wp2_with fail
      go_loop [25] (fun i => ∃ k : Nat, k ≤ l.length ∧ i = .int .i64 k) (fun i => l.length - (intOf i).toNat)
      case atStart => exact ⟨0, Nat.zero_le _, rfl⟩
      case round =>
        obtain ⟨k, hk, rfl⟩ := hrel
        by_cases hlt : k < l.length
        · obtain ⟨x, hx⟩ : ∃ x, l[k]? = some x := ⟨_, List.getElem?_eq_getElem hlt⟩
          obtain ⟨g, f0, rfl, hcell⟩ := HC.out k x hx
          have hcell2 := (hb0.cell (cellI_lt hcell)).trans hcell
          clear hx
          go_wp2_with fail
          go_round
          case rel => exact ⟨k + 1, hlt, by go_num⟩
          case measure => simp [intOf]; omega
        · obtain rfl : k = l.length := by omega
          go_wp2_with fail
          go_ret
          exact ⟨_, rfl, by rw [HF.out]; exact hR0, by rw [← hB]; exact hb0, Lib.hid (by intro g hg; simp [Value.ownBlock] at hg; omega)⟩
    · have hf : fillL lev l = l.map fun n => (n * 3 * 2 ^ lev).tdiv (4 * K) := by unfold fillL; rw [if_neg (by rw [hK]; omega), hK]
      have hP := pow_bd20 h1
      obtain ⟨P, hPP⟩ : ∃ P, (2 : Int) ^ lev = P := ⟨_, rfl⟩
      rw [hPP] at hf hP
      have hFl : F.length = l.length := by rw [← HFF.out]; exact fillL_len lev l
      rw [HFF.out] at hf
      have HF := Lib.hid hf
      rw [← hFl, ← partL_zero] at hR0
      have HFL := Lib.hid hFl
      clear hf hK
      go_wp2_with fail
      go_loopw [25] (fun i wr => ∃ k : Nat, k ≤ l.length ∧ i = .int .i64 k ∧ Row wr 3 (.slice (some ⟨B, 0, none⟩) l.length l.length) (intsV (partL F k)) ∧ Below w.heap.size w wr) (fun i _ => l.length - (intOf i).toNat)
      case atStart => exact ⟨0, Nat.zero_le _, rfl, by rw [← HFL.out]; exact hR0, hb0⟩
      case round =>
        clear hR0 hb0
        obtain ⟨k, hk, rfl, hR, hb⟩ := hrel
        by_cases hlt : k < l.length
        · obtain ⟨x, hx⟩ : ∃ x, l[k]? = some x := ⟨_, List.getElem?_eq_getElem hlt⟩
          obtain ⟨g, f0, rfl, hcell⟩ := HC.out k x hx
          have hx8 := HB.out x (List.mem_of_getElem? hx)
          have hcell2 := (hb.cell (cellI_lt hcell)).trans hcell
          obtain ⟨t1, t2, t3, t4⟩ := quo_bd hx8 hP (show 1 ≤ K by omega)
          have hFk : F.getD k 0 = (x * 3 * P).tdiv (4 * K) := by rw [HF.out, List.getD_eq_getElem?_getD, List.getElem?_map, hx]; rfl
          obtain ⟨q, hq⟩ : ∃ q, (x * 3 * P).tdiv (4 * K) = q := ⟨_, rfl⟩
          rw [hq] at t3 t4 hFk
          have hset := partL_set F (k := k) (by rw [HFL.out]; exact hlt)
          rw [hFk] at hset
          have HSET := Lib.hid hset
          have hplen : (intsV (partL F k)).length = l.length := by rw [List.length_map, partL_len F (by rw [HFL.out]; omega), HFL.out]
          have hst := hR.stored hplen k (.int .i64 q)
          have f1 := hR.frozenAt hplen k
          have c1 : wr.cell? ⟨B, k, none⟩ = some (.int .i64 ((partL F k).getD k 0)) := by
            rw [hR.cellAt hplen k hlt, ints_get (by rw [List.length_map] at hplen; omega)]
          rw [ints_set, HSET.out] at hst
          have hb2 := hb.setCell (p := ⟨B, k, none⟩) (by show w.heap.size ≤ B; omega) (.int .i64 q)
          clear hx hset hplen hFk
          go_wp2_with fail
          go_roundw
          case rel => exact ⟨k + 1, hlt, by go_num, hst, hb2⟩
          case measure => simp [intOf]; omega
        · obtain rfl : k = l.length := by omega
          go_wp2_with fail
          go_ret
          refine ⟨_, rfl, ?_, hb, Lib.hid (by intro g hg; simp [Value.ownBlock] at hg; omega)⟩
          have h := hR
          rw [← HFL.out, partL_all] at h
          rw [HFL.out] at h
          exact h
end Go.Proofs.YtnohjidoelohkaaDoor
