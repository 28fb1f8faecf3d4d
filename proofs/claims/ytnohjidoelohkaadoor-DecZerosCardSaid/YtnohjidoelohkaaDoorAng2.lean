/- The walks of angle.Table and angle.Window: tables of cosines. -/
import Derived.Test.YtnohjidoelohkaaDoorAng
import Derived.Test.YtnohjidoelohkaaDoorSpecDec
import Derived.Deep.Cut
namespace Go.Proofs.YtnohjidoelohkaaDoor
open Go.RowKit

/-- The first k of n numbers are F's, the others 0. -/
def filled (F : Nat → Int) (n k : Nat) : List Int := (List.range n).map fun i => if i < k then F i else 0
theorem filled_len (F : Nat → Int) (n k : Nat) : (filled F n k).length = n := by simp [filled]
theorem filled_zero (F : Nat → Int) (n : Nat) : filled F n 0 = List.replicate n 0 := by
  apply List.ext_getElem
  · simp [filled]
  · intro i h1 h2; simp [filled]
theorem filled_all (F : Nat → Int) (n : Nat) : filled F n n = (List.range n).map F := by
  apply List.ext_getElem
  · simp [filled]
  · intro i h1 h2
    simp [filled] at h1 ⊢
    omega
theorem filled_set (F : Nat → Int) (n k : Nat) : (filled F n k).set k (F k) = filled F n (k + 1) := by
  apply List.ext_getElem
  · simp [filled]
  · intro i h1 h2
    simp only [filled, List.getElem_set, List.getElem_map, List.getElem_range]
    split
    · subst_vars; simp
    · rename_i h
      by_cases hi : i < k
      · rw [if_pos hi, if_pos (by omega)]
      · rw [if_neg hi, if_neg (by omega)]
theorem filled_get (F : Nat → Int) (n k : Nat) (h : k < n) : ∃ v : Value, (arrV (filled F n k))[k]? = some v := ⟨_, arr_get (by rw [filled_len]; exact h)⟩
/-- A row of numbers of which some are filled, and a result that isn't yet. -/
structure FillW (w wr : World) (B : Nat) (t : TypeId) (F : Nat → Int) (n k : Nat) : Prop where
  res : Blk wr B (arrV (List.replicate n 0)) t
  out : Blk wr (B + 1) (arrV (filled F n k)) t
  far : Below w.heap.size w wr
theorem FillW.put {w wr : World} {B : Nat} {t : TypeId} {F : Nat → Int} {n k : Nat} (h : FillW w wr B t F n k) (hB : w.heap.size ≤ B) (x : Int) (hx : x = F k) : FillW w (wr.setCell ⟨B + 1, k, none⟩ (.int .i64 x)) B t F n (k + 1) :=
  ⟨h.res.other (by simp only []; omega) _, by subst hx; rw [← filled_set, ← arr_set]; exact h.out.set k _, h.far.setCell (by show w.heap.size ≤ B + 1; omega) _⟩
theorem zero128 : Tryd.zeroCells85 = arrV (List.replicate 128 0) := by kernel_rfl
theorem zero32 : (#[.int .i64 0, .int .i64 0, .int .i64 0, .int .i64 0, .int .i64 0, .int .i64 0, .int .i64 0, .int .i64 0, .int .i64 0, .int .i64 0, .int .i64 0, .int .i64 0, .int .i64 0, .int .i64 0, .int .i64 0, .int .i64 0, .int .i64 0, .int .i64 0, .int .i64 0, .int .i64 0, .int .i64 0, .int .i64 0, .int .i64 0, .int .i64 0, .int .i64 0, .int .i64 0, .int .i64 0, .int .i64 0, .int .i64 0, .int .i64 0, .int .i64 0, .int .i64 0] : Array Value) = arrV (List.replicate 32 0) := by kernel_rfl
theorem a128Info : (Tryd.prog.info? 85).map (·.size) = some 128 := by kernel_rfl
theorem a32Info : (Tryd.prog.info? 81).map (·.size) = some 32 := by kernel_rfl
set_option maxRecDepth 100000 in
set_option maxHeartbeats 1600000 in
theorem Table_any (w : World) : Calls Tryd.prog 61 #[] w fun e w' => e = .returned (.agg (arrV cosTab)) ∧ Below w.heap.size w w' := by
  have h0 : FillW w ((w.alloc (.cells Tryd.zeroCells85 85)).alloc (.cells Tryd.zeroCells85 85)) w.heap.size 85 (fun u => Sp.cosV (u : Nat)) 128 0 := by
    refine ⟨?_, ?_, ((Below.refl _ _).alloc (Nat.le_refl _) _).alloc (by simp) _⟩
    · rw [← zero128]; exact (Blk.new _ _ _).alloc _
    · rw [filled_zero, ← zero128]
      have h := Blk.new (w.alloc (.cells Tryd.zeroCells85 85)) Tryd.zeroCells85 85
      rw [World.size_alloc] at h
      exact h
  have hcos := fun (k : Nat) w => Cos_any (k : Nat) w
  obtain ⟨F, hF⟩ : ∃ F : Nat → Int, (fun u : Nat => Sp.cosV (u : Nat)) = F := ⟨_, rfl⟩
  rw [hF] at h0
  have hFk : ∀ k : Nat, Sp.cosV (k : Nat) = F k := fun k => by rw [← hF]
  simp only [hFk] at hcos
  have HT := Lib.hid (show cosTab = (List.range 128).map F by rw [← hF]; rfl)
  have HC := Lib.hid hcos
  clear hcos hFk hF
  obtain ⟨B, hB⟩ : ∃ B, w.heap.size = B := ⟨_, rfl⟩
  go_enter Tryd.func61, Tryd.ntmps61
  go_upto_region 2 with (fail)
  revert h0
  simp only [hB]
  generalize ((w.alloc (.cells Tryd.zeroCells85 85)).alloc (.cells Tryd.zeroCells85 85)) = w0
  intro h0
  go_wp2_with fail
  go_loopw [3] (fun i wr => ∃ k : Nat, k ≤ 128 ∧ i = .int .i64 k ∧ FillW w wr B 85 F 128 k) (fun i _ => 128 - (intOf i).toNat)
  case atStart => exact ⟨0, by omega, rfl, h0⟩
  case round =>
    obtain ⟨k, hk, rfl, hW⟩ := hrel
    by_cases hlt : k < 128
    · obtain ⟨v0, hv0⟩ := filled_get F 128 k hlt
      have c1 := (hW.out.cell k).trans hv0
      have f1 := hW.out.frozen k
      have hcall := HC.out k
      have hP := hW.put (by omega) (F k) rfl
      go_wp2_with fail
      refine (hcall _).mono ?_
      rintro e w1 ⟨rfl, rfl⟩
      go_wp2_with fail
      go_roundw
      case rel => exact ⟨k + 1, hlt, by go_num, hP⟩
      case measure => simp [intOf]; omega
    · obtain rfl : k = 128 := by omega
      have ho := hW.out
      rw [filled_all, ← HT.out] at ho
      have hr := hW.res
      have hsz : (Tryd.prog.info? 85).map (·.size) = some (arrV cosTab).size := by rw [arr_size, cosTab_len]; exact a128Info
      have hsz2 : (arrV (List.replicate 128 0)).size = (arrV cosTab).size := by rw [arr_size, arr_size, cosTab_len]; simp
      have hfar := Below.setRow hW.far (g := B) (by omega) (arrV cosTab)
      go_wp2_with (first | (refine wpList_load_blk rfl 85 (.tmp 1) rfl (B + 1) rfl (arrV cosTab) 85 ho Tryd.underlying85 hsz ?_) | (refine wpList_store_blk rfl 85 (.tmp 0) (.tmp 11) rfl B _ (arrV cosTab) rfl rfl 85 hr hsz hsz2 (arr_one _) ?_))
      (try rw [Exit.noGoto_ret])
      exact bodyPost_ret (v := .agg (arrV cosTab)) (results_cell_row Tryd.results61 _ _ B 85 _ (0, 0) (.array 128 3) rfl (hr.setRow (new := arrV cosTab)) Tryd.underlying85 rfl hsz) rfl ⟨rfl, hB ▸ hfar⟩
set_option maxRecDepth 100000 in
set_option maxHeartbeats 1600000 in
theorem Window_any (w : World) : Calls Tryd.prog 62 #[] w fun e w' => e = .returned (.agg (arrV winTab)) ∧ Below w.heap.size w w' := by
  have h0 : FillW w ((w.alloc (.cells #[.int .i64 0, .int .i64 0, .int .i64 0, .int .i64 0, .int .i64 0, .int .i64 0, .int .i64 0, .int .i64 0, .int .i64 0, .int .i64 0, .int .i64 0, .int .i64 0, .int .i64 0, .int .i64 0, .int .i64 0, .int .i64 0, .int .i64 0, .int .i64 0, .int .i64 0, .int .i64 0, .int .i64 0, .int .i64 0, .int .i64 0, .int .i64 0, .int .i64 0, .int .i64 0, .int .i64 0, .int .i64 0, .int .i64 0, .int .i64 0, .int .i64 0, .int .i64 0] 81)).alloc (.cells #[.int .i64 0, .int .i64 0, .int .i64 0, .int .i64 0, .int .i64 0, .int .i64 0, .int .i64 0, .int .i64 0, .int .i64 0, .int .i64 0, .int .i64 0, .int .i64 0, .int .i64 0, .int .i64 0, .int .i64 0, .int .i64 0, .int .i64 0, .int .i64 0, .int .i64 0, .int .i64 0, .int .i64 0, .int .i64 0, .int .i64 0, .int .i64 0, .int .i64 0, .int .i64 0, .int .i64 0, .int .i64 0, .int .i64 0, .int .i64 0, .int .i64 0, .int .i64 0] 81)) w.heap.size 81 (fun u => Sp.sinV (2 * (u : Nat) + 1)) 32 0 := by
    refine ⟨?_, ?_, ((Below.refl _ _).alloc (Nat.le_refl _) _).alloc (by simp) _⟩
    · rw [← zero32]; exact (Blk.new _ _ _).alloc _
    · rw [filled_zero, ← zero32]
      have h := Blk.new (w.alloc (.cells #[.int .i64 0, .int .i64 0, .int .i64 0, .int .i64 0, .int .i64 0, .int .i64 0, .int .i64 0, .int .i64 0, .int .i64 0, .int .i64 0, .int .i64 0, .int .i64 0, .int .i64 0, .int .i64 0, .int .i64 0, .int .i64 0, .int .i64 0, .int .i64 0, .int .i64 0, .int .i64 0, .int .i64 0, .int .i64 0, .int .i64 0, .int .i64 0, .int .i64 0, .int .i64 0, .int .i64 0, .int .i64 0, .int .i64 0, .int .i64 0, .int .i64 0, .int .i64 0] 81)) #[.int .i64 0, .int .i64 0, .int .i64 0, .int .i64 0, .int .i64 0, .int .i64 0, .int .i64 0, .int .i64 0, .int .i64 0, .int .i64 0, .int .i64 0, .int .i64 0, .int .i64 0, .int .i64 0, .int .i64 0, .int .i64 0, .int .i64 0, .int .i64 0, .int .i64 0, .int .i64 0, .int .i64 0, .int .i64 0, .int .i64 0, .int .i64 0, .int .i64 0, .int .i64 0, .int .i64 0, .int .i64 0, .int .i64 0, .int .i64 0, .int .i64 0, .int .i64 0] 81
      rw [World.size_alloc] at h
      exact h
  have hcos := fun (k : Nat) w => Sin_any (2 * (k : Nat) + 1) w
  obtain ⟨F, hF⟩ : ∃ F : Nat → Int, (fun u : Nat => Sp.sinV (2 * (u : Nat) + 1)) = F := ⟨_, rfl⟩
  rw [hF] at h0
  have hFk : ∀ k : Nat, Sp.sinV (2 * (k : Nat) + 1) = F k := fun k => by rw [← hF]
  simp only [hFk] at hcos
  have HT := Lib.hid (show winTab = (List.range 32).map F by rw [← hF]; rfl)
  have HC := Lib.hid hcos
  clear hcos hFk hF
  obtain ⟨B, hB⟩ : ∃ B, w.heap.size = B := ⟨_, rfl⟩
  go_enter Tryd.func62, Tryd.ntmps62
  go_upto_region 2 with (fail)
  revert h0
  simp only [hB]
  generalize ((w.alloc (.cells #[.int .i64 0, .int .i64 0, .int .i64 0, .int .i64 0, .int .i64 0, .int .i64 0, .int .i64 0, .int .i64 0, .int .i64 0, .int .i64 0, .int .i64 0, .int .i64 0, .int .i64 0, .int .i64 0, .int .i64 0, .int .i64 0, .int .i64 0, .int .i64 0, .int .i64 0, .int .i64 0, .int .i64 0, .int .i64 0, .int .i64 0, .int .i64 0, .int .i64 0, .int .i64 0, .int .i64 0, .int .i64 0, .int .i64 0, .int .i64 0, .int .i64 0, .int .i64 0] 81)).alloc (.cells #[.int .i64 0, .int .i64 0, .int .i64 0, .int .i64 0, .int .i64 0, .int .i64 0, .int .i64 0, .int .i64 0, .int .i64 0, .int .i64 0, .int .i64 0, .int .i64 0, .int .i64 0, .int .i64 0, .int .i64 0, .int .i64 0, .int .i64 0, .int .i64 0, .int .i64 0, .int .i64 0, .int .i64 0, .int .i64 0, .int .i64 0, .int .i64 0, .int .i64 0, .int .i64 0, .int .i64 0, .int .i64 0, .int .i64 0, .int .i64 0, .int .i64 0, .int .i64 0] 81)) = w0
  intro h0
  go_wp2_with fail
  go_loopw [3] (fun i wr => ∃ k : Nat, k ≤ 32 ∧ i = .int .i64 k ∧ FillW w wr B 81 F 32 k) (fun i _ => 32 - (intOf i).toNat)
  case atStart => exact ⟨0, by omega, rfl, h0⟩
  case round =>
    obtain ⟨k, hk, rfl, hW⟩ := hrel
    by_cases hlt : k < 32
    · obtain ⟨v0, hv0⟩ := filled_get F 32 k hlt
      have c1 := (hW.out.cell k).trans hv0
      have f1 := hW.out.frozen k
      have hcall := HC.out k
      have hP := hW.put (by omega) (F k) rfl
      go_wp2_with fail
      refine (hcall _).mono ?_
      rintro e w1 ⟨rfl, rfl⟩
      go_wp2_with fail
      go_roundw
      case rel => exact ⟨k + 1, hlt, by go_num, hP⟩
      case measure => simp [intOf]; omega
    · obtain rfl : k = 32 := by omega
      have ho := hW.out
      rw [filled_all, ← HT.out] at ho
      have hr := hW.res
      have hsz : (Tryd.prog.info? 81).map (·.size) = some (arrV winTab).size := by rw [arr_size, winTab_len]; exact a32Info
      have hsz2 : (arrV (List.replicate 32 0)).size = (arrV winTab).size := by rw [arr_size, arr_size, winTab_len]; simp
      have hfar := Below.setRow hW.far (g := B) (by omega) (arrV winTab)
      go_wp2_with (first | (refine wpList_load_blk rfl 81 (.tmp 1) rfl (B + 1) rfl (arrV winTab) 81 ho Tryd.underlying81 hsz ?_) | (refine wpList_store_blk rfl 81 (.tmp 0) (.tmp 13) rfl B _ (arrV winTab) rfl rfl 81 hr hsz hsz2 (arr_one _) ?_))
      (try rw [Exit.noGoto_ret])
      exact bodyPost_ret (v := .agg (arrV winTab)) (results_cell_row Tryd.results62 _ _ B 81 _ (0, 0) (.array 32 3) rfl (hr.setRow (new := arrV winTab)) Tryd.underlying81 rfl hsz) rfl ⟨rfl, hB ▸ hfar⟩
end Go.Proofs.YtnohjidoelohkaaDoor
