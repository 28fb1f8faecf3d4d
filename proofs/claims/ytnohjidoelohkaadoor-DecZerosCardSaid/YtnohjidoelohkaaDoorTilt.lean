/- The walks of package tilt: samples one by one, laid down, cut to sound. -/
import Derived.Test.YtnohjidoelohkaaDoorMdct2
namespace Go.Proofs.YtnohjidoelohkaaDoor
open Go.RowKit

theorem two_new (T : Nat → Prop) (w : World) (c0 c1 : Array Value) (t0 t1 : TypeId) : Blk ((w.alloc (.cells c0 t0)).alloc (.cells c1 t1)) w.heap.size c0 t0 ∧ Blk ((w.alloc (.cells c0 t0)).alloc (.cells c1 t1)) (w.heap.size + 1) c1 t1 ∧
    Kept T w ((w.alloc (.cells c0 t0)).alloc (.cells c1 t1)) ∧ ((w.alloc (.cells c0 t0)).alloc (.cells c1 t1)).heap.size = w.heap.size + 2 := by
  have h1 := Blk.new (w.alloc (.cells c0 t0)) c1 t1
  simp only [World.size_alloc] at h1
  exact ⟨(Blk.new w c0 t0).alloc _, h1, ((Kept.refl _ _).alloc _).alloc _, by simp⟩
/-- Samples made one by one, each out of the one ahead. -/
def scanL (stp : Int → Int → Int) : Int → List Int → List Int
  | _, [] => []
  | s, x :: r => stp s x :: scanL stp (stp s x) r
theorem scan_len (stp : Int → Int → Int) : ∀ (l : List Int) (s : Int), (scanL stp s l).length = l.length := by
  intro l
  induction l with
  | nil => intro _; rfl
  | cons x r ih => intro s; simp [scanL, ih]
theorem scan_append (stp : Int → Int → Int) (x : Int) : ∀ (l : List Int) (s : Int), scanL stp s (l ++ [x]) = scanL stp s l ++ [stp (l.foldl stp s) x] := by
  intro l
  induction l with
  | nil => intro _; rfl
  | cons y r ih => intro s; simp [scanL, ih]
theorem scan_step (stp : Int → Int → Int) {l : List Int} {k : Nat} {x : Int} (hx : l[k]? = some x) (s : Int) : (scanL stp s (l.take k) ++ l.drop k).set k (stp ((l.take k).foldl stp s) x) = scanL stp s (l.take (k + 1)) ++ l.drop (k + 1) := by
  have hk : k < l.length := (List.getElem?_eq_some_iff.1 hx).1
  have hlen : (scanL stp s (l.take k)).length = k := by rw [scan_len, List.length_take]; omega
  have hd : l.drop k = x :: l.drop (k + 1) := by
    rw [List.drop_eq_getElem_cons hk]
    congr 1
    exact (List.getElem?_eq_some_iff.1 hx).2
  rw [List.take_add_one, hx, Option.toList_some, scan_append, hd, List.set_append, if_neg (by omega), hlen, Nat.sub_self]
  simp
theorem lay_scan : ∀ (l : List Int) (s : Int), layG s l = scanL lay1 s l := by
  intro l
  induction l with
  | nil => intro _; rfl
  | cons x r ih => intro s; simp [layG, scanL, ih]
theorem map_scan (f : Int → Int) : ∀ (l : List Int) (s : Int), scanL (fun _ x => f x) s l = l.map f := by
  intro l
  induction l with
  | nil => intro _; rfl
  | cons x r ih => intro s; simp [scanL, ih]
set_option maxRecDepth 100000 in
set_option maxHeartbeats 1600000 in
theorem each1_any (f : FuncId) (p : Value) (T : Nat → Prop) (St : Int → World → Prop) (hst : ∀ s W W', St s W → (∀ k, T k → W'.heap[k]? = W.heap[k]?) → St s W') (stp : Int → Int → Int) (l : List Int) (hl : l.length = 16) (s : Int) (w : World) (hT : ∀ k, T k → k < w.heap.size) (hs : St s w)
    (hcf : ∀ (x : Int) (w : World), (callFunc f #[.int .i64 x, p]).run Tryd.prog w = .ok (.enter f #[.int .i64 x, p]) w)
    (hf : ∀ s x W, St s W → Calls Tryd.prog f #[.int .i64 x, p] W fun e W' => e = .returned (.int .i64 (stp s x)) ∧ St (stp s x) W' ∧ Kept T W W') :
    Calls Tryd.prog 49 #[.agg (arrV l), .func (.func f) #[] #[p]] w fun e w' => e = .returned (.agg (arrV (scanL stp s l))) ∧ St (l.foldl stp s) w' ∧ Kept T w w' := by
  obtain ⟨hA, hR, hk0, hs0⟩ := two_new T w (arrV l) #[.int .i64 0, .int .i64 0, .int .i64 0, .int .i64 0, .int .i64 0, .int .i64 0, .int .i64 0, .int .i64 0, .int .i64 0, .int .i64 0, .int .i64 0, .int .i64 0, .int .i64 0, .int .i64 0, .int .i64 0, .int .i64 0] 27 27
  obtain ⟨B, hB⟩ : ∃ B, w.heap.size = B := ⟨_, rfl⟩
  have hTB : ∀ k, T k → k < B := fun k hk => by have := hT k hk; omega
  have hidx := fun k (hk : k < 16) (w : World) => run_index_arr 27 16 l hl Tryd.underlying27 k hk w
  have HI := Lib.hid hidx
  have HF := Lib.hid hf
  have HST := Lib.hid hst
  have hsz : (Tryd.prog.info? 27).map (·.size) = some (arrV l).size := by rw [arr_size, hl]; exact blockInfo
  have hz : (arrV (List.replicate 16 0)).size = 16 := by rw [arr_size]; rfl
  have hSt0 : St s ((w.alloc (.cells (arrV l) 27)).alloc (.cells #[.int .i64 0, .int .i64 0, .int .i64 0, .int .i64 0, .int .i64 0, .int .i64 0, .int .i64 0, .int .i64 0, .int .i64 0, .int .i64 0, .int .i64 0, .int .i64 0, .int .i64 0, .int .i64 0, .int .i64 0, .int .i64 0] 27)) := hst _ _ _ hs (fun k hk => by
    rw [Below.heap_alloc _ _ _ (by have := hT k hk; simp; omega), Below.heap_alloc _ _ _ (hT k hk)])
  clear hidx hf hst hs hT
  go_enter Tryd.func49, Tryd.ntmps49
  go_upto_region 1 with (fail)
  simp only [hB] at hA hR hs0 ⊢
  revert hA hR hk0 hs0 hSt0
  generalize ((w.alloc (.cells (arrV l) 27)).alloc (.cells #[.int .i64 0, .int .i64 0, .int .i64 0, .int .i64 0, .int .i64 0, .int .i64 0, .int .i64 0, .int .i64 0, .int .i64 0, .int .i64 0, .int .i64 0, .int .i64 0, .int .i64 0, .int .i64 0, .int .i64 0, .int .i64 0] 27)) = w0
  intro hk0 hSt0 hA hR hs0
  rw [zero16] at hR
  go_wp2_with (first | (refine wpList_load_blk rfl 27 (.tmp 2) rfl B rfl (arrV l) 27 hA Tryd.underlying27 hsz ?_))
  go_loopw [8] (fun i wr => ∃ k : Nat, k ≤ 16 ∧ i = .int .i64 k ∧ Blk wr B (arrV (scanL stp s (l.take k) ++ l.drop k)) 27 ∧ Blk wr (B + 1) (arrV (List.replicate 16 0)) 27 ∧ St ((l.take k).foldl stp s) wr ∧ Kept T w wr) (fun i _ => 16 - (intOf i).toNat)
  case atStart => exact ⟨0, by omega, rfl, hA, hR, hSt0, hk0⟩
  case round =>
    obtain ⟨k, hk, rfl, hA, hR, hS, hK⟩ := hrel
    by_cases hlt : k < 16
    · have hi := HI.out k hlt
      have hx : l[k]? = some (l.getD k 0) := by rw [List.getD_eq_getElem?_getD, List.getElem?_eq_getElem (by omega)]; rfl
      obtain ⟨x, hxe⟩ : ∃ x, l.getD k 0 = x := ⟨_, rfl⟩
      rw [hxe] at hi hx
      obtain ⟨S, hSe⟩ : ∃ S, (l.take k).foldl stp s = S := ⟨_, rfl⟩
      rw [hSe] at hS
      have hcall := HF.out S x wr hS
      have hfold : (l.take (k + 1)).foldl stp s = stp S x := by rw [List.take_add_one, hx]; simp [hSe]
      have hrow : (scanL stp s (l.take k) ++ l.drop k).set k (stp S x) = scanL stp s (l.take (k + 1)) ++ l.drop (k + 1) := by have h := scan_step stp hx s; rwa [hSe] at h
      have HFO := Lib.hid hfold
      have HRO := Lib.hid hrow
      obtain ⟨y, hy⟩ : ∃ y, stp S x = y := ⟨_, rfl⟩
      rw [hy] at hcall HFO HRO
      have hlen : (scanL stp s (l.take k) ++ l.drop k).length = 16 := by rw [List.length_append, scan_len, List.length_take, List.length_drop, hl]; omega
      obtain ⟨L, hL⟩ : ∃ L, scanL stp s (l.take k) ++ l.drop k = L := ⟨_, rfl⟩
      rw [hL] at hA HRO hlen
      clear hxe hx hSe hfold hrow hy hL
      go_wp2_with fail
      refine hcall.mono ?_
      rintro e w1 ⟨rfl, hS1, hK1⟩
      have hA1 := hA.keep hK1 (fun h => by have := hTB _ h; omega)
      have hR1 := hR.keep hK1 (fun h => by have := hTB _ h; omega)
      have hKK := hK.trans hK1
      have c1 := (hA1.cell k).trans (arr_get (by rw [hlen]; exact hlt))
      have f1 := hA1.frozen k
      have hA2 := hA1.set k (.int .i64 y)
      rw [arr_set, HRO.out] at hA2
      have hR2 := hR1.other (a := ⟨B, k, none⟩) (by simp only []; omega) (.int .i64 y)
      have hS2 : St y (w1.setCell ⟨B, k, none⟩ (.int .i64 y)) := HST.out _ _ _ hS1 (fun j hj => Below.heap_setCell _ _ _ _ (fun e => by have := hTB _ hj; simp only at e; omega))
      have hK2 := hKK.setCell (p := ⟨B, k, none⟩) (Or.inr (by show w.heap.size ≤ B; omega)) (.int .i64 y)
      go_wp2_with fail
      go_roundw
      case rel => exact ⟨k + 1, hlt, by go_num, hA2, hR2, by rw [HFO.out]; exact hS2, hK2⟩
      case measure => simp [intOf]; omega
    · obtain rfl : k = 16 := by omega
      have et : l.take 16 = l := List.take_of_length_le (by omega)
      have ed : l.drop 16 = [] := List.drop_of_length_le (by omega)
      rw [et, ed, List.append_nil] at hA
      rw [et] at hS
      have hlen : (scanL stp s l).length = 16 := by rw [scan_len, hl]
      obtain ⟨L, hL⟩ : ∃ L, scanL stp s l = L := ⟨_, rfl⟩
      have HL := Lib.hid hL
      rw [hL] at hA hlen
      have hsz2 : (Tryd.prog.info? 27).map (·.size) = some (arrV L).size := by rw [arr_size, hlen]; exact blockInfo
      have hsz3 : (arrV (List.replicate 16 0)).size = (arrV L).size := by rw [hz, arr_size, hlen]
      have hR3 := hR.setRow (new := arrV L)
      have hS3 : St (l.foldl stp s) (wr.setRow (B + 1) (arrV L)) := HST.out _ _ _ hS (fun j hj => setRow_other wr (B + 1) j _ (by have := hTB _ hj; omega))
      have hK3 := hK.setRow (g := B + 1) (Or.inr (by omega)) (arrV L)
      clear hL et ed hsz hS hK
      go_wp2_with (first | (refine wpList_load_blk rfl 27 (.tmp 2) rfl B rfl (arrV L) 27 hA Tryd.underlying27 hsz2 ?_) | (refine wpList_store_blk rfl 27 (.tmp 4) (.tmp 18) rfl (B + 1) _ (arrV L) rfl rfl 27 hR hsz2 hsz3 (arr_one _) ?_))
      exact bodyPost_ret (v := .agg (arrV L)) (results_cell_row Tryd.results49 _ _ (B + 1) 27 _ (0, 0) (.array 16 3) rfl hR3 Tryd.underlying27 rfl hsz2) rfl ⟨by rw [HL.out], hS3, hK3⟩
set_option maxRecDepth 100000 in
set_option maxHeartbeats 1600000 in
theorem each0_any (f : FuncId) (T : Nat → Prop) (St : Int → World → Prop) (hst : ∀ s W W', St s W → (∀ k, T k → W'.heap[k]? = W.heap[k]?) → St s W') (stp : Int → Int → Int) (l : List Int) (hl : l.length = 16) (s : Int) (w : World) (hT : ∀ k, T k → k < w.heap.size) (hs : St s w)
    (hcf : ∀ (x : Int) (w : World), (callFunc f #[.int .i64 x]).run Tryd.prog w = .ok (.enter f #[.int .i64 x]) w)
    (hf : ∀ s x W, St s W → Calls Tryd.prog f #[.int .i64 x] W fun e W' => e = .returned (.int .i64 (stp s x)) ∧ St (stp s x) W' ∧ Kept T W W') :
    Calls Tryd.prog 49 #[.agg (arrV l), .func (.func f) #[] #[]] w fun e w' => e = .returned (.agg (arrV (scanL stp s l))) ∧ St (l.foldl stp s) w' ∧ Kept T w w' := by
  obtain ⟨hA, hR, hk0, hs0⟩ := two_new T w (arrV l) #[.int .i64 0, .int .i64 0, .int .i64 0, .int .i64 0, .int .i64 0, .int .i64 0, .int .i64 0, .int .i64 0, .int .i64 0, .int .i64 0, .int .i64 0, .int .i64 0, .int .i64 0, .int .i64 0, .int .i64 0, .int .i64 0] 27 27
  obtain ⟨B, hB⟩ : ∃ B, w.heap.size = B := ⟨_, rfl⟩
  have hTB : ∀ k, T k → k < B := fun k hk => by have := hT k hk; omega
  have hidx := fun k (hk : k < 16) (w : World) => run_index_arr 27 16 l hl Tryd.underlying27 k hk w
  have HI := Lib.hid hidx
  have HF := Lib.hid hf
  have HST := Lib.hid hst
  have hsz : (Tryd.prog.info? 27).map (·.size) = some (arrV l).size := by rw [arr_size, hl]; exact blockInfo
  have hz : (arrV (List.replicate 16 0)).size = 16 := by rw [arr_size]; rfl
  have hSt0 : St s ((w.alloc (.cells (arrV l) 27)).alloc (.cells #[.int .i64 0, .int .i64 0, .int .i64 0, .int .i64 0, .int .i64 0, .int .i64 0, .int .i64 0, .int .i64 0, .int .i64 0, .int .i64 0, .int .i64 0, .int .i64 0, .int .i64 0, .int .i64 0, .int .i64 0, .int .i64 0] 27)) := hst _ _ _ hs (fun k hk => by
    rw [Below.heap_alloc _ _ _ (by have := hT k hk; simp; omega), Below.heap_alloc _ _ _ (hT k hk)])
  clear hidx hf hst hs hT
  go_enter Tryd.func49, Tryd.ntmps49
  go_upto_region 1 with (fail)
  simp only [hB] at hA hR hs0 ⊢
  revert hA hR hk0 hs0 hSt0
  generalize ((w.alloc (.cells (arrV l) 27)).alloc (.cells #[.int .i64 0, .int .i64 0, .int .i64 0, .int .i64 0, .int .i64 0, .int .i64 0, .int .i64 0, .int .i64 0, .int .i64 0, .int .i64 0, .int .i64 0, .int .i64 0, .int .i64 0, .int .i64 0, .int .i64 0, .int .i64 0] 27)) = w0
  intro hk0 hSt0 hA hR hs0
  rw [zero16] at hR
  go_wp2_with (first | (refine wpList_load_blk rfl 27 (.tmp 2) rfl B rfl (arrV l) 27 hA Tryd.underlying27 hsz ?_))
  go_loopw [8] (fun i wr => ∃ k : Nat, k ≤ 16 ∧ i = .int .i64 k ∧ Blk wr B (arrV (scanL stp s (l.take k) ++ l.drop k)) 27 ∧ Blk wr (B + 1) (arrV (List.replicate 16 0)) 27 ∧ St ((l.take k).foldl stp s) wr ∧ Kept T w wr) (fun i _ => 16 - (intOf i).toNat)
  case atStart => exact ⟨0, by omega, rfl, hA, hR, hSt0, hk0⟩
  case round =>
    obtain ⟨k, hk, rfl, hA, hR, hS, hK⟩ := hrel
    by_cases hlt : k < 16
    · have hi := HI.out k hlt
      have hx : l[k]? = some (l.getD k 0) := by rw [List.getD_eq_getElem?_getD, List.getElem?_eq_getElem (by omega)]; rfl
      obtain ⟨x, hxe⟩ : ∃ x, l.getD k 0 = x := ⟨_, rfl⟩
      rw [hxe] at hi hx
      obtain ⟨S, hSe⟩ : ∃ S, (l.take k).foldl stp s = S := ⟨_, rfl⟩
      rw [hSe] at hS
      have hcall := HF.out S x wr hS
      have hfold : (l.take (k + 1)).foldl stp s = stp S x := by rw [List.take_add_one, hx]; simp [hSe]
      have hrow : (scanL stp s (l.take k) ++ l.drop k).set k (stp S x) = scanL stp s (l.take (k + 1)) ++ l.drop (k + 1) := by have h := scan_step stp hx s; rwa [hSe] at h
      have HFO := Lib.hid hfold
      have HRO := Lib.hid hrow
      obtain ⟨y, hy⟩ : ∃ y, stp S x = y := ⟨_, rfl⟩
      rw [hy] at hcall HFO HRO
      have hlen : (scanL stp s (l.take k) ++ l.drop k).length = 16 := by rw [List.length_append, scan_len, List.length_take, List.length_drop, hl]; omega
      obtain ⟨L, hL⟩ : ∃ L, scanL stp s (l.take k) ++ l.drop k = L := ⟨_, rfl⟩
      rw [hL] at hA HRO hlen
      clear hxe hx hSe hfold hrow hy hL
      go_wp2_with fail
      refine hcall.mono ?_
      rintro e w1 ⟨rfl, hS1, hK1⟩
      have hA1 := hA.keep hK1 (fun h => by have := hTB _ h; omega)
      have hR1 := hR.keep hK1 (fun h => by have := hTB _ h; omega)
      have hKK := hK.trans hK1
      have c1 := (hA1.cell k).trans (arr_get (by rw [hlen]; exact hlt))
      have f1 := hA1.frozen k
      have hA2 := hA1.set k (.int .i64 y)
      rw [arr_set, HRO.out] at hA2
      have hR2 := hR1.other (a := ⟨B, k, none⟩) (by simp only []; omega) (.int .i64 y)
      have hS2 : St y (w1.setCell ⟨B, k, none⟩ (.int .i64 y)) := HST.out _ _ _ hS1 (fun j hj => Below.heap_setCell _ _ _ _ (fun e => by have := hTB _ hj; simp only at e; omega))
      have hK2 := hKK.setCell (p := ⟨B, k, none⟩) (Or.inr (by show w.heap.size ≤ B; omega)) (.int .i64 y)
      go_wp2_with fail
      go_roundw
      case rel => exact ⟨k + 1, hlt, by go_num, hA2, hR2, by rw [HFO.out]; exact hS2, hK2⟩
      case measure => simp [intOf]; omega
    · obtain rfl : k = 16 := by omega
      have et : l.take 16 = l := List.take_of_length_le (by omega)
      have ed : l.drop 16 = [] := List.drop_of_length_le (by omega)
      rw [et, ed, List.append_nil] at hA
      rw [et] at hS
      have hlen : (scanL stp s l).length = 16 := by rw [scan_len, hl]
      obtain ⟨L, hL⟩ : ∃ L, scanL stp s l = L := ⟨_, rfl⟩
      have HL := Lib.hid hL
      rw [hL] at hA hlen
      have hsz2 : (Tryd.prog.info? 27).map (·.size) = some (arrV L).size := by rw [arr_size, hlen]; exact blockInfo
      have hsz3 : (arrV (List.replicate 16 0)).size = (arrV L).size := by rw [hz, arr_size, hlen]
      have hR3 := hR.setRow (new := arrV L)
      have hS3 : St (l.foldl stp s) (wr.setRow (B + 1) (arrV L)) := HST.out _ _ _ hS (fun j hj => setRow_other wr (B + 1) j _ (by have := hTB _ hj; omega))
      have hK3 := hK.setRow (g := B + 1) (Or.inr (by omega)) (arrV L)
      clear hL et ed hsz hS hK
      go_wp2_with (first | (refine wpList_load_blk rfl 27 (.tmp 2) rfl B rfl (arrV L) 27 hA Tryd.underlying27 hsz2 ?_) | (refine wpList_store_blk rfl 27 (.tmp 4) (.tmp 18) rfl (B + 1) _ (arrV L) rfl rfl 27 hR hsz2 hsz3 (arr_one _) ?_))
      exact bodyPost_ret (v := .agg (arrV L)) (results_cell_row Tryd.results49 _ _ (B + 1) 27 _ (0, 0) (.array 16 3) rfl hR3 Tryd.underlying27 rfl hsz2) rfl ⟨by rw [HL.out], hS3, hK3⟩
theorem tcut_any (x : Int) (w : World) : Calls Tryd.prog 48 #[.int .i64 x] w fun e w' => e = .returned (.int .i64 (Sp.cut 22 x)) ∧ w = w' := by
  go_enter Tryd.func48, Tryd.ntmps48
  go_wp2_with fail
  refine (Cut22 x _).mono ?_
  rintro e w1 ⟨rfl, rfl⟩
  go_wp2_with fail
  go_ret
  exact ⟨rfl, rfl⟩
theorem cut22_bd (x : Int) : -2097152 ≤ Sp.cut 22 x ∧ Sp.cut 22 x ≤ 2097151 := by
  have e : Sp.cut 22 x = max (min x 2097151) (-2097152) := rfl
  rw [e]; omega
theorem td_bd (a A : Int) (h0 : -A ≤ a) (h1 : a ≤ A) : -A ≤ a.tdiv 32768 ∧ a.tdiv 32768 ≤ A := by
  rcases Int.le_total 0 a with h | h
  · rw [Int.tdiv_eq_ediv_of_nonneg h]; omega
  · have e : a.tdiv 32768 = -((-a) / 32768) := by
      have h2 := Int.neg_tdiv (-a) 32768
      rw [Int.neg_neg] at h2
      rw [h2, Int.tdiv_eq_ediv_of_nonneg (by omega)]
    rw [e]; omega
set_option maxHeartbeats 800000 in
theorem Lay1_any (g : Nat) (s x : Int) (h0 : -2097152 ≤ s) (h1 : s ≤ 2097151) (w : World) (hB : Blk w g #[.int .i64 s] 3) :
    Calls Tryd.prog 50 #[.int .i64 x, .pointer (some ⟨g, 0, none⟩)] w fun e w' => e = .returned (.int .i64 (lay1 s x)) ∧ Blk w' g #[.int .i64 (lay1 s x)] 3 ∧ Kept (· = g) w w' := by
  have c0 := hB.cell 0
  simp only [List.getElem?_toArray, List.getElem?_cons_zero] at c0
  have f0 := hB.frozen 0
  have q1 := td_bd (27853 * s) 58412449792 (by omega) (by omega)
  have hl : lay1 s x = Sp.cut 22 (Sp.cut 22 x + (27853 * s).tdiv 32768) := rfl
  obtain ⟨q, hq⟩ : ∃ q, (27853 * s).tdiv 32768 = q := ⟨_, rfl⟩
  have hc1 := fun w => tcut_any x w
  have b1 := cut22_bd x
  obtain ⟨c, hc⟩ : ∃ c, Sp.cut 22 x = c := ⟨_, rfl⟩
  rw [hq] at q1 hl
  rw [hc] at b1 hl
  simp only [hc] at hc1
  have w1 : IntKind.i64.wrap (27853 * s) = 27853 * s := IntWalk.i64_in _ (by omega)
  have w3 : IntKind.i64.wrap (c + q) = c + q := IntWalk.i64_in _ (by omega)
  have w2 : IntKind.i64.wrap q = q := IntWalk.i64_in _ (by omega)
  have hc2 := fun w => tcut_any (c + q) w
  rw [← hl] at hc2
  have HL := Lib.hid hl
  obtain ⟨y, hy⟩ : ∃ y, lay1 s x = y := ⟨_, rfl⟩
  rw [hy]
  simp only [hy] at hc2
  clear hl hc hy
  go_enter Tryd.func50, Tryd.ntmps50
  go_wp2_with fail
  go_region_with (first | (go_at_call_of 48 x; refine (hc1 _).mono ?_; rintro r5 w5 ⟨rfl, rfl⟩) | (go_at_call_of 48 (c + q); refine (hc2 _).mono ?_; rintro r5 w5 ⟨rfl, rfl⟩))
  all_goals
    go_wp2_with fail
    go_ret
    refine ⟨rfl, ?_, ?_⟩
    · repeat' (first | (with_reducible assumption) | (with_reducible refine Blk.drew ?_) | (with_reducible refine Blk.drewN ?_ _) | (with_reducible apply Blk.set1) | ((with_reducible refine Blk.other ?_ ?ne _); case ne => (first | (simp only []; omega) | omega)) | (with_reducible refine Blk.alloc ?_ _))
    · repeat (first | (with_reducible exact Kept.refl _ _) | (with_reducible assumption) | (with_reducible refine Kept.drew ?_) | (with_reducible refine Kept.drewN ?_ _) | ((with_reducible refine Kept.setCell ?_ ?hp _); case hp => (first | exact Or.inl rfl | (left; simp; done) | (right; simp only [World.size_alloc, World.size_setCell, World.size_drew]; omega))) | (with_reducible refine Kept.alloc ?_ _))
set_option maxHeartbeats 800000 in
theorem Sound1_any (x : Int) (w : World) : Calls Tryd.prog 51 #[.int .i64 x] w fun e w' => e = .returned (.int .i64 (Sp.cut 16 x)) ∧ w = w' := by
  go_enter Tryd.func51, Tryd.ntmps51
  go_wp2_with fail
  refine (Cut16 x _).mono ?_
  rintro e w1 ⟨rfl, rfl⟩
  go_wp2_with fail
  go_ret
  exact ⟨rfl, rfl⟩
end Go.Proofs.YtnohjidoelohkaaDoor
