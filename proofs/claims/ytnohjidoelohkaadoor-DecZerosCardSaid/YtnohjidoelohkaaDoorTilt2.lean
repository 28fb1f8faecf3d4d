/- The walks of tilt.Lay and tilt.Sound. -/
import Derived.Test.YtnohjidoelohkaaDoorTilt
namespace Go.Proofs.YtnohjidoelohkaaDoor
open Go.RowKit

set_option maxRecDepth 100000 in
set_option maxHeartbeats 1600000 in
theorem Sound_any (l : List Int) (hl : l.length = 16) (w : World) : Calls Tryd.prog 26 #[.agg (arrV l)] w fun e w' => e = .returned (.agg (arrV (soundL l))) ∧ Below w.heap.size w w' := by
  obtain ⟨hA, hR, hk0, hs0⟩ := two_new (fun _ => False) w (arrV l) #[.int .i64 0, .int .i64 0, .int .i64 0, .int .i64 0, .int .i64 0, .int .i64 0, .int .i64 0, .int .i64 0, .int .i64 0, .int .i64 0, .int .i64 0, .int .i64 0, .int .i64 0, .int .i64 0, .int .i64 0, .int .i64 0] 27 27
  obtain ⟨B, hB⟩ : ∃ B, w.heap.size = B := ⟨_, rfl⟩
  have hsz : (Tryd.prog.info? 27).map (·.size) = some (arrV l).size := by rw [arr_size, hl]; exact blockInfo
  have hcall := fun W => each0_any 51 (fun _ => False) (fun _ _ => True) (fun _ _ _ _ _ => trivial) (fun _ x => Sp.cut 16 x) l hl 0 W (fun _ h => h.elim) trivial (fun _ _ => by kernel_rfl) (fun _ x W _ => (Sound1_any x W).mono fun e W' ⟨h1, h2⟩ => ⟨h1, trivial, h2 ▸ Kept.refl _ _⟩)
  simp only [map_scan] at hcall
  have hol : (soundL l).length = 16 := by unfold soundL; rw [List.length_map, hl]
  obtain ⟨L, hL⟩ : ∃ L, soundL l = L := ⟨_, rfl⟩
  have HL := Lib.hid hL
  rw [hL] at hol
  rw [show l.map (fun x => Sp.cut 16 x) = L from hL] at hcall
  have j1 : (Tryd.prog.info? 27).map (·.size) = some (arrV L).size := by rw [arr_size, hol]; exact blockInfo
  have k1 : (arrV (List.replicate 16 0)).size = (arrV L).size := by rw [arr_size, arr_size, hol]; rfl
  have HC := Lib.hid hcall
  clear hcall hL
  go_enter Tryd.func26, Tryd.ntmps26
  go_upto_region 1 with (fail)
  simp only [hB] at hA hR hs0 ⊢
  revert hA hR hk0 hs0
  generalize ((w.alloc (.cells (arrV l) 27)).alloc (.cells #[.int .i64 0, .int .i64 0, .int .i64 0, .int .i64 0, .int .i64 0, .int .i64 0, .int .i64 0, .int .i64 0, .int .i64 0, .int .i64 0, .int .i64 0, .int .i64 0, .int .i64 0, .int .i64 0, .int .i64 0, .int .i64 0] 27)) = w0
  intro hk0 hA hR hs0
  rw [zero16] at hR
  go_wp2_with (first | (refine wpList_load_blk rfl 27 (.tmp 1) rfl B rfl (arrV l) 27 hA Tryd.underlying27 hsz ?_))
  refine (HC.out _).mono ?_
  rintro e w1 ⟨rfl, -, hK1⟩
  have hR1 := hR.keep hK1 (fun h => h)
  have hKK := hk0.trans hK1
  have hR2 := hR1.setRow (new := arrV L)
  have hK2 := hKK.setRow (g := B + 1) (Or.inr (by omega)) (arrV L)
  go_wp2_with (first | (refine wpList_store_blk rfl 27 (.tmp 2) (.tmp 4) rfl (B + 1) _ (arrV L) rfl rfl 27 hR1 j1 k1 (arr_one _) ?_))
  exact bodyPost_ret (v := .agg (arrV L)) (results_cell_row Tryd.results26 _ _ (B + 1) 27 _ (0, 0) (.array 16 3) rfl hR2 Tryd.underlying27 rfl j1) rfl ⟨by rw [HL.out], hK2.below (fun _ h => h.elim) (Nat.le_refl _)⟩
theorem three_new (w : World) (c0 c1 c2 : Array Value) (t0 t1 t2 : TypeId) : Blk (((w.alloc (.cells c0 t0)).alloc (.cells c1 t1)).alloc (.cells c2 t2)) w.heap.size c0 t0 ∧ Blk (((w.alloc (.cells c0 t0)).alloc (.cells c1 t1)).alloc (.cells c2 t2)) (w.heap.size + 1) c1 t1 ∧
    Blk (((w.alloc (.cells c0 t0)).alloc (.cells c1 t1)).alloc (.cells c2 t2)) (w.heap.size + 2) c2 t2 ∧ Below w.heap.size w (((w.alloc (.cells c0 t0)).alloc (.cells c1 t1)).alloc (.cells c2 t2)) ∧ (((w.alloc (.cells c0 t0)).alloc (.cells c1 t1)).alloc (.cells c2 t2)).heap.size = w.heap.size + 3 := by
  have h0 := Blk.new w c0 t0
  have h1 := Blk.new (w.alloc (.cells c0 t0)) c1 t1
  have h2 := Blk.new ((w.alloc (.cells c0 t0)).alloc (.cells c1 t1)) c2 t2
  simp only [World.size_alloc] at h1 h2
  exact ⟨(h0.alloc _).alloc _, h1.alloc _, h2, (((Below.refl _ _).alloc (Nat.le_refl _) _).alloc (by simp) _).alloc (by simp; omega) _, by simp⟩
theorem lay1_bd (s x : Int) : -2097152 ≤ lay1 s x ∧ lay1 s x ≤ 2097151 := cut22_bd _
set_option maxRecDepth 100000 in
set_option maxHeartbeats 1600000 in
theorem Lay_any (last : Int) (l : List Int) (hl : l.length = 16) (w : World) : Calls Tryd.prog 23 #[.int .i64 last, .agg (arrV l)] w fun e w' => e = .returned (.tuple #[.agg (arrV (layL last l)), .int .i64 (layN last l)]) ∧ Below w.heap.size w w' := by
  obtain ⟨hA, hB1, hR, hb0, hs0⟩ := three_new w #[.int .i64 last] (arrV l) #[.int .i64 0, .int .i64 0, .int .i64 0, .int .i64 0, .int .i64 0, .int .i64 0, .int .i64 0, .int .i64 0, .int .i64 0, .int .i64 0, .int .i64 0, .int .i64 0, .int .i64 0, .int .i64 0, .int .i64 0, .int .i64 0] 3 27 27
  obtain ⟨B, hB⟩ : ∃ B, w.heap.size = B := ⟨_, rfl⟩
  have hsz : (Tryd.prog.info? 27).map (·.size) = some (arrV l).size := by rw [arr_size, hl]; exact blockInfo
  have hcall := fun W h1 h2 => each1_any 50 (.pointer (some ⟨B, 0, none⟩)) (· = B) (fun s W => Blk W B #[.int .i64 s] 3 ∧ -2097152 ≤ s ∧ s ≤ 2097151) (fun s W W' h hk => ⟨(hk B rfl).trans h.1, h.2⟩) lay1 l hl (Sp.cut 22 last) W h1 h2 (fun _ _ => by kernel_rfl)
    (fun s x W h => (Lay1_any B s x h.2.1 h.2.2 W h.1).mono fun e W' ⟨e1, e2, e3⟩ => ⟨e1, ⟨e2, lay1_bd s x⟩, e3⟩)
  simp only [← lay_scan] at hcall
  have hol : (layL last l).length = 16 := by unfold layL; rw [layG_len, hl]
  have hLL : layG (Sp.cut 22 last) l = layL last l := rfl
  have hNN : l.foldl lay1 (Sp.cut 22 last) = layN last l := rfl
  simp only [hLL, hNN] at hcall
  obtain ⟨L, hL⟩ : ∃ L, layL last l = L := ⟨_, rfl⟩
  obtain ⟨n, hn⟩ : ∃ n, layN last l = n := ⟨_, rfl⟩
  have HL := Lib.hid hL
  have HN := Lib.hid hn
  rw [hL] at hol
  simp only [hL, hn] at hcall
  have i1 : (Tryd.prog.info? 27).map (·.size) = some (intsV L).length := by rw [List.length_map, hol]; exact blockInfo
  have j1 : (Tryd.prog.info? 27).map (·.size) = some (arrV L).size := by rw [arr_size, hol]; exact blockInfo
  have k1 : (arrV (List.replicate 16 0)).size = (arrV L).size := by rw [arr_size, arr_size, hol]; rfl
  have HC := Lib.hid hcall
  have hcut := fun w => tcut_any last w
  have hcb := cut22_bd last
  obtain ⟨c, hc⟩ : ∃ c, Sp.cut 22 last = c := ⟨_, rfl⟩
  rw [hc] at hcb HC
  simp only [hc] at hcut
  clear hcall hL hn hLL hNN hc
  go_enter Tryd.func23, Tryd.ntmps23
  go_upto_region 1 with (fail)
  simp only [hB] at hA hB1 hR hb0 hs0 ⊢
  revert hA hB1 hR hb0 hs0
  generalize (((w.alloc (.cells #[.int .i64 last] 3)).alloc (.cells (arrV l) 27)).alloc (.cells #[.int .i64 0, .int .i64 0, .int .i64 0, .int .i64 0, .int .i64 0, .int .i64 0, .int .i64 0, .int .i64 0, .int .i64 0, .int .i64 0, .int .i64 0, .int .i64 0, .int .i64 0, .int .i64 0, .int .i64 0, .int .i64 0] 27)) = w0
  intro hA hB1 hR hb0 hs0
  rw [zero16] at hR
  have c0 := hA.cell 0
  simp only [List.getElem?_toArray, List.getElem?_cons_zero] at c0
  have f0 := hA.frozen 0
  have hA1 := hA.set1 (.int .i64 c)
  have hB2 := hB1.other (a := ⟨B, 0, none⟩) (by simp only []; omega) (.int .i64 c)
  have hR1 := hR.other (a := ⟨B, 0, none⟩) (by simp only []; omega) (.int .i64 c)
  have hb1 := hb0.setCell (p := ⟨B, 0, none⟩) (Nat.le_refl _) (.int .i64 c)
  have hs1 : (w0.setCell ⟨B, 0, none⟩ (.int .i64 c)).heap.size = B + 3 := by simp [hs0]
  go_wp2_with fail
  refine (hcut _).mono ?_
  rintro e w1 ⟨rfl, rfl⟩
  go_upto_region 2 with (fail)
  revert hA1 hB2 hR1 hb1 hs1
  clear hA hB1 hR hb0 hs0 c0 f0
  generalize (w0.setCell ⟨B, 0, none⟩ (.int .i64 c)) = w2
  intro hA hB1 hR hb0 hs0
  go_wp2_with (first | (refine wpList_load_blk rfl 27 (.tmp 3) rfl (B + 1) rfl (arrV l) 27 hB1 Tryd.underlying27 hsz ?_))
  refine (HC.out _ (fun k hk => by subst hk; omega) ⟨hA, hcb⟩).mono ?_
  rintro e w3 ⟨rfl, ⟨hA3, hn0, hn1⟩, hK3⟩
  have hR3 := hR.keep hK3 (by omega)
  have hb3 : Below B w w3 := hb0.trans (hK3.below (fun k hk => by have h : k = B := hk; omega) (by omega))
  have hs3 := hb3.size
  have hs3' := hK3.size
  obtain ⟨g6, hg6⟩ : ∃ g, w3.heap.size = g := ⟨_, rfl⟩
  have hg7 : B + 3 ≤ g6 := by omega
  have hN := Blk.new w3 #[.int .i64 0, .int .i64 0, .int .i64 0, .int .i64 0, .int .i64 0, .int .i64 0, .int .i64 0, .int .i64 0, .int .i64 0, .int .i64 0, .int .i64 0, .int .i64 0, .int .i64 0, .int .i64 0, .int .i64 0, .int .i64 0] 27
  rw [hg6] at hN
  have hN1 := hN.setRow (new := arrV L)
  have k2 : (#[.int .i64 0, .int .i64 0, .int .i64 0, .int .i64 0, .int .i64 0, .int .i64 0, .int .i64 0, .int .i64 0, .int .i64 0, .int .i64 0, .int .i64 0, .int .i64 0, .int .i64 0, .int .i64 0, .int .i64 0, .int .i64 0] : Array Value).size = (arrV L).size := by rw [arr_size, hol]; rfl
  have hA4 : Blk ((w3.alloc (.cells #[.int .i64 0, .int .i64 0, .int .i64 0, .int .i64 0, .int .i64 0, .int .i64 0, .int .i64 0, .int .i64 0, .int .i64 0, .int .i64 0, .int .i64 0, .int .i64 0, .int .i64 0, .int .i64 0, .int .i64 0, .int .i64 0] 27)).setRow g6 (arrV L)) B #[.int .i64 n] 3 := (hA3.alloc _).setRowOther (by omega)
  have hR4 : Blk ((w3.alloc (.cells #[.int .i64 0, .int .i64 0, .int .i64 0, .int .i64 0, .int .i64 0, .int .i64 0, .int .i64 0, .int .i64 0, .int .i64 0, .int .i64 0, .int .i64 0, .int .i64 0, .int .i64 0, .int .i64 0, .int .i64 0, .int .i64 0] 27)).setRow g6 (arrV L)) (B + 2) (arrV (List.replicate 16 0)) 27 := (hR3.alloc _).setRowOther (by omega)
  have hb4 : Below B w ((w3.alloc (.cells #[.int .i64 0, .int .i64 0, .int .i64 0, .int .i64 0, .int .i64 0, .int .i64 0, .int .i64 0, .int .i64 0, .int .i64 0, .int .i64 0, .int .i64 0, .int .i64 0, .int .i64 0, .int .i64 0, .int .i64 0, .int .i64 0] 27)).setRow g6 (arrV L)) := Below.setRow (hb3.alloc (by omega) _) (by omega) _
  go_upto_region 3 with (first | (refine wpList_store_blk rfl 27 (.tmp 6) (.tmp 11) rfl g6 _ (arrV L) rfl rfl 27 hN j1 k2 (arr_one _) ?_))
  revert hN1 hA4 hR4 hb4
  clear hA hB1 hR hb0 hs0 hA3 hR3 hb3 hN
  generalize ((w3.alloc (.cells #[.int .i64 0, .int .i64 0, .int .i64 0, .int .i64 0, .int .i64 0, .int .i64 0, .int .i64 0, .int .i64 0, .int .i64 0, .int .i64 0, .int .i64 0, .int .i64 0, .int .i64 0, .int .i64 0, .int .i64 0, .int .i64 0] 27)).setRow g6 (arrV L)) = w4
  intro hO hA hR hb
  have cB : w4.cell? ⟨B, 0, none⟩ = some (.int .i64 n) := by have h := hA.cell 0; simpa using h
  have hcB : (w4.drew.setRow (B + 2) (arrV L)).cell? ⟨B, 0, none⟩ = some (.int .i64 n) := by
    have h := (hA.drew.setRowOther (g := B + 2) (new := arrV L) (by omega)).cell 0
    simpa using h
  refine wp_region_held_drew (S := (fun W => Blk W g6 (arrV L) 27 ∧ W.cell? ⟨B, 0, none⟩ = some (.int .i64 n))) (by kernel_rfl) ⟨hO.drew, cB⟩ (fun hH => ?_)
  refine wpAnyH_take (i := 0) (oi := { dst := some 12, op := .load 27 (.tmp 6), type := 27, pos := "tilt.go:46", after := _, guard := none }) (v := .agg (arrV L)) rfl (by kernel_rfl) (by kernel_rfl) (by kernel_rfl) (fun _ _ _ h => h) (yieldsIf_load_mid (by rfl) 27 (.tmp 6) rfl g6 0 rfl (intsV L) (.array 16 3) (fun _ h => by have h2 := h.1.range 0 16 (by omega); rwa [List.drop_zero, List.take_of_length_le (by omega)] at h2) Tryd.underlying27 rfl i1) hH ?_
  try simp only [Act.put, List.setIfInBounds_toArray, List.set_cons_zero, List.set_cons_succ]
  refine wpAnyH_take (i := 1) (oi := { dst := some 13, op := .load 3 (.tmp 2), type := 3, pos := "tilt.go:46", after := _, guard := none }) (v := .int .i64 n) rfl (by kernel_rfl) (by kernel_rfl) (by kernel_rfl) (fun _ _ _ h => h) (.inl ⟨by rfl, fun w hS => by have h2 := hS.2; go_simp⟩) hH ?_
  try simp only [Act.put, List.setIfInBounds_toArray, List.set_cons_zero, List.set_cons_succ]
  refine wpAnyH_ready (rs := [2]) (by kernel_rfl) (by simp) ?_
  refine AllReadyH.cons (o := { dst := none, op := .store 27 (.tmp 4) (.tmp 12), type := 0, pos := "tilt.go:46", after := _, guard := none }) rfl (fun K hK => ?_) AllReadyH.nil
  rw [if_pos (by rfl)]
  refine wp_store_blk 27 (.tmp 4) (.tmp 12) rfl (B + 2) _ (arrV L) rfl rfl 27 hR.drew j1 k1 (arr_one _) ?_
  refine hK.out _ _ ⟨(hO.drew).setRowOther (by omega), hcB⟩ (fun hH => ?_)
  clear hK K
  try simp only [Act.put, List.setIfInBounds_toArray, List.set_cons_zero, List.set_cons_succ]
  refine wpAnyH_take (i := 3) (oi := { dst := some 5, op := .assign (.tmp 13), type := 3, pos := "tilt.go:46", after := _, guard := none }) (v := .int .i64 n) rfl (by kernel_rfl) (by kernel_rfl) (by kernel_rfl) (fun _ _ _ h => h) (.inl ⟨by rfl, fun w hS => by go_simp⟩) hH ?_
  try simp only [Act.put, List.setIfInBounds_toArray, List.set_cons_zero, List.set_cons_succ]
  refine wpAnyH_done (by kernel_rfl) ?_ _

  go_wp2_with fail
  exact bodyPost_ret (v := .tuple #[.agg (arrV L), .int .i64 n]) (results_ct Tryd.results23 _ _ (B + 2) 27 _ (.array 16 3) _ rfl hR.drew.setRow Tryd.underlying27 rfl j1 rfl) rfl ⟨by rw [HL.out, HN.out], by rw [hB]; exact Below.setRow hb.drew (g := B + 2) (by omega) (arrV L)⟩
end Go.Proofs.YtnohjidoelohkaaDoor
