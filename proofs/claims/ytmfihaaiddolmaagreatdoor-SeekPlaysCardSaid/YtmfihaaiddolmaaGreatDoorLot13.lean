/- The walk of the document's Next (spoolref12). The walk of the document's Pulses (spoolref11). -/
import Derived.Test.YtmfihaaiddolmaaGreatDoorLot10
import Derived.Test.YtmfihaaiddolmaaGreatDoorLot6
import Derived.Test.YtmfihaaiddolmaaGreatDoorLot12
set_option linter.unusedSimpArgs false
set_option linter.unusedVariables false
namespace Go.Proofs.YtmfihaaiddolmaaGreatDoor
open Go.RowKit

theorem w_A32 : Whole 144 32 := ⟨_, Tryz.underlying144, rfl, by kernel_rfl⟩
theorem size_zs32 : (#[.int .i64 0, .int .i64 0, .int .i64 0, .int .i64 0, .int .i64 0, .int .i64 0, .int .i64 0, .int .i64 0, .int .i64 0, .int .i64 0, .int .i64 0, .int .i64 0, .int .i64 0, .int .i64 0, .int .i64 0, .int .i64 0, .int .i64 0, .int .i64 0, .int .i64 0, .int .i64 0, .int .i64 0, .int .i64 0, .int .i64 0, .int .i64 0, .int .i64 0, .int .i64 0, .int .i64 0, .int .i64 0, .int .i64 0, .int .i64 0, .int .i64 0, .int .i64 0] : Array Value).size = 32 := rfl
set_option maxRecDepth 100000 in
theorem rstate_places : ∃ it, Tryz.prog.info? 25 = some it ∧ ∃ z, it.zero = some z ∧ z.cells = arrV (List.replicate 38 0) ∧ ∃ fs, Tryz.prog.underlying 25 = some (.struct fs) ∧ fs.toList.mapM (fun f => (Tryz.prog.info? f.type).map fun i => (f.offset, i.size)) = some [(0, 16), (16, 1), (17, 4), (21, 16), (37, 1)] :=
  ⟨_, rfl, _, rfl, by kernel_rfl, _, Tryz.underlying25, by kernel_rfl⟩
set_option maxRecDepth 100000 in
theorem rstate_built (n : Int) (ls wv : List Int) (h1 : ls.length = 4) (h2 : wv.length = 16) (lost : Int) : Tryz.prog.built 25 [(1, .int .i64 n), (2, .agg (arrV ls)), (3, .agg (arrV wv)), (4, .int .i64 lost)] = some (arrV (zs 16 ++ [n] ++ ls ++ wv ++ [lost])) := by
  obtain ⟨it, hi, z, hz, hzc, fs, hu, hp⟩ := rstate_places
  have l0 : (putL (List.replicate 38 0) 16 [n]).length = 38 := by rw [putL_len (by simp)]; simp
  have l1 : (putL (putL (List.replicate 38 0) 16 [n]) 17 ls).length = 38 := by rw [putL_len (by rw [l0, h1]; omega), l0]
  have l2 : (putL (putL (putL (List.replicate 38 0) 16 [n]) 17 ls) 21 wv).length = 38 := by rw [putL_len (by rw [l1, h2]; omega), l1]
  rw [built_struct hi hu hz hp, hzc, fill_int (off := 16) rfl (by simp), fill_ints (off := 17) (size := 4) rfl h1 (by rw [l0]; omega), fill_ints (off := 21) (size := 16) rfl h2 (by rw [l1]; omega), fill_int (off := 37) rfl (by rw [l2]; omega)]
  simp only [Instr.fill]
  congr 2
  unfold zs
  match ls, h1 with
  | [a, b, c, d], _ =>
    match wv, h2 with
    | [x0, x1, x2, x3, x4, x5, x6, x7, x8, x9, x10, x11, x12, x13, x14, x15], _ => rfl
/-- A row that turns from the front on. -/
def turnL (f o : List Int) (k : Nat) : List Int := f.take k ++ o.drop k
theorem turnL_zero (f o : List Int) : turnL f o 0 = o := by simp [turnL]
theorem turnL_all {f o : List Int} {n : Nat} (h : f.length = n) (ho : o.length = n) : turnL f o n = f := by
  subst h
  unfold turnL; rw [List.take_length, List.drop_of_length_le (by omega), List.append_nil]
theorem turnL_len {f o : List Int} {n k : Nat} (h : f.length = n) (ho : o.length = n) (hk : k ≤ n) : Len (turnL f o k) n := by
  apply Len.mk
  unfold turnL; rw [List.length_append, List.length_take, List.length_drop]; omega
theorem turnL_set {f o : List Int} {n k : Nat} {x : Int} (h : f.length = n) (ho : o.length = n) (hk : k < n) (hx : f.getD k 0 = x) : (turnL f o k).set k x = turnL f o (k + 1) := by
  subst hx
  unfold turnL
  exact part_step f o k (by omega) (by omega)
theorem turnL_get {f o : List Int} {n k : Nat} (h : f.length = n) (hk : k < n) : (turnL f o k).getD k 0 = o.getD k 0 := by
  unfold turnL
  have hl : (f.take k).length = k := by rw [List.length_take]; omega
  rw [List.getD_eq_getElem?_getD, List.getElem?_append_right (by omega), hl, Nat.sub_self, List.getElem?_drop, Nat.add_zero, List.getD_eq_getElem?_getD]
theorem cut32_b2 (x : Int) : -2147483648 ≤ Sp.cut 32 x ∧ Sp.cut 32 x ≤ 2147483647 := by
  have e : Sp.cut 32 x = max (min x 2147483647) (-2147483648) := rfl
  rw [e]; omega
theorem nextSt_split (L ls wv : List Int) (lost : Int) : nextSt L ls wv lost = ((backL wv).drop 16).map (Sp.cut 32) ++ ([nextN L wv] ++ ls ++ wv ++ [lost]) := by
  unfold nextSt; simp only [List.append_assoc]
set_option maxRecDepth 100000 in
set_option maxHeartbeats 8000000 in
theorem RNext_any (L ls wv : List Int) (lost : Int) (hL : L.length = 38) (hr : rightS L = true) (h1 : ls.length = 4) (h2 : wv.length = 16) (hw : wv.any wideP = false) (w : World) :
    Calls Tryz.prog 57 #[.agg (arrV L), .agg (arrV ls), .agg (arrV wv), .int .i64 lost] w fun r w' => r = .returned (.tuple #[.agg (arrV (soundL (nextO L wv))), .agg (arrV (nextSt L ls wv lost))]) ∧ Below w.heap.size w w' := by
  have LL := Len.mk hL
  have LS := Len.mk h1
  have LW := Len.mk h2
  have hBk := fun w => RBack_any wv h2 hw w
  have LK := Len.mk (backL_len wv)
  have hbu := fun n => rstate_built n ls wv h1 h2 lost
  have hfit : ∀ k, k < 16 → Sp.cut 32 (L.getD k 0) = L.getD k 0 := fun k hk => by
    unfold rightS at hr
    simp only [Bool.and_eq_true, List.all_eq_true] at hr
    have h := hr.1.1.1.1.1 (L.getD k 0) (by
      unfold memL
      rw [List.getD_eq_getElem?_getD, List.getElem?_eq_getElem (by omega)]
      exact List.mem_of_getElem? (i := k) (by rw [List.getElem?_take, if_pos hk, List.getElem?_eq_getElem (by omega)]; rfl))
    unfold fitP at h
    simpa using h
  have hovl : ∀ k, k < 16 → (overL (memL L) ((backL wv).take 16)).getD k 0 = Sp.cut 32 (L.getD k 0 + Sp.cut 32 ((backL wv).getD k 0)) := fun k hk => by
    have e1 : (memL L).getD k 0 = L.getD k 0 := by unfold memL; rw [List.getD_eq_getElem?_getD, List.getElem?_take, if_pos hk, ← List.getD_eq_getElem?_getD]
    have e2 : ((backL wv).take 16).getD k 0 = (backL wv).getD k 0 := by rw [List.getD_eq_getElem?_getD, List.getElem?_take, if_pos hk, ← List.getD_eq_getElem?_getD]
    unfold overL
    rw [List.getD_eq_getElem?_getD, List.getElem?_map, List.getElem?_range hk]
    simp only [Option.map_some, Option.getD_some]
    rw [e1, e2, hfit k hk]
  obtain ⟨F, hF⟩ : ∃ F, overL (memL L) ((backL wv).take 16) = F := ⟨_, rfl⟩
  have hFl : F.length = 16 := by rw [← hF]; exact overL_len _ _
  have hLy := fun w => RLay_any (lastL L) F hFl w
  have hO1 : nextO L wv = layL (lastL L) F := by unfold nextO; rw [hF]
  have hO2 : nextN L wv = layN (lastL L) F := by unfold nextN; rw [hF]
  have hOl : (layL (lastL L) F).length = 16 := by unfold layL; rw [layG_len]; exact hFl
  have hsp := nextSt_split L ls wv lost
  rw [hO2] at hsp
  rw [hO1]
  rw [hF] at hovl
  obtain ⟨K, hK⟩ : ∃ K, backL wv = K := ⟨_, rfl⟩
  simp only [hK] at hBk LK hovl hsp
  obtain ⟨O, hO⟩ : ∃ O, layL (lastL L) F = O := ⟨_, rfl⟩
  obtain ⟨nl, hnl⟩ : ∃ n, layN (lastL L) F = n := ⟨_, rfl⟩
  simp only [hO, hnl] at hLy hOl hsp ⊢
  obtain ⟨G, hG⟩ : ∃ G, soundL O = G := ⟨_, rfl⟩
  have hGl : G.length = 16 := by rw [← hG]; unfold soundL; rw [List.length_map]; exact hOl
  have hGg : ∀ k, k < 16 → G.getD k 0 = Sp.cut 16 (O.getD k 0) := fun k hk => by
    rw [← hG]; unfold soundL
    rw [List.getD_eq_getElem?_getD, List.getElem?_map, List.getD_eq_getElem?_getD, List.getElem?_eq_getElem (by omega)]
    rfl
  obtain ⟨H, hH⟩ : ∃ H, (K.drop 16).map (Sp.cut 32) = H := ⟨_, rfl⟩
  have hHl : H.length = 16 := by rw [← hH, List.length_map, List.length_drop, LK.out]
  have hHg : ∀ k, k < 16 → H.getD k 0 = Sp.cut 32 (K.getD (16 + k) 0) := fun k hk => by
    have := LK.out
    rw [← hH, List.getD_eq_getElem?_getD, List.getElem?_map, List.getElem?_drop, List.getD_eq_getElem?_getD, List.getElem?_eq_getElem (by omega)]
    rfl
  obtain ⟨Z, hZ⟩ : ∃ Z, [nl] ++ ls ++ wv ++ [lost] = Z := ⟨_, rfl⟩
  have hZl : Z.length = 22 := by rw [← hZ]; simp [h1, h2]
  rw [hH, hZ] at hsp
  rw [hsp]
  have hbz : Tryz.prog.built 25 [(1, .int .i64 nl), (2, .agg (arrV ls)), (3, .agg (arrV wv)), (4, .int .i64 lost)] = some (arrV (zs 16 ++ Z)) := by
    rw [hbu nl, ← hZ]; simp only [List.append_assoc]
  have hZ38 : Len (zs 16 ++ Z) 38 := Len.mk (by rw [List.length_append, hZl]; simp [zs])
  rw [hG]
  have HBK := Lib.hid hBk
  have HLY := Lib.hid hLy
  have HBU := Lib.hid hbz
  have HOV := Lib.hid hovl
  have HFIT := Lib.hid (fun k (hk : k < 16) (x : Int) (hx : L.getD k 0 = x) => show Sp.cut 32 x = x by rw [← hx]; exact hfit k hk)
  have HGG := Lib.hid hGg
  have HHG := Lib.hid hHg
  have HFL := Lib.hid hFl
  have HOL := Lib.hid hOl
  have HGL := Lib.hid hGl
  have HHL := Lib.hid hHl
  have HZL := Lib.hid hZl
  have LO := Len.mk hOl
  have LF := Len.mk hFl
  have LG := Len.mk hGl
  clear hL hr h1 h2 hw hBk hbu hfit hovl hF hFl hLy hO1 hO2 hOl hsp hK hO hnl hG hGl hGg hH hHl hHg hZ hZl hbz
  obtain ⟨B, hB⟩ : ∃ B, w.heap.size = B := ⟨_, rfl⟩
  have hfar := Below.refl B w
  have hsz : B ≤ w.heap.size := by omega
  go_enter Tryz.func57, Tryz.ntmps57
  go_upto_region 1 with (fail)
  refine wp_gen (fun W => Blk W (B) (arrV L) 25 ∧ Blk W (B + 1) (arrV ls) 23 ∧ Blk W (B + 1 + 1) (arrV wv) 22 ∧ Blk W (B + 1 + 1 + 1) (arrV (zs 16)) 22 ∧ Blk W (B + 1 + 1 + 1 + 1) (arrV (zs 38)) 25 ∧ Below (B) w W ∧ B + 5 ≤ W.heap.size) ⟨bk_, bk_, bk_, bk_, bk_, bl_, sz_⟩ ?_
  clear hfar hsz
  rintro w1 ⟨hA, hLs, hWv, hR1, hR2, hfar, hsz⟩
  go_wp2_with (first | (refine bd 25 rfl (by rfl) rfl HBU.out ?_) | (refine ld 22 rfl (by rfl) w_Sixteen rfl bk_ lz_ ?_) | (refine st 22 rfl (by rfl) w_Sixteen rfl rfl bk_ lz_ lz_ one_ ?_) | (refine ld 23 rfl (by rfl) w_Four rfl bk_ lz_ ?_) | (refine ld 25 rfl (by rfl) w_RState rfl bk_ lz_ ?_) | (refine st 25 rfl (by rfl) w_RState rfl rfl bk_ lz_ lz_ one_ ?_) | (refine st 144 rfl (by rfl) w_A32 rfl rfl bk_ (by rw [size_zs32]) lz_ one_ ?_))
  refine (HBK.out _).mono ?_
  rintro e w2 ⟨rfl, hb2⟩
  replace hA := hA.newB hb2
  replace hLs := hLs.newB hb2
  replace hWv := hWv.newB hb2
  replace hR1 := hR1.newB hb2
  replace hR2 := hR2.newB hb2
  replace hfar := hfar.trans (hb2.mono (by omega))
  replace hsz := Nat.le_trans hsz hb2.size
  obtain ⟨g, hs_g⟩ : ∃ g, w2.heap.size = g := ⟨_, rfl⟩
  have hk_g : B + 5 ≤ g := by omega
  go_upto_region 3 with (first | (refine bd 25 rfl (by rfl) rfl HBU.out ?_) | (refine ld 22 rfl (by rfl) w_Sixteen rfl bk_ lz_ ?_) | (refine st 22 rfl (by rfl) w_Sixteen rfl rfl bk_ lz_ lz_ one_ ?_) | (refine ld 23 rfl (by rfl) w_Four rfl bk_ lz_ ?_) | (refine ld 25 rfl (by rfl) w_RState rfl bk_ lz_ ?_) | (refine st 25 rfl (by rfl) w_RState rfl rfl bk_ lz_ lz_ one_ ?_) | (refine st 144 rfl (by rfl) w_A32 rfl rfl bk_ (by rw [size_zs32]) lz_ one_ ?_))
  refine wp_gen (fun W => Blk W (B) (arrV L) 25 ∧ Blk W (B + 1) (arrV ls) 23 ∧ Blk W (B + 1 + 1) (arrV wv) 22 ∧ Blk W (B + 1 + 1 + 1) (arrV (zs 16)) 22 ∧ Blk W (B + 1 + 1 + 1 + 1) (arrV (zs 38)) 25 ∧ Blk W (g) (arrV K) 144 ∧ Blk W (g + 1) (arrV (zs 16)) 22 ∧ Below (B) w W ∧ g + 2 ≤ W.heap.size) ⟨bk_, bk_, bk_, bk_, bk_, bk_, bk_, bl_, sz_⟩ ?_
  clear hA hLs hWv hR1 hR2 hfar hsz
  rintro w3 ⟨hA, hLs, hWv, hR1, hR2, hK, hO, hfar, hsz⟩
  go_wp2_with fail
  go_loopw [12] (fun i wr => ∃ k : Nat, k ≤ 16 ∧ i = .int .i64 k ∧ Blk wr B (arrV L) 25 ∧ Blk wr (B + 1) (arrV ls) 23 ∧ Blk wr (B + 1 + 1) (arrV wv) 22 ∧ Blk wr (B + 1 + 1 + 1) (arrV (zs 16)) 22 ∧ Blk wr (B + 1 + 1 + 1 + 1) (arrV (zs 38)) 25 ∧ Blk wr g (arrV K) 144 ∧ Blk wr (g + 1) (arrV (turnL F (zs 16) k)) 22 ∧ Below B w wr ∧ g + 2 ≤ wr.heap.size) (fun i _ => 16 - (intOf i).toNat)
  case atStart => exact ⟨0, by omega, rfl, hA, hLs, hWv, hR1, hR2, hK, by rw [turnL_zero]; exact hO, hfar, hsz⟩
  case round =>
    clear hA hLs hWv hR1 hR2 hK hO hfar hsz
    obtain ⟨k, hk, rfl, hA, hLs, hWv, hR1, hR2, hK, hO, hfar, hsz⟩ := hrel
    have hz16 : (zs 16).length = 16 := by simp [zs]
    by_cases hlt : k < 16
    · have hov := HOV.out k hlt
      have hset := turnL_set HFL.out hz16 hlt hov
      have LT := turnL_len HFL.out hz16 (Nat.le_of_lt hlt)
      obtain ⟨T, hT⟩ : ∃ T, turnL F (zs 16) k = T := ⟨_, rfl⟩
      rw [hT] at hset hO LT
      obtain ⟨x, hx⟩ : ∃ x, L.getD k 0 = x := ⟨_, rfl⟩
      obtain ⟨y, hy⟩ : ∃ y, K.getD k 0 = y := ⟨_, rfl⟩
      rw [hx, hy] at hset
      have hc4 : ∀ W, Kept (· = g + 1) wr W → W.cell? ⟨B, k, none⟩ = some (.int .i64 x) := fun W h => by
        rw [(hA.keep h (by omega)).cell k, arr_get (by have := LL.out; omega), hx]
      have hc7 : ∀ W, Kept (· = g + 1) wr W → W.cell? ⟨g, k, none⟩ = some (.int .i64 y) := fun W h => by
        rw [(hK.keep h (by omega)).cell k, arr_get (by have := LK.out; omega), hy]
      have f1 := hO.drew.frozen k
      have c1 := (hO.drew.cell k).trans (arr_get (l := T) (by have := LT.out; omega))
      have HC4 := Lib.hid hc4
      have HC7 := Lib.hid hc7
      have HSET := Lib.hid hset
      obtain ⟨y2, hy2⟩ : ∃ y2, Sp.cut 32 y = y2 := ⟨_, rfl⟩
      have hq1 := fun w => RCut_any 32 (by omega) (by omega) y w
      rw [hy2] at HSET
      simp only [hy2] at hq1
      have hxy : -9223372036854775808 ≤ x + y2 ∧ x + y2 ≤ 9223372036854775807 := by
        have a1 := cut32_b2 y
        have a2 := cut32_b2 x
        rw [hy2] at a1
        rw [HFIT.out k hlt x hx] at a2
        omega
      have hwr : IntKind.i64.wrap (x + y2) = x + y2 := IntWalk.i64_in _ (by omega)
      have hq2 := fun w => RCut_any 32 (by omega) (by omega) (x + y2) w
      obtain ⟨z, hz⟩ : ∃ z, Sp.cut 32 (x + y2) = z := ⟨_, rfl⟩
      rw [hz] at HSET
      simp only [hz] at hq2
      have HQ1 := Lib.hid hq1
      have HQ2 := Lib.hid hq2
      clear hov hset hT hx hy hc4 hc7 hy2 hq1 hq2 hz
      go_upto_region 6 with (fail)
      refine wp_region_held_drew (S := fun W => Kept (· = g + 1) wr W) (by kernel_rfl) ((Kept.refl _ wr).drew) (fun hH => ?_)
      refine wpAnyH_take (i := 0) (oi := { dst := some 23, op := Op.move (Operand.tmp 12), type := 3, pos := "ref.go:68", after := _, guard := none }) (v := _) rfl (by kernel_rfl) (by kernel_rfl) (by kernel_rfl) (fun _ _ _ h => h) (.inl ⟨by rfl, fun w hS => by (go_simp; try rfl)⟩) hH ?_
      try simp only [Act.put, List.setIfInBounds_toArray, List.set_cons_zero, List.set_cons_succ]
      refine wpAnyH_take (i := 1) (oi := { dst := some 24, op := Op.move (Operand.tmp 12), type := 3, pos := "ref.go:68", after := _, guard := none }) (v := _) rfl (by kernel_rfl) (by kernel_rfl) (by kernel_rfl) (fun _ _ _ h => h) (.inl ⟨by rfl, fun w hS => by (go_simp; try rfl)⟩) hH ?_
      try simp only [Act.put, List.setIfInBounds_toArray, List.set_cons_zero, List.set_cons_succ]
      refine wpAnyH_take (i := 2) (oi := { dst := some 25, op := Op.fieldAddr 25 (Operand.tmp 4) 0, type := 0, pos := "ref.go:68", after := _, guard := none }) (v := _) rfl (by kernel_rfl) (by kernel_rfl) (by kernel_rfl) (fun _ _ _ h => h) (.inl ⟨by rfl, fun w hS => by (go_simp; try rfl)⟩) hH ?_
      try simp only [Act.put, List.setIfInBounds_toArray, List.set_cons_zero, List.set_cons_succ]
      refine wpAnyH_take (i := 3) (oi := { dst := some 26, op := Op.indexAddr 22 (Operand.tmp 25) (Operand.tmp 24), type := 0, pos := "ref.go:68", after := _, guard := none }) (v := _) rfl (by kernel_rfl) (by kernel_rfl) (by kernel_rfl) (fun _ _ _ h => h) (.inl ⟨by rfl, fun w hS => by (go_simp; try rfl)⟩) hH ?_
      try simp only [Act.put, List.setIfInBounds_toArray, List.set_cons_zero, List.set_cons_succ]
      refine wpAnyH_take (i := 4) (oi := { dst := some 27, op := Op.load 3 (Operand.tmp 26), type := 3, pos := "ref.go:68", after := _, guard := none }) (v := _) rfl (by kernel_rfl) (by kernel_rfl) (by kernel_rfl) (fun _ _ _ h => h) (.inl ⟨by rfl, fun w hS => by (have c := HC4.out _ hS; go_simp; try rfl)⟩) hH ?_
      try simp only [Act.put, List.setIfInBounds_toArray, List.set_cons_zero, List.set_cons_succ]
      refine wpAnyH_take (i := 5) (oi := { dst := some 28, op := Op.move (Operand.tmp 12), type := 3, pos := "ref.go:68", after := _, guard := none }) (v := _) rfl (by kernel_rfl) (by kernel_rfl) (by kernel_rfl) (fun _ _ _ h => h) (.inl ⟨by rfl, fun w hS => by (go_simp; try rfl)⟩) hH ?_
      try simp only [Act.put, List.setIfInBounds_toArray, List.set_cons_zero, List.set_cons_succ]
      refine wpAnyH_take (i := 6) (oi := { dst := some 29, op := Op.indexAddr 144 (Operand.tmp 10) (Operand.tmp 28), type := 0, pos := "ref.go:68", after := _, guard := none }) (v := .pointer (some ⟨g, k, none⟩)) rfl (by kernel_rfl) (by kernel_rfl) (by kernel_rfl) (fun _ _ _ h => h) (.inl ⟨by rfl, fun w hS => by (go_simp; omega)⟩) hH ?_
      try simp only [Act.put, List.setIfInBounds_toArray, List.set_cons_zero, List.set_cons_succ]
      refine wpAnyH_take (i := 7) (oi := { dst := some 30, op := Op.load 3 (Operand.tmp 29), type := 3, pos := "ref.go:68", after := _, guard := none }) (v := _) rfl (by kernel_rfl) (by kernel_rfl) (by kernel_rfl) (fun _ _ _ h => h) (.inl ⟨by rfl, fun w hS => by (have c := HC7.out _ hS; go_simp; try rfl)⟩) hH ?_
      try simp only [Act.put, List.setIfInBounds_toArray, List.set_cons_zero, List.set_cons_succ]
      refine wpAnyH_ready (rs := [8]) (by kernel_rfl) (by simp) ?_
      refine AllReadyH.cons (o := { dst := some 31, op := Op.call { callee := Callee.value (Operand.func 97), args := #[Operand.tmp 30, Operand.const (Value.int IntKind.i64 32)], argTypes := #[3, 3] }, type := 3, pos := "ref.go:68", after := _, guard := none }) rfl (fun K hK => ?_) AllReadyH.nil
      rw [if_pos (by rfl)]
      go_simp
      refine (HQ1.out _).mono ?_
      rintro r wq ⟨rfl, rfl⟩
      go_wp2_with fail
      refine hK.out _ _ hH (fun hH => ?_)
      clear hK K
      try simp only [Act.put, List.setIfInBounds_toArray, List.set_cons_zero, List.set_cons_succ]
      refine wpAnyH_take (i := 9) (oi := { dst := some 32, op := Op.binOp BinOp.add 3 (Operand.tmp 27) (Operand.tmp 31) 3, type := 3, pos := "ref.go:68", after := _, guard := none }) (v := _) rfl (by kernel_rfl) (by kernel_rfl) (by kernel_rfl) (fun _ _ _ h => h) (.inl ⟨by rfl, fun w hS => by (go_simp; try rfl)⟩) hH ?_
      try simp only [Act.put, List.setIfInBounds_toArray, List.set_cons_zero, List.set_cons_succ]
      refine wpAnyH_ready (rs := [10]) (by kernel_rfl) (by simp) ?_
      refine AllReadyH.cons (o := { dst := some 33, op := Op.call { callee := Callee.value (Operand.func 97), args := #[Operand.tmp 32, Operand.const (Value.int IntKind.i64 32)], argTypes := #[3, 3] }, type := 3, pos := "ref.go:68", after := _, guard := none }) rfl (fun K hK => ?_) AllReadyH.nil
      rw [if_pos (by rfl)]
      go_simp
      refine (HQ2.out _).mono ?_
      rintro r wq ⟨rfl, rfl⟩
      go_wp2_with fail
      refine hK.out _ _ hH (fun hH => ?_)
      clear hK K
      try simp only [Act.put, List.setIfInBounds_toArray, List.set_cons_zero, List.set_cons_succ]
      refine wpAnyH_take (i := 11) (oi := { dst := some 34, op := Op.indexAddr 22 (Operand.tmp 11) (Operand.tmp 23), type := 0, pos := "ref.go:68", after := _, guard := none }) (v := _) rfl (by kernel_rfl) (by kernel_rfl) (by kernel_rfl) (fun _ _ _ h => h) (.inl ⟨by rfl, fun w hS => by (go_simp; try rfl)⟩) hH ?_
      try simp only [Act.put, List.setIfInBounds_toArray, List.set_cons_zero, List.set_cons_succ]
      refine wpAnyH_ready (rs := [12]) (by kernel_rfl) (by simp) ?_
      refine AllReadyH.cons (o := { dst := none, op := Op.store 3 (Operand.tmp 34) (Operand.tmp 33), type := 0, pos := "ref.go:68", after := _, guard := none }) rfl (fun K hK => ?_) AllReadyH.nil
      rw [if_pos (by rfl)]
      go_simp
      refine hK.out _ _ (hH.setCell (.inl rfl) _) (fun hH => ?_)
      clear hK K
      try simp only [Act.put]
      refine wpAnyH_done (by kernel_rfl) ?_ _
      go_wp2_with fail
      go_roundw
      case rel => exact ⟨k + 1, hlt, by go_num, by exact bk_, by exact bk_, by exact bk_, by exact bk_, by exact bk_, by exact bk_, by rw [← HSET.out]; exact bk_, by exact bl_, by exact sz_⟩
      case measure => simp [intOf]; omega
    · obtain rfl : k = 16 := by omega
      rw [turnL_all HFL.out hz16] at hO
      have c16 : wr.cell? ⟨B, 16, none⟩ = some (.int .i64 (lastL L)) := (hA.cell 16).trans (arr_get (l := L) (by have := LL.out; omega))
      go_wp2_with (first | (refine bd 25 rfl (by rfl) rfl HBU.out ?_) | (refine ld 22 rfl (by rfl) w_Sixteen rfl bk_ lz_ ?_) | (refine st 22 rfl (by rfl) w_Sixteen rfl rfl bk_ lz_ lz_ one_ ?_) | (refine ld 23 rfl (by rfl) w_Four rfl bk_ lz_ ?_) | (refine ld 25 rfl (by rfl) w_RState rfl bk_ lz_ ?_) | (refine st 25 rfl (by rfl) w_RState rfl rfl bk_ lz_ lz_ one_ ?_) | (refine st 144 rfl (by rfl) w_A32 rfl rfl bk_ (by rw [size_zs32]) lz_ one_ ?_))
      refine (HLY.out _).mono ?_
      rintro e w4 ⟨rfl, hb4⟩
      replace hA := hA.newB hb4
      replace hLs := hLs.newB hb4
      replace hWv := hWv.newB hb4
      replace hR1 := hR1.newB hb4
      replace hR2 := hR2.newB hb4
      replace hK := hK.newB hb4
      replace hO := hO.newB hb4
      replace hfar := hfar.trans (hb4.mono (by omega))
      replace hsz := Nat.le_trans hsz hb4.size
      obtain ⟨g4, hs_g4⟩ : ∃ g, w4.heap.size = g := ⟨_, rfl⟩
      have hk_g4 : g + 2 ≤ g4 := by omega
      clear c16
      go_upto_region 8 with (first | (refine bd 25 rfl (by rfl) rfl HBU.out ?_) | (refine ld 22 rfl (by rfl) w_Sixteen rfl bk_ lz_ ?_) | (refine st 22 rfl (by rfl) w_Sixteen rfl rfl bk_ lz_ lz_ one_ ?_) | (refine ld 23 rfl (by rfl) w_Four rfl bk_ lz_ ?_) | (refine ld 25 rfl (by rfl) w_RState rfl bk_ lz_ ?_) | (refine st 25 rfl (by rfl) w_RState rfl rfl bk_ lz_ lz_ one_ ?_) | (refine st 144 rfl (by rfl) w_A32 rfl rfl bk_ (by rw [size_zs32]) lz_ one_ ?_))
      refine wp_gen (fun W => Blk W (B) (arrV L) 25 ∧ Blk W (B + 1) (arrV ls) 23 ∧ Blk W (B + 1 + 1) (arrV wv) 22 ∧ Blk W (B + 1 + 1 + 1) (arrV (zs 16)) 22 ∧ Blk W (B + 1 + 1 + 1 + 1) (arrV (zs 38)) 25 ∧ Blk W (g) (arrV K) 144 ∧ Blk W (g + 1) (arrV F) 22 ∧ Blk W (g4) (arrV O) 22 ∧ Below (B) w W ∧ g4 + 1 ≤ W.heap.size) ⟨bk_, bk_, bk_, bk_, bk_, bk_, bk_, bk_, bl_, sz_⟩ ?_
      clear hA hLs hWv hR1 hR2 hK hO hfar hsz
      rintro w5 ⟨hA, hLs, hWv, hR1, hR2, hK, hO, hN, hfar, hsz⟩
      obtain ⟨g5, hg5⟩ : ∃ x, w5.heap.size = x := ⟨_, rfl⟩
      have hg45 : g4 + 1 ≤ g5 := by omega
      go_upto_region 9 with (first | (refine bd 25 rfl (by rfl) rfl HBU.out ?_) | (refine ld 22 rfl (by rfl) w_Sixteen rfl bk_ lz_ ?_) | (refine st 22 rfl (by rfl) w_Sixteen rfl rfl bk_ lz_ lz_ one_ ?_) | (refine ld 23 rfl (by rfl) w_Four rfl bk_ lz_ ?_) | (refine ld 25 rfl (by rfl) w_RState rfl bk_ lz_ ?_) | (refine st 25 rfl (by rfl) w_RState rfl rfl bk_ lz_ lz_ one_ ?_) | (refine st 144 rfl (by rfl) w_A32 rfl rfl bk_ (by rw [size_zs32]) lz_ one_ ?_))
      refine wp_gen (fun W => Blk W (B) (arrV L) 25 ∧ Blk W (B + 1) (arrV ls) 23 ∧ Blk W (B + 1 + 1) (arrV wv) 22 ∧ Blk W (B + 1 + 1 + 1) (arrV (zs 16)) 22 ∧ Blk W (B + 1 + 1 + 1 + 1) (arrV (zs 38)) 25 ∧ Blk W (g) (arrV K) 144 ∧ Blk W (g + 1) (arrV F) 22 ∧ Blk W (g4) (arrV O) 22 ∧ Blk W (g5) (arrV (zs 16 ++ Z)) 25 ∧ Below (B) w W ∧ g5 + 1 ≤ W.heap.size) ⟨bk_, bk_, bk_, bk_, bk_, bk_, bk_, bk_, bk_, bl_, sz_⟩ ?_
      clear hA hLs hWv hR1 hR2 hK hO hN hfar hsz
      rintro w6 ⟨hA, hLs, hWv, hR1, hR2, hK, hO, hN, hS, hfar, hsz⟩
      go_wp2_with fail
      clear hA hLs hWv hO
      go_loopw [16] (fun i wr => ∃ k : Nat, k ≤ 16 ∧ i = .int .i64 k ∧ Blk wr (B + 1 + 1 + 1) (arrV (zs 16)) 22 ∧ Blk wr (B + 1 + 1 + 1 + 1) (arrV (zs 38)) 25 ∧ Blk wr g (arrV K) 144 ∧ Blk wr g4 (arrV (turnL G O k)) 22 ∧ Blk wr g5 (arrV (turnL H (zs 16) k ++ Z)) 25 ∧ Below B w wr ∧ g5 + 1 ≤ wr.heap.size) (fun i _ => 16 - (intOf i).toNat)
      case atStart => exact ⟨0, by omega, rfl, hR1, hR2, hK, by rw [turnL_zero]; exact hN, by rw [turnL_zero]; exact hS, hfar, hsz⟩
      case round =>
        clear hR1 hR2 hK hN hS hfar hsz
        obtain ⟨k, hk, rfl, hR1, hR2, hK, hN, hS, hfar, hsz⟩ := hrel
        by_cases hlt : k < 16
        · have hset1 := turnL_set HGL.out HOL.out hlt (HGG.out k hlt)
          have hset2 : (turnL H (zs 16) k ++ Z).set k (H.getD k 0) = turnL H (zs 16) (k + 1) ++ Z := by
            have LT2 := turnL_len HHL.out hz16 (Nat.le_of_lt hlt)
            rw [List.set_append, if_pos (by rw [LT2.out]; exact hlt), turnL_set HHL.out hz16 hlt rfl]
          rw [HHG.out k hlt] at hset2
          have LT1 := turnL_len HGL.out HOL.out (Nat.le_of_lt hlt)
          have LT2 : Len (turnL H (zs 16) k ++ Z) 38 := Len.mk (by rw [List.length_append, (turnL_len HHL.out hz16 (Nat.le_of_lt hlt)).out, HZL.out])
          have hg1 := turnL_get (f := G) (o := O) (n := 16) HGL.out hlt
          obtain ⟨T1, hT1⟩ : ∃ T, turnL G O k = T := ⟨_, rfl⟩
          obtain ⟨T2, hT2⟩ : ∃ T, turnL H (zs 16) k ++ Z = T := ⟨_, rfl⟩
          rw [hT1] at hset1 hN LT1 hg1
          rw [hT2] at hset2 hS LT2
          obtain ⟨x, hx⟩ : ∃ x, O.getD k 0 = x := ⟨_, rfl⟩
          obtain ⟨y, hy⟩ : ∃ y, K.getD (16 + k) 0 = y := ⟨_, rfl⟩
          rw [hx] at hset1 hg1
          rw [hy] at hset2
          have c1 : wr.cell? ⟨g4, k, none⟩ = some (.int .i64 x) := by rw [hN.cell k, arr_get (by have := LT1.out; omega), hg1]
          have c2 : wr.cell? ⟨g, 16 + k, none⟩ = some (.int .i64 y) := by rw [hK.cell (16 + k), arr_get (by have := LK.out; omega), hy]
          have c3 := (hS.cell k).trans (arr_get (l := T2) (by have := LT2.out; omega))
          have f1 := hN.frozen k
          have f3 := hS.frozen k
          have hq1 := fun w => RCut_any 16 (by omega) (by omega) x w
          have hq2 := fun w => RCut_any 32 (by omega) (by omega) y w
          obtain ⟨x2, hx2⟩ : ∃ x2, Sp.cut 16 x = x2 := ⟨_, rfl⟩
          obtain ⟨y2, hy2⟩ : ∃ y2, Sp.cut 32 y = y2 := ⟨_, rfl⟩
          rw [hx2] at hset1
          rw [hy2] at hset2
          simp only [hx2] at hq1
          simp only [hy2] at hq2
          have HQ1 := Lib.hid hq1
          have HQ2 := Lib.hid hq2
          have HSET1 := Lib.hid hset1
          have HSET2 := Lib.hid hset2
          have hng : g ≠ g4 := by omega
          have hng2 : g5 ≠ g4 := by omega
          clear hset1 hset2 hg1 hT1 hT2 hx hy hx2 hy2 hq1 hq2
          go_wp2_with fail
          refine (HQ1.out _).mono ?_
          rintro r wq ⟨rfl, rfl⟩
          go_wp2_with fail
          refine (HQ2.out _).mono ?_
          rintro r wq ⟨rfl, rfl⟩
          go_wp2_with fail
          go_roundw
          case rel => exact ⟨k + 1, hlt, by go_num, by exact bk_, by exact bk_, by exact bk_, by rw [← HSET1.out]; exact bk_, by rw [← HSET2.out]; exact bk_, by exact bl_, by exact sz_⟩
          case measure => simp [intOf]; omega
        · obtain rfl : k = 16 := by omega
          rw [turnL_all HGL.out HOL.out] at hN
          rw [turnL_all HHL.out hz16] at hS
          have LHZ : Len (H ++ Z) 38 := Len.mk (by rw [List.length_append, HHL.out, HZL.out])
          obtain ⟨Y, hY⟩ : ∃ Y, H ++ Z = Y := ⟨_, rfl⟩
          rw [hY] at hS LHZ
          have HYY := Lib.hid hY
          clear hY
          go_upto_region 14 with (fail)
          refine wp_region_held_drew (S := fun W => Blk W (g4) (arrV G) 22 ∧ Blk W (g5) (arrV Y) 25 ∧ Below (B) w W ∧ g5 + 1 ≤ W.heap.size) (by kernel_rfl) (⟨hN.drew, hS.drew, hfar.drew, hsz⟩) (fun hH => ?_)
          have hH2 := hH
          obtain ⟨hN, hS, hfar, hsz⟩ := hH2
          refine wpAnyH_take (i := 0) (oi := { dst := some 65, op := Op.load 22 (Operand.tmp 13), type := 22, pos := "ref.go:76", after := _, guard := none }) (v := .agg (arrV G)) rfl (by kernel_rfl) (by kernel_rfl) (by kernel_rfl) (fun _ _ _ h => h) (yieldsIf_ld (by rfl) 22 rfl w_Sixteen rfl (fun _ hS => hS.1) zz_) hH ?_
          try simp only [Act.put, List.setIfInBounds_toArray, List.set_cons_zero, List.set_cons_succ]
          refine wpAnyH_take (i := 1) (oi := { dst := some 66, op := Op.load 25 (Operand.tmp 15), type := 25, pos := "ref.go:76", after := _, guard := none }) (v := .agg (arrV Y)) rfl (by kernel_rfl) (by kernel_rfl) (by kernel_rfl) (fun _ _ _ h => h) (yieldsIf_ld (by rfl) 25 rfl w_RState rfl (fun _ hS => hS.2.1) zz_) hH ?_
          try simp only [Act.put, List.setIfInBounds_toArray, List.set_cons_zero, List.set_cons_succ]
          refine wpAnyH_ready (rs := [2]) (by kernel_rfl) (by simp) ?_
          refine AllReadyH.cons (o := { dst := none, op := Op.store 22 (Operand.tmp 8) (Operand.tmp 65), type := 0, pos := "ref.go:76", after := _, guard := none }) rfl (fun K hK => ?_) AllReadyH.nil
          rw [if_pos (by rfl)]
          refine wp_st 22 rfl w_Sixteen rfl rfl bk_ zz_ zz_ one_ ?_
          refine hK.out _ _ ⟨bk_, bk_, bl_, sz_⟩ (fun hH2 => ?_)
          clear hH
          have hH := hH2
          obtain ⟨hN, hS, hfar, hsz⟩ := hH2
          clear hK K
          try simp only [Act.put]
          refine wpAnyH_ready (rs := [3]) (by kernel_rfl) (by simp) ?_
          refine AllReadyH.cons (o := { dst := none, op := Op.store 25 (Operand.tmp 9) (Operand.tmp 66), type := 0, pos := "ref.go:76", after := _, guard := none }) rfl (fun K hK => ?_) AllReadyH.nil
          rw [if_pos (by rfl)]
          refine wp_st 25 rfl w_RState rfl rfl bk_ zz_ zz_ one_ ?_
          refine hK.out _ _ ⟨bk_, bk_, bl_, sz_⟩ (fun hH2 => ?_)
          clear hH
          have hH := hH2
          obtain ⟨hN, hS, hfar, hsz⟩ := hH2
          clear hK K
          try simp only [Act.put]
          refine wpAnyH_done (by kernel_rfl) ?_ _
          go_wp2_with fail
          exact bodyPost_ret (v := .tuple #[.agg (arrV G), .agg (arrV Y)]) (res_cc Tryz.results57 rfl w_Sixteen (by exact bk_) LG.sz rfl w_RState (by exact bk_) LHZ.sz) rfl ⟨by rw [HYY.out], (by (try rw [hB]); exact bl_)⟩
end Go.Proofs.YtmfihaaiddolmaaGreatDoor

namespace Go.Proofs.YtmfihaaiddolmaaGreatDoor
open Go.RowKit

def costT : List Int := (List.range 36).map fun i => ((costB (i / 9) (i % 9) : Nat) : Int)
theorem costT_len : costT.length = 36 := by simp [costT]
theorem costT_get {n k : Nat} (hn : n < 4) (hk : k < 9) : costT.getD (n * 9 + k) 0 = (costB n k : Nat) := by
  unfold costT
  rw [List.getD_eq_getElem?_getD, List.getElem?_map, List.getElem?_range (by omega)]
  show ((costB ((n * 9 + k) / 9) ((n * 9 + k) % 9) : Nat) : Int) = _
  rw [show (n * 9 + k) / 9 = n by omega, show (n * 9 + k) % 9 = k by omega]
theorem tot4_blk {W : World} {g : Nat} {ks : List Int} {t : TypeId} (h : Blk W g (arrV ks) t) (hk : ks.length = 4) : tot4 W g = tot ks := by
  have e : ∀ i, i < 4 → numAt W g i = ks.getD i 0 := fun i hi => by
    unfold numAt
    rw [h.cell i, arr_get (by omega)]
  unfold tot4 tot
  rw [e 0 (by omega), e 1 (by omega), e 2 (by omega), e 3 (by omega)]
theorem best_price (ls ks : List Int) (bits : Int) (n : Nat) : 0 ≤ (pbest ls ks bits n).1 → (pbest ls ks bits n).2 = (costB (pbest ls ks bits n).1.toNat (ks.getD (pbest ls ks bits n).1.toNat 0 + 1).toNat : Int) - (costB (pbest ls ks bits n).1.toNat (ks.getD (pbest ls ks bits n).1.toNat 0).toNat : Int) := by
  induction n with
  | zero => intro h; simp [pbest] at h
  | succ n ih =>
    rw [pbest_next]
    unfold pstep
    split
    · exact ih
    · split
      · intro _; simp only [Int.toNat_natCast]
      · exact ih
theorem w_Four2 : Whole 23 4 := w_Four
set_option maxRecDepth 100000 in
set_option maxHeartbeats 8000000 in
theorem RPulses_any (ls : List Int) (hL : LevelsOk ls) (bits : Int) (h0 : 0 ≤ bits) (h1 : bits ≤ 1000000) (w : World) : Calls Tryz.prog 49 #[.agg (arrV ls), .int .i64 bits] w fun e w' => e = .returned (.agg (arrV (pulses ls 33 [0, 0, 0, 0] bits))) ∧ Below w.heap.size w w' := by
  obtain ⟨R, hR⟩ : ∃ R, pulses ls 33 [0, 0, 0, 0] bits = R := ⟨_, rfl⟩
  rw [hR]
  have HR := Lib.hid hR
  clear hR
  have LL := Len.mk hL.1
  obtain ⟨B, hB⟩ : ∃ B, w.heap.size = B := ⟨_, rfl⟩
  have hfar := Below.refl B w
  have hsz : B ≤ w.heap.size := by omega
  have hT0 : arrV (zs 36) = arrV (List.replicate 36 0) := rfl
  go_enter Tryz.func49, Tryz.ntmps49
  go_upto_region 2 with (fail)
  refine wp_gen (fun W => Blk W B (arrV ls) 23 ∧ Blk W (B + 1) (arrV (zs 4)) 23 ∧ Blk W (B + 2) (arrV (zs 36)) 137 ∧ Below B w W ∧ B + 3 ≤ W.heap.size) ⟨bk_, bk_, ?tab, bl_, sz_⟩ ?_
  case tab => exact Blk.mk_eq (Blk.newAt (by simp; omega)) (by kernel_rfl)
  clear hfar hsz hT0
  rintro w1 ⟨hLv, hRs, hT, hfar, hsz⟩
  go_wp2_with fail
  have hz36 : (zs 36).length = 36 := by simp [zs]
  go_loopw [6] (fun i wr => ∃ b : Nat, b ≤ 4 ∧ i = .int .i64 b ∧ Blk wr B (arrV ls) 23 ∧ Blk wr (B + 1) (arrV (zs 4)) 23 ∧ Blk wr (B + 2) (arrV (turnL costT (zs 36) (b * 9))) 137 ∧ Below B w wr ∧ B + 3 ≤ wr.heap.size) (fun i _ => 4 - (intOf i).toNat)
  case atStart => exact ⟨0, by omega, rfl, hLv, hRs, by rw [Nat.zero_mul, turnL_zero]; exact hT, hfar, hsz⟩
  case round =>
    clear hLv hRs hT hfar hsz
    obtain ⟨b, hb4, rfl, hLv, hRs, hT, hfar, hsz⟩ := hrel
    by_cases hblt : b < 4
    · have hbi : (b : Int) < 4 := by omega
      go_wp2_with fail
      go_loopw [7] (fun i wr => ∃ k : Nat, k ≤ 9 ∧ i = .int .i64 k ∧ Blk wr B (arrV ls) 23 ∧ Blk wr (B + 1) (arrV (zs 4)) 23 ∧ Blk wr (B + 2) (arrV (turnL costT (zs 36) (b * 9 + k))) 137 ∧ Below B w wr ∧ B + 3 ≤ wr.heap.size) (fun i _ => 9 - (intOf i).toNat)
      case atStart => exact ⟨0, by omega, rfl, hLv, hRs, hT, hfar, hsz⟩
      case round =>
        clear hLv hRs hT hfar hsz
        obtain ⟨k, hk9, rfl, hLv, hRs, hT, hfar, hsz⟩ := hrel
        by_cases hklt : k < 9
        · have hki : (k : Int) < 9 := by omega
          have hcost := fun w => RCost_any b k hblt (by omega) w
          have hset := turnL_set (k := b * 9 + k) costT_len hz36 (by omega) (costT_get hblt hklt)
          have LT := turnL_len (k := b * 9 + k) costT_len hz36 (by omega)
          obtain ⟨T, hTe⟩ : ∃ T, turnL costT (zs 36) (b * 9 + k) = T := ⟨_, rfl⟩
          rw [hTe] at hset hT LT
          obtain ⟨c, hc⟩ : ∃ c, costB b k = c := ⟨_, rfl⟩
          rw [hc] at hset
          simp only [hc] at hcost
          have HCOST := Lib.hid hcost
          have HSET := Lib.hid hset
          have hidx : b * 9 + k < 36 := by omega
          clear hcost hset hTe hc
          go_upto_region 8 with (fail)
          refine wp_region_held_drew (S := fun W => True) (by kernel_rfl) ⟨⟩ (fun hH => ?_)
          refine wpAnyH_take (i := 0) (oi := { dst := some 20, op := Op.move (Operand.tmp 6), type := 3, pos := "ref.go:31", after := _, guard := none }) (v := _) rfl (by kernel_rfl) (by kernel_rfl) (by kernel_rfl) (fun _ _ _ h => h) (.inl ⟨by rfl, fun w hS => by (go_simp; try rfl)⟩) hH ?_
          try simp only [Act.put, List.setIfInBounds_toArray, List.set_cons_zero, List.set_cons_succ]
          refine wpAnyH_take (i := 1) (oi := { dst := some 21, op := Op.move (Operand.tmp 7), type := 3, pos := "ref.go:31", after := _, guard := none }) (v := _) rfl (by kernel_rfl) (by kernel_rfl) (by kernel_rfl) (fun _ _ _ h => h) (.inl ⟨by rfl, fun w hS => by (go_simp; try rfl)⟩) hH ?_
          try simp only [Act.put, List.setIfInBounds_toArray, List.set_cons_zero, List.set_cons_succ]
          refine wpAnyH_take (i := 2) (oi := { dst := some 22, op := Op.move (Operand.tmp 6), type := 3, pos := "ref.go:31", after := _, guard := none }) (v := _) rfl (by kernel_rfl) (by kernel_rfl) (by kernel_rfl) (fun _ _ _ h => h) (.inl ⟨by rfl, fun w hS => by (go_simp; try rfl)⟩) hH ?_
          try simp only [Act.put, List.setIfInBounds_toArray, List.set_cons_zero, List.set_cons_succ]
          refine wpAnyH_take (i := 3) (oi := { dst := some 23, op := Op.move (Operand.tmp 7), type := 3, pos := "ref.go:31", after := _, guard := none }) (v := _) rfl (by kernel_rfl) (by kernel_rfl) (by kernel_rfl) (fun _ _ _ h => h) (.inl ⟨by rfl, fun w hS => by (go_simp; try rfl)⟩) hH ?_
          try simp only [Act.put, List.setIfInBounds_toArray, List.set_cons_zero, List.set_cons_succ]
          refine wpAnyH_take (i := 5) (oi := { dst := some 25, op := Op.indexAddr 137 (Operand.tmp 5) (Operand.tmp 20), type := 0, pos := "ref.go:31", after := _, guard := none }) (v := _) rfl (by kernel_rfl) (by kernel_rfl) (by kernel_rfl) (fun _ _ _ h => h) (.inl ⟨by rfl, fun w hS => by (go_simp; try rfl)⟩) hH ?_
          try simp only [Act.put, List.setIfInBounds_toArray, List.set_cons_zero, List.set_cons_succ]
          refine wpAnyH_ready (rs := [4]) (by kernel_rfl) (by simp) ?_
          refine AllReadyH.cons (o := { dst := some 24, op := Op.call { callee := Callee.value (Operand.func 51), args := #[Operand.tmp 22, Operand.tmp 23], argTypes := #[3, 3] }, type := 3, pos := "ref.go:31", after := _, guard := none }) rfl (fun K hK => ?_) AllReadyH.nil
          rw [if_pos (by rfl)]
          go_simp
          refine (HCOST.out _).mono ?_
          rintro r wq ⟨rfl, hb⟩
          have hbs := hb.size
          try simp only [World.size_alloc, World.size_setCell, World.size_drew, size_setRow] at hbs
          have hTq := hT.drew.newB hb
          have f1 := hTq.frozen (b * 9 + k)
          have c1 := (hTq.cell (b * 9 + k)).trans (arr_get (l := T) (by have := LT.out; omega))
          go_wp2_with fail
          refine hK.out _ _ trivial (fun hH => ?_)
          clear hK K
          try simp only [Act.put, List.setIfInBounds_toArray, List.set_cons_zero, List.set_cons_succ]
          refine wpAnyH_take (i := 6) (oi := { dst := some 26, op := Op.indexAddr 136 (Operand.tmp 25) (Operand.tmp 21), type := 0, pos := "ref.go:31", after := _, guard := none }) (v := _) rfl (by kernel_rfl) (by kernel_rfl) (by kernel_rfl) (fun _ _ _ h => h) (.inl ⟨by rfl, fun w hS => by (go_simp; try rfl)⟩) hH ?_
          try simp only [Act.put, List.setIfInBounds_toArray, List.set_cons_zero, List.set_cons_succ]
          refine wpAnyH_ready (rs := [7]) (by kernel_rfl) (by simp) ?_
          refine AllReadyH.cons (o := { dst := none, op := Op.store 3 (Operand.tmp 26) (Operand.tmp 24), type := 0, pos := "ref.go:31", after := _, guard := none }) rfl (fun K hK => ?_) AllReadyH.nil
          rw [if_pos (by rfl)]
          go_simp
          refine hK.out _ _ trivial (fun hH => ?_)
          clear hK K
          try simp only [Act.put]
          refine wpAnyH_done (by kernel_rfl) ?_ _
          go_wp2_with fail
          go_roundw
          case rel => exact ⟨k + 1, hklt, by go_num, by exact bk_, by exact bk_, by rw [show b * 9 + (k + 1) = b * 9 + k + 1 by omega, ← HSET.out]; exact bk_, by exact bl_, by exact sz_⟩
          case measure => simp [intOf]; omega
        · obtain rfl : k = 9 := by omega
          go_wp2_with fail
          go_roundw
          case rel => exact ⟨b + 1, hblt, by go_num, hLv, hRs, by rw [Nat.succ_mul]; exact hT, hfar, hsz⟩
          case measure => simp [intOf]; omega
    · have hbe : (b : Int) = 4 := by omega
      have hbn4 : b = 4 := by omega
      rw [hbn4, show 4 * 9 = 36 from rfl, turnL_all costT_len hz36] at hT
      simp only [hbe]
      clear hbe hbn4 hb4 hblt b
      obtain ⟨g, hg⟩ : ∃ x, wr.heap.size = x := ⟨_, rfl⟩
      have hBg : B + 3 ≤ g := by omega
      go_upto_region 10 with (fail)
      refine wp_gen (fun W => Blk W (B) (arrV ls) 23 ∧ Blk W (B + 1) (arrV (zs 4)) 23 ∧ Blk W (B + 2) (arrV costT) 137 ∧ Blk W (g) (arrV (zs 4)) 23 ∧ Below (B) w W ∧ g + 1 ≤ W.heap.size) ⟨bk_, bk_, bk_, bk_, bl_, sz_⟩ ?_
      clear hLv hRs hT hfar hsz
      rintro w2 ⟨hLv, hRs, hT, hK, hfar, hsz⟩
      have hPO : PulsesOk [0, 0, 0, 0] := ⟨rfl, fun k hk => by
        have hk4 : k = 0 ∨ k = 1 ∨ k = 2 ∨ k = 3 := by omega
        rcases hk4 with rfl | rfl | rfl | rfl <;> simp⟩
      have HPO := Lib.hid hPO
      clear hPO
      go_loopw [1] (fun bv wr => ∃ (f : Nat) (ks : List Int) (bt : Int), bv = .int .i64 bt ∧ 0 ≤ bt ∧ bt ≤ 2000000 ∧ Hid (PulsesOk ks) ∧ Hid ((f : Int) + tot ks = 33) ∧ Hid (bt + 20 * f ≤ 1000700) ∧ Hid (pulses ls f ks bt = R) ∧ Blk wr B (arrV ls) 23 ∧ Blk wr (B + 1) (arrV (zs 4)) 23 ∧ Blk wr (B + 2) (arrV costT) 137 ∧ Blk wr g (arrV ks) 23 ∧ Below B w wr ∧ g + 1 ≤ wr.heap.size) (fun _ wr => (40 - tot4 wr g).toNat)
      case atStart => exact ⟨33, [0, 0, 0, 0], bits, rfl, h0, by omega, HPO, Lib.hid (by simp [tot]), Lib.hid (by omega), HR, hLv, hRs, hT, hK, hfar, hsz⟩
      case round =>
        clear hLv hRs hT hK hfar hsz
        obtain ⟨f, ks, bt, rfl, hbt0, hbt1, HK, HT, HB, HRR, hLw, hRw, hTw, hKw, hfar, hsz⟩ := hrel
        have hbest := fun n (hn : n ≤ 4) => best_ok ls ks bt HK.out n hn
        have HBE := Lib.hid hbest
        have HM0 := Lib.hid (tot4_blk hKw HK.out.1)
        clear hbest
        go_wp2_with fail
        go_loopw [9, 10] (fun pv nv wr => ∃ n : Nat, n ≤ 4 ∧ pv = .int .i64 (pbest ls ks bt n).1 ∧ nv = .int .i64 n ∧ Blk wr B (arrV ls) 23 ∧ Blk wr (B + 1) (arrV (zs 4)) 23 ∧ Blk wr (B + 2) (arrV costT) 137 ∧ Blk wr g (arrV ks) 23 ∧ Below B w wr ∧ g + 1 ≤ wr.heap.size) (fun _ nv _ => 4 - (intOf nv).toNat)
        case atStart => exact ⟨0, by omega, rfl, rfl, hLw, hRw, hTw, hKw, hfar, hsz⟩
        case round =>
          clear hLw hRw hTw hKw hfar hsz
          obtain ⟨n, hn, rfl, rfl, hLw, hRw, hTw, hKw, hfar, hsz⟩ := hrel
          have hbe := HBE.out n hn
          have hbest4 := HBE.out 4 (by omega)
          by_cases hlt : n < 4
          · obtain ⟨l0, l1⟩ := hL.get hlt
            obtain ⟨k0, k8⟩ := HK.out.2 n hlt
            have hni : (n : Int) < 4 := by omega
            have hnx := pbest_next ls ks bt n
            obtain ⟨p, hp⟩ : ∃ p, pbest ls ks bt n = p := ⟨_, rfl⟩
            rw [hp] at hbe hnx ⊢
            obtain ⟨best, price⟩ := p
            obtain ⟨b0, b1, b2, b3, b4⟩ := hbe
            simp only at b0 b1 b2 b3 b4
            obtain ⟨kk, hkk⟩ : ∃ kk : Nat, ks.getD n 0 = kk := ⟨(ks.getD n 0).toNat, by omega⟩
            obtain ⟨lv, hlv⟩ : ∃ lv, ls.getD n 0 = lv := ⟨_, rfl⟩
            have y0 := (hKw.cell n).trans (by rw [arr_get (by rw [HK.out.1]; exact hlt), hkk])
            have y3 := (hLw.cell n).trans (by rw [arr_get (by rw [hL.1]; exact hlt), hlv])
            rw [hkk] at k0 k8
            rw [hlv] at l0 l1
            obtain ⟨Bb, hB4, hBB⟩ : ∃ B : Nat, B < 4 ∧ (0 ≤ best → best = (B : Int)) := ⟨if 0 ≤ best then best.toNat else 0, by split <;> omega, fun h => by rw [if_pos h]; omega⟩
            obtain ⟨kB, hkB⟩ : ∃ kB, ks.getD Bb 0 = kB := ⟨_, rfl⟩
            obtain ⟨lB, hlB⟩ : ∃ lB, ls.getD Bb 0 = lB := ⟨_, rfl⟩
            have kB8 := HK.out.2 Bb hB4
            have lB20 := hL.get hB4
            rw [hkB] at kB8
            rw [hlB] at lB20
            have y1 := (hKw.cell Bb).trans (by rw [arr_get (by rw [HK.out.1]; exact hB4), hkB])
            have y2 := (hLw.cell Bb).trans (by rw [arr_get (by rw [hL.1]; exact hB4), hlB])
            unfold pstep at hnx
            simp only [hlv, hkk] at hnx
            by_cases hl0 : lv = 0
            · subst hl0
              rw [if_pos (.inl rfl)] at hnx
              have HNX := Lib.hid hnx
              clear hnx b2 b3 hbest4 HB HBE y0 y1 y2
              go_wp2_with fail
              go_quiet (fail)
              go_wp2_with fail
              go_roundw
              case rel => exact ⟨n + 1, hlt, by rw [HNX.out], by go_num, hLw.drewN _, hRw.drewN _, hTw.drewN _, hKw.drewN _, belowNN hfar _, hsz⟩
              case measure => simp [intOf]; omega
            have hl0' : 0 < lv := by omega
            by_cases hk8 : kk = 8
            · subst hk8
              rw [if_pos (.inr (.inl rfl))] at hnx
              have HNX := Lib.hid hnx
              clear hnx b2 b3 hbest4 HB HBE y1 y2
              go_wp2_with fail
              go_quiet (fail)
              go_wp2_with fail
              go_roundw
              case rel => exact ⟨n + 1, hlt, by rw [HNX.out], by go_num, hLw.drewN _, hRw.drewN _, hTw.drewN _, hKw.drewN _, belowNN hfar _, hsz⟩
              case measure => simp [intOf]; omega
            have hk8' : (kk : Int) < 8 := by omega
            have w1 : IntKind.i64.wrap (2 * lv) = 2 * lv := IntWalk.i64_in _ (by omega)
            have w2 : IntKind.i64.wrap (3 * (kk : Int)) = 3 * (kk : Int) := IntWalk.i64_in _ (by omega)
            have w3 : IntKind.i64.wrap (2 * lv - 3 * (kk : Int)) = 2 * lv - 3 * (kk : Int) := IntWalk.i64_in _ (by omega)
            have w4 : IntKind.i64.wrap (2 * lB) = 2 * lB := IntWalk.i64_in _ (by omega)
            have w5 : IntKind.i64.wrap (3 * kB) = 3 * kB := IntWalk.i64_in _ (by omega)
            have w6 : IntKind.i64.wrap (2 * lB - 3 * kB) = 2 * lB - 3 * kB := IntWalk.i64_in _ (by omega)
            obtain ⟨k1, hk1⟩ : ∃ k1, kk + 1 = k1 := ⟨_, rfl⟩
            have hki : (kk : Int) + 1 = (k1 : Int) := by omega
            have hk1n : ((kk : Int) + 1).toNat = k1 := by omega
            rw [hk1n, Int.toNat_natCast] at hnx
            have hc1 := costB_bd (b := n) (k := k1) hlt (by omega)
            have hc0 := costB_bd (b := n) (k := kk) hlt (by omega)
            have z1 := (hTw.cell (n * 9 + k1)).trans (by rw [arr_get (by rw [costT_len]; omega), costT_get hlt (by omega)])
            have z0 := (hTw.cell (n * 9 + kk)).trans (by rw [arr_get (by rw [costT_len]; omega), costT_get hlt (by omega)])
            obtain ⟨c1, hc1'⟩ : ∃ c, costB n k1 = c := ⟨_, rfl⟩
            obtain ⟨c0, hc0'⟩ : ∃ c, costB n kk = c := ⟨_, rfl⟩
            rw [hc1'] at hc1 hnx z1
            rw [hc0'] at hc0 hnx z0
            have hk19 : (k1 : Int) < 9 := by omega
            have hkk9 : (kk : Int) < 9 := by omega
            clear hc1' hc0' hk1n hbest4 HB HBE
            have w8 : IntKind.i64.wrap (k1 : Int) = (k1 : Int) := IntWalk.i64_in _ (by omega)
            have w7 : IntKind.i64.wrap ((c1 : Int) - (c0 : Int)) = (c1 : Int) - (c0 : Int) := IntWalk.i64_in _ (by omega)
            by_cases hpay : (c1 : Int) - (c0 : Int) ≤ bt
            · have e9 : decide ((c1 : Int) - (c0 : Int) ≤ bt) = true := by simpa using hpay
              rw [if_pos hpay] at hnx
              by_cases hbn : best < 0
              · have e3 : decide (best < 0) = true := by simpa using hbn
                rw [if_neg (by omega)] at hnx
                have HNX := Lib.hid hnx
                clear hnx b2 b3 hBB y1 y2
                go_wp2_with fail
                go_quiet (fail)
                go_wp2_with fail
                go_quiet (fail)
                go_wp2_with fail
                go_roundw
                case rel => exact ⟨n + 1, hlt, by rw [HNX.out], by go_num, hLw.drewN _, hRw.drewN _, hTw.drewN _, hKw.drewN _, belowNN hfar _, hsz⟩
                case measure => simp [intOf]; omega
              · obtain rfl := hBB (by omega)
                rw [Int.toNat_natCast, hkB, hlB] at hnx
                have hB0 : decide ((Bb : Int) < 0) = false := by simp
                have hBi : (Bb : Int) < 4 := by omega
                by_cases hcmp : 2 * lv - 3 * (kk : Int) ≤ 2 * lB - 3 * kB
                · have e4 : decide (2 * lB - 3 * kB < 2 * lv - 3 * (kk : Int)) = false := by simp; omega
                  rw [if_pos (.inr (.inr ⟨by omega, hcmp⟩))] at hnx
                  have HNX := Lib.hid hnx
                  clear hnx b2 b3 hBB
                  go_wp2_with fail
                  go_quiet (fail)
                  go_wp2_with fail
                  go_quiet (fail)
                  go_wp2_with fail
                  go_roundw
                  case rel => exact ⟨n + 1, hlt, by rw [HNX.out], by go_num, hLw.drewN _, hRw.drewN _, hTw.drewN _, hKw.drewN _, belowNN hfar _, hsz⟩
                  case measure => simp [intOf]; omega
                · have e4 : decide (2 * lB - 3 * kB < 2 * lv - 3 * (kk : Int)) = true := by simp; omega
                  rw [if_neg (by omega)] at hnx
                  have HNX := Lib.hid hnx
                  clear hnx b2 b3 hBB
                  go_wp2_with fail
                  go_quiet (fail)
                  go_wp2_with fail
                  go_quiet (fail)
                  go_wp2_with fail
                  go_roundw
                  case rel => exact ⟨n + 1, hlt, by rw [HNX.out], by go_num, hLw.drewN _, hRw.drewN _, hTw.drewN _, hKw.drewN _, belowNN hfar _, hsz⟩
                  case measure => simp [intOf]; omega
            · have e9 : decide ((c1 : Int) - (c0 : Int) ≤ bt) = false := by simpa using hpay
              rw [if_neg hpay] at hnx
              have hnx2 : pbest ls ks bt (n + 1) = (best, price) := by rw [hnx]; split <;> rfl
              have HNX := Lib.hid hnx2
              clear hnx hnx2 b2 b3 hBB y1 y2
              go_wp2_with fail
              go_quiet (fail)
              go_wp2_with fail
              go_quiet (fail)
              go_wp2_with fail
              go_roundw
              case rel => exact ⟨n + 1, hlt, by rw [HNX.out], by go_num, hLw.drewN _, hRw.drewN _, hTw.drewN _, hKw.drewN _, belowNN hfar _, hsz⟩
              case measure => simp [intOf]; omega
          · have hne : (n : Int) = 4 := by omega
            have hn4 : n = 4 := by omega
            subst hn4
            have htb := tot_bd HK.out
            have ht := HT.out
            obtain ⟨f, rfl⟩ : ∃ j, f = j + 1 := ⟨f - 1, by omega⟩
            have hr := HRR.out
            rw [pulses] at hr
            have hpr := best_price ls ks bt 4
            obtain ⟨p, hp⟩ : ∃ p, pbest ls ks bt 4 = p := ⟨_, rfl⟩
            rw [hp] at hbe hr hpr ⊢
            obtain ⟨best, price⟩ := p
            obtain ⟨b0, b1, b2, b3, b4⟩ := hbe
            simp only at b0 b1 b2 b3 b4 hr hpr
            clear hbest4 hp
            by_cases hbn : best < 0
            · rw [if_pos hbn] at hr
              have HR2 := Lib.hid hr
              have LK := Len.mk HK.out.1
              clear hr b2 b3 hpr HBE
              go_wp2_with (first | (refine st 61 rfl (by rfl) w_Entry rfl rfl bk_ zz_ zz_ one_ ?_) | (refine ld 61 rfl (by rfl) w_Entry rfl bk_ zz_ ?_) | (refine bd 35 rfl (by rfl) rfl state_zs ?_) | (refine bd 27 rfl (by rfl) rfl block_zs ?_) | (refine ld 35 rfl (by rfl) w_State rfl bk_ lz_ ?_) | (refine ld 27 rfl (by rfl) w_Block rfl bk_ lz_ ?_) | (refine ldp 27 rfl (by rfl) w_Block rfl bk_ ln_ (by omega) ?_) | (refine ld 23 rfl (by rfl) w_Four rfl bk_ lz_ ?_) | (refine ldp 23 rfl (by rfl) w_Four rfl bk_ ln_ (by omega) ?_) | (refine st 35 rfl (by rfl) w_State rfl rfl bk_ lz_ lz_ one_ ?_) | (refine st 27 rfl (by rfl) w_Block rfl rfl bk_ lz_ lz_ one_ ?_) | (refine st 23 rfl (by rfl) w_Four rfl rfl bk_ lz_ lz_ one_ ?_))
              (try rw [Exit.noGoto_ret])
              exact bodyPost_ret (v := .agg (arrV ks)) (res_c Tryz.results49 rfl w_Four (by exact bk_) LK.sz) rfl ⟨by rw [HR2.out], by (try rw [hB]); exact bl_⟩
            · rw [if_neg hbn] at hr
              obtain ⟨Bb, rfl⟩ : ∃ B : Nat, best = B := ⟨best.toNat, by omega⟩
              rw [Int.toNat_natCast] at hr b2 hpr
              obtain ⟨b5, _⟩ := b2 (by omega)
              have b6 := b3 (by omega)
              have hprice := hpr (by omega)
              have hB4 : Bb < 4 := by omega
              have kB8 := HK.out.2 Bb hB4
              have hts := tot_set HK.out.1 hB4
              have hpk := pulsesOk_set HK.out hB4 b5
              obtain ⟨kn, hkn⟩ : ∃ kn : Nat, ks.getD Bb 0 = kn := ⟨(ks.getD Bb 0).toNat, by omega⟩
              rw [hkn] at hr b5 kB8 hts hpk hprice
              obtain ⟨k1, hk1⟩ : ∃ k1, kn + 1 = k1 := ⟨_, rfl⟩
              have hki : (kn : Int) + 1 = (k1 : Int) := by omega
              have hk1n : ((kn : Int) + 1).toNat = k1 := by omega
              rw [hk1n, Int.toNat_natCast] at hprice
              rw [hki] at hr hts hpk
              have hc1 := costB_bd (b := Bb) (k := k1) hB4 (by omega)
              have hc0 := costB_bd (b := Bb) (k := kn) hB4 (by omega)
              have z1 := (hTw.cell (Bb * 9 + k1)).trans (by rw [arr_get (by rw [costT_len]; omega), costT_get hB4 (by omega)])
              have z0 := (hTw.cell (Bb * 9 + kn)).trans (by rw [arr_get (by rw [costT_len]; omega), costT_get hB4 (by omega)])
              obtain ⟨c1, hc1'⟩ : ∃ c, costB Bb k1 = c := ⟨_, rfl⟩
              obtain ⟨c0, hc0'⟩ : ∃ c, costB Bb kn = c := ⟨_, rfl⟩
              rw [hc1'] at hc1 hprice z1
              rw [hc0'] at hc0 hprice z0
              have y1 := (hKw.cell Bb).trans (by rw [arr_get (by rw [HK.out.1]; exact hB4), hkn])
              have f1 := hKw.frozen Bb
              have hk2 : Blk (wr.setCell ⟨g, Bb, none⟩ (.int .i64 (k1 : Int))) g (arrV (ks.set Bb k1)) 23 := hKw.setI Bb k1
              have hm2 := tot4_blk hk2 hpk.1
              have HR2 := Lib.hid hr
              have HPK := Lib.hid hpk
              have HM2 := Lib.hid hm2
              have HTS := Lib.hid hts
              have hb := HB.out
              have hBi : (Bb : Int) < 4 := by omega
              have hB0 : decide ((Bb : Int) < 0) = false := by simp
              have hk19 : (k1 : Int) < 9 := by omega
              have hkn9 : (kn : Int) < 9 := by omega
              have w8 : IntKind.i64.wrap (k1 : Int) = (k1 : Int) := IntWalk.i64_in _ (by omega)
              have w1 : IntKind.i64.wrap (bt - (c1 : Int)) = bt - (c1 : Int) := IntWalk.i64_in _ (by omega)
              have w2 : IntKind.i64.wrap (bt - (c1 : Int) + (c0 : Int)) = bt - (c1 : Int) + (c0 : Int) := IntWalk.i64_in _ (by omega)
              clear hr hpk hts hm2 hk2 b2 b3 hpr hc1' hc0' hk1n HBE
              go_wp2_with fail
              go_quiet (fail)
              go_wp2_with fail
              go_roundw
              case rel => exact ⟨f, ks.set Bb k1, bt - price, by rw [hprice]; congr 1; omega, by omega, by omega, HPK, Lib.hid (by rw [HTS.out]; omega), Lib.hid (by omega), HR2, by exact bk_, by exact bk_, by exact bk_, (hKw.drewN _).setI Bb k1, belowNN hfar _ |>.setCell (p := ⟨g, Bb, none⟩) (by show B ≤ g; omega) _, (by rw [World.size_setCell]; exact hsz)⟩
              case measure =>
                show (40 - tot4 (wr.setCell ⟨g, Bb, none⟩ (.int .i64 (k1 : Int))) g).toNat < (40 - tot4 _ g).toNat
                rw [HM2.out, HM0.out, HTS.out]
                omega
end Go.Proofs.YtmfihaaiddolmaaGreatDoor
