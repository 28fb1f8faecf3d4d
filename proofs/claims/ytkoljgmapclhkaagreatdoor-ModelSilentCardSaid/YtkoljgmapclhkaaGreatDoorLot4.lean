/- The walk of mdct.Over: frames laid over one another. The walk of state.Next: the sound of a frame, and the state then. Plain laws of a packet decoded: what is in its bounds. -/
import Derived.Test.YtkoljgmapclhkaaGreatDoorLot3
import Derived.Test.YtkoljgmapclhkaaGreatDoorLot2
set_option linter.unusedSimpArgs false
set_option linter.unusedVariables false
namespace Go.Proofs.YtkoljgmapclhkaaGreatDoor
open Go.RowKit

theorem cut32_bd (x : Int) : -2147483648 ≤ Sp.cut 32 x ∧ Sp.cut 32 x ≤ 2147483647 := by
  have e : Sp.cut 32 x = max (min x 2147483647) (-2147483648) := rfl
  rw [e]; omega
structure OverW (w wr : World) (B : Nat) (a b : List Int) (F : Nat → Int) (k : Nat) : Prop where
  a : Blk wr B (arrV a) 26
  b : Blk wr (B + 1) (arrV b) 26
  res : Blk wr (B + 2) (arrV (List.replicate 16 0)) 26
  out : Blk wr (B + 3) (arrV (filled F 16 k)) 26
  far : Below B w wr
theorem OverW.drew {w wr : World} {B : Nat} {a b : List Int} {F : Nat → Int} {k : Nat} (h : OverW w wr B a b F k) : OverW w wr.drew B a b F k := ⟨h.a.drew, h.b.drew, h.res.drew, h.out.drew, h.far.drew⟩
theorem OverW.put {w wr : World} {B : Nat} {a b : List Int} {F : Nat → Int} {k : Nat} (h : OverW w wr B a b F k) (x : Int) (hx : x = F k) : OverW w (wr.setCell ⟨B + 3, k, none⟩ (.int .i64 x)) B a b F (k + 1) :=
  ⟨h.a.other (by simp only []; omega) _, h.b.other (by simp only []; omega) _, h.res.other (by simp only []; omega) _, by subst hx; rw [← filled_set, ← arr_set]; exact h.out.set k _, h.far.setCell (by show B ≤ B + 3; omega) _⟩
set_option maxRecDepth 100000 in
set_option maxHeartbeats 1600000 in
theorem Over_any (a b : List Int) (ha : a.length = 16) (hb : b.length = 16) (w : World) : Calls Tryz.prog 70 #[.agg (arrV a), .agg (arrV b)] w fun e w' => e = .returned (.agg (arrV (overL a b))) ∧ Below w.heap.size w w' := by
  obtain ⟨hA, hR1, hR2, hO0, hb0, hs0⟩ := four_new w (arrV a) (arrV b) #[.int .i64 0, .int .i64 0, .int .i64 0, .int .i64 0, .int .i64 0, .int .i64 0, .int .i64 0, .int .i64 0, .int .i64 0, .int .i64 0, .int .i64 0, .int .i64 0, .int .i64 0, .int .i64 0, .int .i64 0, .int .i64 0] #[.int .i64 0, .int .i64 0, .int .i64 0, .int .i64 0, .int .i64 0, .int .i64 0, .int .i64 0, .int .i64 0, .int .i64 0, .int .i64 0, .int .i64 0, .int .i64 0, .int .i64 0, .int .i64 0, .int .i64 0, .int .i64 0] 26 26 26 26
  obtain ⟨B, hB⟩ : ∃ B, w.heap.size = B := ⟨_, rfl⟩
  obtain ⟨F, hF⟩ : ∃ F : Nat → Int, (fun i => Sp.cut 32 (Sp.cut 32 (a.getD i 0) + Sp.cut 32 (b.getD i 0))) = F := ⟨_, rfl⟩
  have hL : filled F 16 16 = overL a b := by rw [filled_all, ← hF]; rfl
  have hFk : ∀ i, Sp.cut 32 (Sp.cut 32 (a.getD i 0) + Sp.cut 32 (b.getD i 0)) = F i := fun i => by rw [← hF]
  have HL := Lib.hid hL
  have HF := Lib.hid hFk
  clear hL hFk hF
  go_enter Tryz.func70, Tryz.ntmps70
  go_upto_region 2 with (fail)
  simp only [hB] at hA hR1 hR2 hO0 hb0 hs0 ⊢
  revert hA hR1 hR2 hO0 hb0 hs0
  generalize ((((w.alloc (.cells (arrV a) 26)).alloc (.cells (arrV b) 26)).alloc (.cells #[.int .i64 0, .int .i64 0, .int .i64 0, .int .i64 0, .int .i64 0, .int .i64 0, .int .i64 0, .int .i64 0, .int .i64 0, .int .i64 0, .int .i64 0, .int .i64 0, .int .i64 0, .int .i64 0, .int .i64 0, .int .i64 0] 26)).alloc (.cells #[.int .i64 0, .int .i64 0, .int .i64 0, .int .i64 0, .int .i64 0, .int .i64 0, .int .i64 0, .int .i64 0, .int .i64 0, .int .i64 0, .int .i64 0, .int .i64 0, .int .i64 0, .int .i64 0, .int .i64 0, .int .i64 0] 26)) = w0
  intro hA hR1 hR2 hO0 hb0 hs0
  rw [zero16] at hR2 hO0
  rw [← filled_zero F] at hO0
  go_wp2_with fail
  go_loopw [7] (fun i wr => ∃ k : Nat, k ≤ 16 ∧ i = .int .i64 k ∧ OverW w wr B a b F k) (fun i _ => 16 - (intOf i).toNat)
  case atStart => exact ⟨0, by omega, rfl, hA, hR1, hR2, hO0, hb0⟩
  case round =>
    obtain ⟨k, hk, rfl, hW⟩ := hrel
    by_cases hlt : k < 16
    · have hfk := HF.out k
      have c1 := (hW.a.cell k).trans (arr_get (by rw [ha]; exact hlt))
      have c2 := (hW.b.cell k).trans (arr_get (by rw [hb]; exact hlt))
      obtain ⟨v0, hv0⟩ := filled_get F 16 k hlt
      have c4 := (hW.out.cell k).trans hv0
      have f4 := hW.out.frozen k
      obtain ⟨x, hx⟩ : ∃ x, a.getD k 0 = x := ⟨_, rfl⟩
      obtain ⟨y, hy⟩ : ∃ y, b.getD k 0 = y := ⟨_, rfl⟩
      rw [hx] at c1 hfk
      rw [hy] at c2 hfk
      have hcx := fun w => Cut32 x w
      have hcy := fun w => Cut32 y w
      have bx := cut32_bd x
      have by' := cut32_bd y
      obtain ⟨p, hp⟩ : ∃ p, Sp.cut 32 x = p := ⟨_, rfl⟩
      obtain ⟨q, hq⟩ : ∃ q, Sp.cut 32 y = q := ⟨_, rfl⟩
      rw [hp] at bx hfk
      rw [hq] at by' hfk
      simp only [hp] at hcx
      simp only [hq] at hcy
      have hcz := fun w => Cut32 (p + q) w
      rw [hfk] at hcz
      obtain ⟨z, hz⟩ : ∃ z, F k = z := ⟨_, rfl⟩
      simp only [hz] at hcz
      have hP := hW.put z hz.symm
      have hwr : IntKind.i64.wrap (p + q) = p + q := IntWalk.i64_in _ (by omega)
      clear hx hy hp hq hfk hz
      have y0 : wr.cell? ⟨B, k, none⟩ = some (.int .i64 x) ∧ wr.cell? ⟨B + 1, k, none⟩ = some (.int .i64 y) := ⟨c1, c2⟩
      go_wp2_with fail
      first | go_region_held3 (fun w' => w'.cell? ⟨B, k, none⟩ = some (.int .i64 x) ∧ w'.cell? ⟨B + 1, k, none⟩ = some (.int .i64 y)) (first | (with_reducible exact y0) | (simp only [World.cell?_drew, World.cell?_drewN]; with_reducible exact y0) | (simp only [World.cell?_drew, World.cell?_drewN]; refine ⟨?_, ?_⟩ <;> (rw [World.cell?_setCell_far _ _ _ _ (by dsimp only; omega)]; first | (with_reducible exact y0.1) | (with_reducible exact y0.2)))) (first | (go_at_call_of 71 x; refine (hcx _).mono ?_; rintro r5 w5 ⟨rfl, rfl⟩) | (go_at_call_of 71 y; refine (hcy _).mono ?_; rintro r5 w5 ⟨rfl, rfl⟩) | (go_at_call_of 71 (p + q); refine (hcz _).mono ?_; rintro r5 w5 ⟨rfl, rfl⟩))
      all_goals
        go_wp2_with fail
        go_roundw
        case rel => exact ⟨k + 1, hlt, by go_num, hP.drew⟩
        case measure => simp [intOf]; omega
    · obtain rfl : k = 16 := by omega
      have hlen : (filled F 16 16).length = 16 := filled_len _ _ _
      obtain ⟨L, hL⟩ : ∃ L, filled F 16 16 = L := ⟨_, rfl⟩
      have HL2 := Lib.hid (HL.out.symm.trans hL)
      have ho := hW.out
      have hr := hW.res
      have hfar := hW.far
      rw [hL] at hlen ho
      have hsz2 : (Tryz.prog.info? 26).map (·.size) = some (arrV L).size := by rw [arr_size, hlen]; exact blockInfo
      have hsz3 : (arrV (List.replicate 16 0)).size = (arrV L).size := by rw [arr_size, arr_size, hlen]; rfl
      clear hL hW
      go_wp2_with (first | (refine wpList_load_blk rfl 26 (.tmp 5) rfl (B + 3) rfl (arrV L) 26 ho Tryz.underlying26 hsz2 ?_) | (refine wpList_store_blk rfl 26 (.tmp 4) (.tmp 23) rfl (B + 2) _ (arrV L) rfl rfl 26 hr hsz2 hsz3 (arr_one _) ?_))
      exact bodyPost_ret (v := .agg (arrV L)) (results_cell_row Tryz.results70 _ _ (B + 2) 26 _ (0, 0) (.array 16 3) rfl hr.setRow Tryz.underlying26 rfl hsz2) rfl ⟨by rw [HL2.out], by rw [hB]; exact Below.setRow hfar (g := B + 2) (by omega) (arrV L)⟩
end Go.Proofs.YtkoljgmapclhkaaGreatDoor

namespace Go.Proofs.YtkoljgmapclhkaaGreatDoor
open Go.RowKit

theorem Blk.rangeAll {W : World} {b : Nat} {L : List Int} {t : TypeId} (h : Blk W b (arrV L) t) : W.rangeAt b 0 (intsV L) := by
  have h2 := h.range 0 L.length (by omega)
  rwa [List.drop_zero, List.take_of_length_le (Nat.le_refl _)] at h2
theorem stateInfo : (Tryz.prog.info? 29).map (·.size) = some 38 := by kernel_rfl
theorem zero38 : ((List.toArray (Value.int .i64 0 :: Value.int .i64 0 :: Value.int .i64 0 :: Value.int .i64 0 :: Value.int .i64 0 :: Value.int .i64 0 :: Value.int .i64 0 :: Value.int .i64 0 :: Value.int .i64 0 :: Value.int .i64 0 :: Value.int .i64 0 :: Value.int .i64 0 :: Value.int .i64 0 :: Value.int .i64 0 :: Value.int .i64 0 :: Value.int .i64 0 :: Value.int .i64 0 :: Value.int .i64 0 :: Value.int .i64 0 :: Value.int .i64 0 :: Value.int .i64 0 :: Value.int .i64 0 :: Value.int .i64 0 :: Value.int .i64 0 :: Value.int .i64 0 :: Value.int .i64 0 :: Value.int .i64 0 :: Value.int .i64 0 :: Value.int .i64 0 :: Value.int .i64 0 :: Value.int .i64 0 :: Value.int .i64 0 :: Value.int .i64 0 :: Value.int .i64 0 :: Value.int .i64 0 :: Value.int .i64 0 :: Value.int .i64 0 :: Value.int .i64 0 :: [])) : Array Value) = arrV (List.replicate 38 0) := by kernel_rfl
theorem mkSt_len {ls wv : List Int} (h1 : ls.length = 4) (h2 : wv.length = 16) (lost : Int) : (mkSt ls wv lost).length = 38 := by simp [mkSt, h1, h2]
set_option maxRecDepth 100000 in
theorem state_places : ∃ it, Tryz.prog.info? 29 = some it ∧ ∃ z, it.zero = some z ∧ z.cells = arrV (List.replicate 38 0) ∧ ∃ fs, Tryz.prog.underlying 29 = some (.struct fs) ∧ fs.toList.mapM (fun f => (Tryz.prog.info? f.type).map fun i => (f.offset, i.size)) = some [(0, 16), (16, 1), (17, 4), (21, 16), (37, 1)] :=
  ⟨_, rfl, _, rfl, by kernel_rfl, _, Tryz.underlying29, by kernel_rfl⟩
set_option maxRecDepth 100000 in
theorem state_built (ls wv : List Int) (h1 : ls.length = 4) (h2 : wv.length = 16) (lost : Int) : Tryz.prog.built 29 [(2, .agg (arrV ls)), (3, .agg (arrV wv)), (4, .int .i64 lost)] = some (arrV (mkSt ls wv lost)) := by
  obtain ⟨it, hi, z, hz, hzc, fs, hu, hp⟩ := state_places
  have l1 : (putL (List.replicate 38 0) 17 ls).length = 38 := by rw [putL_len (by simp [h1])]; simp
  have l2 : (putL (putL (List.replicate 38 0) 17 ls) 21 wv).length = 38 := by rw [putL_len (by rw [l1, h2]; omega), l1]
  rw [built_struct hi hu hz hp, hzc, fill_ints (off := 17) (size := 4) rfl h1 (by simp), fill_ints (off := 21) (size := 16) rfl h2 (by rw [l1]; omega), fill_int (off := 37) rfl (by rw [l2]; omega)]
  simp only [Instr.fill]
  congr 2
  unfold mkSt
  match ls, h1 with
  | [a, b, c, d], _ =>
    match wv, h2 with
    | [x0, x1, x2, x3, x4, x5, x6, x7, x8, x9, x10, x11, x12, x13, x14, x15], _ => rfl
theorem state_zero : Tryz.prog.built 29 [] = some (arrV (List.replicate 38 0)) := by kernel_rfl
theorem block_zero : Tryz.prog.built 26 [] = some (arrV (List.replicate 16 0)) := by kernel_rfl
theorem part_step (A st : List Int) (k : Nat) (hk : k < A.length) (hl : A.length ≤ st.length) : (A.take k ++ st.drop k).set k (A.getD k 0) = A.take (k + 1) ++ st.drop (k + 1) := by
  have hd : st.drop k = st[k]'(by omega) :: st.drop (k + 1) := List.drop_eq_getElem_cons (by omega)
  have ha : A[k]? = some (A.getD k 0) := by rw [List.getD_eq_getElem?_getD, List.getElem?_eq_getElem hk]; rfl
  have hlen : (A.take k).length = k := by rw [List.length_take]; omega
  rw [List.take_add_one, ha, Option.toList_some, List.set_append, if_neg (by omega), hlen, Nat.sub_self, hd, List.set_cons_zero]
  simp
/-- Five blocks, one behind the other. -/
theorem five_new (w : World) (c0 c1 c2 c3 c4 : Array Value) (t0 t1 t2 t3 t4 : TypeId) (W : World) (hW : W = (((((w.alloc (.cells c0 t0)).alloc (.cells c1 t1)).alloc (.cells c2 t2)).alloc (.cells c3 t3)).alloc (.cells c4 t4))) :
    Blk W w.heap.size c0 t0 ∧ Blk W (w.heap.size + 1) c1 t1 ∧ Blk W (w.heap.size + 2) c2 t2 ∧ Blk W (w.heap.size + 3) c3 t3 ∧ Blk W (w.heap.size + 4) c4 t4 ∧ Below w.heap.size w W ∧ W.heap.size = w.heap.size + 5 := by
  subst hW
  obtain ⟨h0, h1, h2, h3, hb, hs⟩ := four_new w c0 c1 c2 c3 t0 t1 t2 t3
  have h4 := Blk.new ((((w.alloc (.cells c0 t0)).alloc (.cells c1 t1)).alloc (.cells c2 t2)).alloc (.cells c3 t3)) c4 t4
  rw [hs] at h4
  exact ⟨h0.alloc _, h1.alloc _, h2.alloc _, h3.alloc _, h4, hb.alloc (by rw [hs]; omega) _, by rw [World.size_alloc, hs]⟩
/-- Memory ahead of the tilt. -/
structure PreW (w W : World) (B g : Nat) (L st l1 l2 : List Int) : Prop where
  a : Blk W B (arrV L) 29
  l1 : Blk W g (arrV l1) 26
  l2 : Blk W (g + 1) (arrV l2) 26
  r1 : Blk W (B + 3) (arrV (List.replicate 16 0)) 26
  r2 : Blk W (B + 4) (arrV (List.replicate 38 0)) 29
  s : Blk W (B + 5) (arrV st) 29
  far : Below B w W
  size : g + 2 ≤ W.heap.size
theorem PreW.drew {w W : World} {B g : Nat} {L st l1 l2 : List Int} (h : PreW w W B g L st l1 l2) : PreW w W.drew B g L st l1 l2 := ⟨h.a.drew, h.l1.drew, h.l2.drew, h.r1.drew, h.r2.drew, h.s.drew, h.far.drew, h.size⟩
theorem PreW.below {w W W' : World} {B g : Nat} {L st l1 l2 : List Int} (h : PreW w W B g L st l1 l2) (hb : Below W.heap.size W W') : PreW w W' B g L st l1 l2 :=
  ⟨h.a.newB hb, h.l1.newB hb, h.l2.newB hb, h.r1.newB hb, h.r2.newB hb, h.s.newB hb, h.far.trans (hb.mono (by have := h.a.lt; omega)), Nat.le_trans h.size hb.size⟩
theorem PreW.alloc {w W : World} {B g : Nat} {L st l1 l2 : List Int} (h : PreW w W B g L st l1 l2) (o : Obj) : PreW w (W.alloc o) B g L st l1 l2 := h.below ((Below.refl _ _).alloc (Nat.le_refl _) _)
theorem PreW.setRow {w W : World} {B g : Nat} {L st l1 l2 : List Int} (h : PreW w W B g L st l1 l2) {g2 : Nat} (hg : B + 6 ≤ g2 ∧ g + 2 ≤ g2) (new : Array Value) : PreW w (W.setRow g2 new) B g L st l1 l2 :=
  ⟨h.a.setRowOther (by omega), h.l1.setRowOther (by omega), h.l2.setRowOther (by omega), h.r1.setRowOther (by omega), h.r2.setRowOther (by omega), h.s.setRowOther (by omega), Below.setRow h.far (by omega) _, by simpa using h.size⟩
theorem PreW.setSt {w W : World} {B g : Nat} {L st l1 l2 : List Int} (h : PreW w W B g L st l1 l2) (hg : B + 6 ≤ g) (k : Nat) (x : Int) : PreW w (W.setCell ⟨B + 5, k, none⟩ (.int .i64 x)) B g L (st.set k x) l1 l2 :=
  ⟨h.a.other (by simp only []; omega) _, h.l1.other (by simp only []; omega) _, h.l2.other (by simp only []; omega) _, h.r1.other (by simp only []; omega) _, h.r2.other (by simp only []; omega) _, by rw [← arr_set]; exact h.s.set k _, h.far.setCell (by show B ≤ B + 5; omega) _, by simpa using h.size⟩
theorem PreW.c16 {w W : World} {B g : Nat} {L st l1 l2 : List Int} (h : PreW w W B g L st l1 l2) (hL : L.length = 38) : W.cell? ⟨B, 16, none⟩ = some (.int .i64 (lastL L)) := (h.a.cell 16).trans (arr_get (l := L) (by omega))
theorem PreW.memR {w W : World} {B g : Nat} {L st l1 l2 : List Int} (h : PreW w W B g L st l1 l2) (hL : L.length = 38) : W.rangeAt B 0 (intsV (memL L)) := by have h2 := h.a.range 0 16 (by omega); simpa [memL] using h2
set_option maxRecDepth 100000 in
set_option maxHeartbeats 1600000 in
theorem Next_any (L ls wv : List Int) (lost : Int) (hL : L.length = 38) (h1 : ls.length = 4) (h2 : wv.length = 16) (w : World) :
    Calls Tryz.prog 35 #[.agg (arrV L), .agg (arrV ls), .agg (arrV wv), .int .i64 lost] w fun e w' => e = .returned (.tuple #[.agg (arrV (if nextOk L ls wv lost = true then soundL (nextO L wv) else List.replicate 16 0)), .agg (arrV (if nextOk L ls wv lost = true then nextSt L ls wv lost else List.replicate 38 0))]) ∧ Below w.heap.size w w' := by
  obtain ⟨O1, hO1⟩ : ∃ O, (if nextOk L ls wv lost = true then soundL (nextO L wv) else List.replicate 16 0) = O := ⟨_, rfl⟩
  obtain ⟨O2, hO2⟩ : ∃ O, (if nextOk L ls wv lost = true then nextSt L ls wv lost else List.replicate 38 0) = O := ⟨_, rfl⟩
  rw [hO1, hO2]
  have HO1 := Lib.hid hO1
  have HO2 := Lib.hid hO2
  clear hO1 hO2
  obtain ⟨W5, hW5⟩ : ∃ W, W = (((((w.alloc (.cells (arrV L) 29)).alloc (.cells (arrV ls) 27)).alloc (.cells (arrV wv) 26)).alloc (.cells #[.int .i64 0, .int .i64 0, .int .i64 0, .int .i64 0, .int .i64 0, .int .i64 0, .int .i64 0, .int .i64 0, .int .i64 0, .int .i64 0, .int .i64 0, .int .i64 0, .int .i64 0, .int .i64 0, .int .i64 0, .int .i64 0] 26)).alloc (.cells (List.toArray (Value.int .i64 0 :: Value.int .i64 0 :: Value.int .i64 0 :: Value.int .i64 0 :: Value.int .i64 0 :: Value.int .i64 0 :: Value.int .i64 0 :: Value.int .i64 0 :: Value.int .i64 0 :: Value.int .i64 0 :: Value.int .i64 0 :: Value.int .i64 0 :: Value.int .i64 0 :: Value.int .i64 0 :: Value.int .i64 0 :: Value.int .i64 0 :: Value.int .i64 0 :: Value.int .i64 0 :: Value.int .i64 0 :: Value.int .i64 0 :: Value.int .i64 0 :: Value.int .i64 0 :: Value.int .i64 0 :: Value.int .i64 0 :: Value.int .i64 0 :: Value.int .i64 0 :: Value.int .i64 0 :: Value.int .i64 0 :: Value.int .i64 0 :: Value.int .i64 0 :: Value.int .i64 0 :: Value.int .i64 0 :: Value.int .i64 0 :: Value.int .i64 0 :: Value.int .i64 0 :: Value.int .i64 0 :: Value.int .i64 0 :: Value.int .i64 0 :: [])) 29)) := ⟨_, rfl⟩
  obtain ⟨hA, hLs, hWv, hR1, hR2, hb0, hs0⟩ := five_new w (arrV L) (arrV ls) (arrV wv) #[.int .i64 0, .int .i64 0, .int .i64 0, .int .i64 0, .int .i64 0, .int .i64 0, .int .i64 0, .int .i64 0, .int .i64 0, .int .i64 0, .int .i64 0, .int .i64 0, .int .i64 0, .int .i64 0, .int .i64 0, .int .i64 0] (List.toArray (Value.int .i64 0 :: Value.int .i64 0 :: Value.int .i64 0 :: Value.int .i64 0 :: Value.int .i64 0 :: Value.int .i64 0 :: Value.int .i64 0 :: Value.int .i64 0 :: Value.int .i64 0 :: Value.int .i64 0 :: Value.int .i64 0 :: Value.int .i64 0 :: Value.int .i64 0 :: Value.int .i64 0 :: Value.int .i64 0 :: Value.int .i64 0 :: Value.int .i64 0 :: Value.int .i64 0 :: Value.int .i64 0 :: Value.int .i64 0 :: Value.int .i64 0 :: Value.int .i64 0 :: Value.int .i64 0 :: Value.int .i64 0 :: Value.int .i64 0 :: Value.int .i64 0 :: Value.int .i64 0 :: Value.int .i64 0 :: Value.int .i64 0 :: Value.int .i64 0 :: Value.int .i64 0 :: Value.int .i64 0 :: Value.int .i64 0 :: Value.int .i64 0 :: Value.int .i64 0 :: Value.int .i64 0 :: Value.int .i64 0 :: Value.int .i64 0 :: [])) 29 27 26 26 29 W5 hW5
  rw [zero16] at hR1
  rw [zero38] at hR2
  obtain ⟨B, hB⟩ : ∃ B, w.heap.size = B := ⟨_, rfl⟩
  have i4 : (Tryz.prog.info? 27).map (·.size) = some (arrV ls).size := by rw [arr_size, h1]; exact fourInfo
  have i16 : (Tryz.prog.info? 26).map (·.size) = some (arrV wv).size := by rw [arr_size, h2]; exact blockInfo
  have i38 : (Tryz.prog.info? 29).map (·.size) = some (intsV L).length := by rw [List.length_map, hL]; exact stateInfo
  have hbuilt := state_built ls wv h1 h2 lost
  have hsl := mkSt_len h1 h2 lost
  have hrL := fun w => Right_any L hL w
  have hrS := fun w => Right_any _ hsl w
  obtain ⟨st, hst⟩ : ∃ st, mkSt ls wv lost = st := ⟨_, rfl⟩
  have hok : nextOk L ls wv lost = (rightS L && rightS st) := by rw [← hst]; rfl
  simp only [hst] at hbuilt hsl hrS
  have HB := Lib.hid hbuilt
  have HRL := Lib.hid hrL
  have HRS := Lib.hid hrS
  have HOK := Lib.hid hok
  have HST := Lib.hid hst
  have ist : (Tryz.prog.info? 29).map (·.size) = some (arrV st).size := by rw [arr_size, hsl]; exact stateInfo
  have kst : ((List.toArray (Value.int .i64 0 :: Value.int .i64 0 :: Value.int .i64 0 :: Value.int .i64 0 :: Value.int .i64 0 :: Value.int .i64 0 :: Value.int .i64 0 :: Value.int .i64 0 :: Value.int .i64 0 :: Value.int .i64 0 :: Value.int .i64 0 :: Value.int .i64 0 :: Value.int .i64 0 :: Value.int .i64 0 :: Value.int .i64 0 :: Value.int .i64 0 :: Value.int .i64 0 :: Value.int .i64 0 :: Value.int .i64 0 :: Value.int .i64 0 :: Value.int .i64 0 :: Value.int .i64 0 :: Value.int .i64 0 :: Value.int .i64 0 :: Value.int .i64 0 :: Value.int .i64 0 :: Value.int .i64 0 :: Value.int .i64 0 :: Value.int .i64 0 :: Value.int .i64 0 :: Value.int .i64 0 :: Value.int .i64 0 :: Value.int .i64 0 :: Value.int .i64 0 :: Value.int .i64 0 :: Value.int .i64 0 :: Value.int .i64 0 :: Value.int .i64 0 :: [])) : Array Value).size = (arrV st).size := by rw [arr_size, hsl]; rfl
  clear hbuilt hrL hrS hok hst
  go_enter Tryz.func35, Tryz.ntmps35
  go_upto_region 1 with (fail)
  simp only [hB] at hA hLs hWv hR1 hR2 hb0 hs0 ⊢
  rw [← hW5]
  clear hW5
  have hN := Blk.new W5 (List.toArray (Value.int .i64 0 :: Value.int .i64 0 :: Value.int .i64 0 :: Value.int .i64 0 :: Value.int .i64 0 :: Value.int .i64 0 :: Value.int .i64 0 :: Value.int .i64 0 :: Value.int .i64 0 :: Value.int .i64 0 :: Value.int .i64 0 :: Value.int .i64 0 :: Value.int .i64 0 :: Value.int .i64 0 :: Value.int .i64 0 :: Value.int .i64 0 :: Value.int .i64 0 :: Value.int .i64 0 :: Value.int .i64 0 :: Value.int .i64 0 :: Value.int .i64 0 :: Value.int .i64 0 :: Value.int .i64 0 :: Value.int .i64 0 :: Value.int .i64 0 :: Value.int .i64 0 :: Value.int .i64 0 :: Value.int .i64 0 :: Value.int .i64 0 :: Value.int .i64 0 :: Value.int .i64 0 :: Value.int .i64 0 :: Value.int .i64 0 :: Value.int .i64 0 :: Value.int .i64 0 :: Value.int .i64 0 :: Value.int .i64 0 :: Value.int .i64 0 :: [])) 29
  rw [hs0] at hN
  have hSt := hN.setRow (new := arrV st)
  have hA1 : Blk ((W5.alloc (.cells (List.toArray (Value.int .i64 0 :: Value.int .i64 0 :: Value.int .i64 0 :: Value.int .i64 0 :: Value.int .i64 0 :: Value.int .i64 0 :: Value.int .i64 0 :: Value.int .i64 0 :: Value.int .i64 0 :: Value.int .i64 0 :: Value.int .i64 0 :: Value.int .i64 0 :: Value.int .i64 0 :: Value.int .i64 0 :: Value.int .i64 0 :: Value.int .i64 0 :: Value.int .i64 0 :: Value.int .i64 0 :: Value.int .i64 0 :: Value.int .i64 0 :: Value.int .i64 0 :: Value.int .i64 0 :: Value.int .i64 0 :: Value.int .i64 0 :: Value.int .i64 0 :: Value.int .i64 0 :: Value.int .i64 0 :: Value.int .i64 0 :: Value.int .i64 0 :: Value.int .i64 0 :: Value.int .i64 0 :: Value.int .i64 0 :: Value.int .i64 0 :: Value.int .i64 0 :: Value.int .i64 0 :: Value.int .i64 0 :: Value.int .i64 0 :: Value.int .i64 0 :: [])) 29)).setRow (B + 5) (arrV st)) B (arrV L) 29 := (hA.alloc _).setRowOther (by omega)
  have hWv1 : Blk ((W5.alloc (.cells (List.toArray (Value.int .i64 0 :: Value.int .i64 0 :: Value.int .i64 0 :: Value.int .i64 0 :: Value.int .i64 0 :: Value.int .i64 0 :: Value.int .i64 0 :: Value.int .i64 0 :: Value.int .i64 0 :: Value.int .i64 0 :: Value.int .i64 0 :: Value.int .i64 0 :: Value.int .i64 0 :: Value.int .i64 0 :: Value.int .i64 0 :: Value.int .i64 0 :: Value.int .i64 0 :: Value.int .i64 0 :: Value.int .i64 0 :: Value.int .i64 0 :: Value.int .i64 0 :: Value.int .i64 0 :: Value.int .i64 0 :: Value.int .i64 0 :: Value.int .i64 0 :: Value.int .i64 0 :: Value.int .i64 0 :: Value.int .i64 0 :: Value.int .i64 0 :: Value.int .i64 0 :: Value.int .i64 0 :: Value.int .i64 0 :: Value.int .i64 0 :: Value.int .i64 0 :: Value.int .i64 0 :: Value.int .i64 0 :: Value.int .i64 0 :: Value.int .i64 0 :: [])) 29)).setRow (B + 5) (arrV st)) (B + 2) (arrV wv) 26 := (hWv.alloc _).setRowOther (by omega)
  have hR11 : Blk ((W5.alloc (.cells (List.toArray (Value.int .i64 0 :: Value.int .i64 0 :: Value.int .i64 0 :: Value.int .i64 0 :: Value.int .i64 0 :: Value.int .i64 0 :: Value.int .i64 0 :: Value.int .i64 0 :: Value.int .i64 0 :: Value.int .i64 0 :: Value.int .i64 0 :: Value.int .i64 0 :: Value.int .i64 0 :: Value.int .i64 0 :: Value.int .i64 0 :: Value.int .i64 0 :: Value.int .i64 0 :: Value.int .i64 0 :: Value.int .i64 0 :: Value.int .i64 0 :: Value.int .i64 0 :: Value.int .i64 0 :: Value.int .i64 0 :: Value.int .i64 0 :: Value.int .i64 0 :: Value.int .i64 0 :: Value.int .i64 0 :: Value.int .i64 0 :: Value.int .i64 0 :: Value.int .i64 0 :: Value.int .i64 0 :: Value.int .i64 0 :: Value.int .i64 0 :: Value.int .i64 0 :: Value.int .i64 0 :: Value.int .i64 0 :: Value.int .i64 0 :: Value.int .i64 0 :: [])) 29)).setRow (B + 5) (arrV st)) (B + 3) _ 26 := (hR1.alloc _).setRowOther (by omega)
  have hR21 : Blk ((W5.alloc (.cells (List.toArray (Value.int .i64 0 :: Value.int .i64 0 :: Value.int .i64 0 :: Value.int .i64 0 :: Value.int .i64 0 :: Value.int .i64 0 :: Value.int .i64 0 :: Value.int .i64 0 :: Value.int .i64 0 :: Value.int .i64 0 :: Value.int .i64 0 :: Value.int .i64 0 :: Value.int .i64 0 :: Value.int .i64 0 :: Value.int .i64 0 :: Value.int .i64 0 :: Value.int .i64 0 :: Value.int .i64 0 :: Value.int .i64 0 :: Value.int .i64 0 :: Value.int .i64 0 :: Value.int .i64 0 :: Value.int .i64 0 :: Value.int .i64 0 :: Value.int .i64 0 :: Value.int .i64 0 :: Value.int .i64 0 :: Value.int .i64 0 :: Value.int .i64 0 :: Value.int .i64 0 :: Value.int .i64 0 :: Value.int .i64 0 :: Value.int .i64 0 :: Value.int .i64 0 :: Value.int .i64 0 :: Value.int .i64 0 :: Value.int .i64 0 :: Value.int .i64 0 :: [])) 29)).setRow (B + 5) (arrV st)) (B + 4) _ 29 := (hR2.alloc _).setRowOther (by omega)
  have hb1 : Below B w ((W5.alloc (.cells (List.toArray (Value.int .i64 0 :: Value.int .i64 0 :: Value.int .i64 0 :: Value.int .i64 0 :: Value.int .i64 0 :: Value.int .i64 0 :: Value.int .i64 0 :: Value.int .i64 0 :: Value.int .i64 0 :: Value.int .i64 0 :: Value.int .i64 0 :: Value.int .i64 0 :: Value.int .i64 0 :: Value.int .i64 0 :: Value.int .i64 0 :: Value.int .i64 0 :: Value.int .i64 0 :: Value.int .i64 0 :: Value.int .i64 0 :: Value.int .i64 0 :: Value.int .i64 0 :: Value.int .i64 0 :: Value.int .i64 0 :: Value.int .i64 0 :: Value.int .i64 0 :: Value.int .i64 0 :: Value.int .i64 0 :: Value.int .i64 0 :: Value.int .i64 0 :: Value.int .i64 0 :: Value.int .i64 0 :: Value.int .i64 0 :: Value.int .i64 0 :: Value.int .i64 0 :: Value.int .i64 0 :: Value.int .i64 0 :: Value.int .i64 0 :: Value.int .i64 0 :: [])) 29)).setRow (B + 5) (arrV st)) := Below.setRow (hb0.alloc (by omega) _) (by omega) _
  have hs1 : ((W5.alloc (.cells (List.toArray (Value.int .i64 0 :: Value.int .i64 0 :: Value.int .i64 0 :: Value.int .i64 0 :: Value.int .i64 0 :: Value.int .i64 0 :: Value.int .i64 0 :: Value.int .i64 0 :: Value.int .i64 0 :: Value.int .i64 0 :: Value.int .i64 0 :: Value.int .i64 0 :: Value.int .i64 0 :: Value.int .i64 0 :: Value.int .i64 0 :: Value.int .i64 0 :: Value.int .i64 0 :: Value.int .i64 0 :: Value.int .i64 0 :: Value.int .i64 0 :: Value.int .i64 0 :: Value.int .i64 0 :: Value.int .i64 0 :: Value.int .i64 0 :: Value.int .i64 0 :: Value.int .i64 0 :: Value.int .i64 0 :: Value.int .i64 0 :: Value.int .i64 0 :: Value.int .i64 0 :: Value.int .i64 0 :: Value.int .i64 0 :: Value.int .i64 0 :: Value.int .i64 0 :: Value.int .i64 0 :: Value.int .i64 0 :: Value.int .i64 0 :: Value.int .i64 0 :: [])) 29)).setRow (B + 5) (arrV st)).heap.size = B + 6 := by simp [hs0]
  go_upto_region 2 with (first | (refine wpList_load_blk rfl 27 (.tmp 5) rfl (B + 1) rfl (arrV ls) 27 hLs Tryz.underlying27 i4 ?_) | (refine wpList_load_blk rfl 26 (.tmp 6) rfl (B + 2) rfl (arrV wv) 26 hWv Tryz.underlying26 i16 ?_) | (refine wpList_build_l rfl 29 #[(2, .tmp 17), (3, .tmp 18), (4, .tmp 19)] rfl [(2, .agg (arrV ls)), (3, .agg (arrV wv)), (4, .int .i64 lost)] rfl (arrV st) HB.out ?_) | (refine wpList_store_blk rfl 29 (.tmp 10) (.tmp 20) rfl (B + 5) _ (arrV st) rfl rfl 29 hN ist kst (arr_one _) ?_))
  revert hSt hA1 hWv1 hR11 hR21 hb1 hs1
  clear hA hLs hWv hR1 hR2 hb0 hs0 hN
  generalize ((W5.alloc (.cells (List.toArray (Value.int .i64 0 :: Value.int .i64 0 :: Value.int .i64 0 :: Value.int .i64 0 :: Value.int .i64 0 :: Value.int .i64 0 :: Value.int .i64 0 :: Value.int .i64 0 :: Value.int .i64 0 :: Value.int .i64 0 :: Value.int .i64 0 :: Value.int .i64 0 :: Value.int .i64 0 :: Value.int .i64 0 :: Value.int .i64 0 :: Value.int .i64 0 :: Value.int .i64 0 :: Value.int .i64 0 :: Value.int .i64 0 :: Value.int .i64 0 :: Value.int .i64 0 :: Value.int .i64 0 :: Value.int .i64 0 :: Value.int .i64 0 :: Value.int .i64 0 :: Value.int .i64 0 :: Value.int .i64 0 :: Value.int .i64 0 :: Value.int .i64 0 :: Value.int .i64 0 :: Value.int .i64 0 :: Value.int .i64 0 :: Value.int .i64 0 :: Value.int .i64 0 :: Value.int .i64 0 :: Value.int .i64 0 :: Value.int .i64 0 :: Value.int .i64 0 :: [])) 29)).setRow (B + 5) (arrV st)) = w1
  intro hSt hA hWv hR1 hR2 hb1 hs1
  have z16i : (Tryz.prog.info? 26).map (·.size) = some (arrV (List.replicate 16 0)).size := by rw [arr_size]; exact blockInfo
  have z38i : (Tryz.prog.info? 29).map (·.size) = some (arrV (List.replicate 38 0)).size := by rw [arr_size]; exact stateInfo
  have hrg := hA.rangeAll
  have i38s : (Tryz.prog.info? 29).map (·.size) = some (intsV st).length := by rw [List.length_map, hsl]; exact stateInfo
  go_wp2_with (first | (refine wpList_load_mid rfl 29 (.tmp 4) rfl B 0 rfl (intsV L) _ hrg Tryz.underlying29 rfl i38 ?_))
  refine (HRL.out _).mono ?_
  rintro e w2 ⟨rfl, hb2⟩
  have hA2 := hA.newB hb2
  have hWv2 := hWv.newB hb2
  have hR12 := hR1.newB hb2
  have hR22 := hR2.newB hb2
  have hSt2 := hSt.newB hb2
  have hb12 : Below B w w2 := hb1.trans (hb2.mono (by omega))
  have hs2 := hb2.size
  clear hA hWv hR1 hR2 hSt hrg
  cases hrr : rightS L with
  | false =>
    have HNO := Lib.hid (show nextOk L ls wv lost = false by rw [HOK.out, hrr]; rfl)
    go_wp2_with (first | (refine wpList_build_l rfl 26 #[] rfl [] rfl (arrV (List.replicate 16 0)) block_zero ?_) | (refine wpList_build_l rfl 29 #[] rfl [] rfl (arrV (List.replicate 38 0)) state_zero ?_) | (refine wpList_store_blk rfl 26 (.tmp 8) (.tmp 29) rfl (B + 3) _ (arrV (List.replicate 16 0)) rfl rfl 26 hR12 z16i rfl (arr_one _) ?_) | (refine wpList_store_blk rfl 29 (.tmp 9) (.tmp 30) rfl (B + 4) _ (arrV (List.replicate 38 0)) rfl rfl 29 (hR22.setRowOther (by omega)) z38i rfl (arr_one _) ?_))
    exact bodyPost_ret (v := .tuple #[.agg (arrV (List.replicate 16 0)), .agg (arrV (List.replicate 38 0))]) (results_cc Tryz.results35 _ _ (B + 3) (B + 4) 26 29 _ _ (.array 16 3) _ rfl ((hR12.setRow (new := arrV (List.replicate 16 0))).setRowOther (by omega)) Tryz.underlying26 rfl z16i rfl (hR22.setRowOther (by omega)).setRow Tryz.underlying29 rfl z38i) rfl ⟨by rw [← HO1.out, ← HO2.out, HNO.out]; rfl, by first | exact Below.setRow (Below.setRow hb12 (g := B + 3) (by omega) _) (g := B + 4) (by omega) _ | (rw [hB]; exact Below.setRow (Below.setRow hb12 (g := B + 3) (by omega) _) (g := B + 4) (by omega) _)⟩
  | true =>
    have hrs2 := hSt2.rangeAll
    go_wp2_with (first | (refine wpList_load_g (by rfl) 29 (.tmp 10) rfl (B + 5) 0 rfl (intsV st) _ hrs2 Tryz.underlying29 rfl i38s ?_))
    refine (HRS.out _).mono ?_
    rintro e w3 ⟨rfl, hb3⟩
    have hA3 := hA2.newB hb3
    have hWv3 := hWv2.newB hb3
    have hR13 := hR12.newB hb3
    have hR23 := hR22.newB hb3
    have hSt3 := hSt2.newB hb3
    have hb13 : Below B w w3 := hb12.trans (hb3.mono (by omega))
    have hs3 := hb3.size
    clear hA2 hWv2 hR12 hR22 hSt2 hrs2
    cases hss : rightS st with
    | false =>
      have HNO := Lib.hid (show nextOk L ls wv lost = false by rw [HOK.out, hss]; simp)
      go_wp2_with (first | (refine wpList_build_l rfl 26 #[] rfl [] rfl (arrV (List.replicate 16 0)) block_zero ?_) | (refine wpList_build_l rfl 29 #[] rfl [] rfl (arrV (List.replicate 38 0)) state_zero ?_) | (refine wpList_store_blk rfl 26 (.tmp 8) (.tmp 29) rfl (B + 3) _ (arrV (List.replicate 16 0)) rfl rfl 26 hR13 z16i rfl (arr_one _) ?_) | (refine wpList_store_blk rfl 29 (.tmp 9) (.tmp 30) rfl (B + 4) _ (arrV (List.replicate 38 0)) rfl rfl 29 (hR23.setRowOther (by omega)) z38i rfl (arr_one _) ?_))
      exact bodyPost_ret (v := .tuple #[.agg (arrV (List.replicate 16 0)), .agg (arrV (List.replicate 38 0))]) (results_cc Tryz.results35 _ _ (B + 3) (B + 4) 26 29 _ _ (.array 16 3) _ rfl ((hR13.setRow (new := arrV (List.replicate 16 0))).setRowOther (by omega)) Tryz.underlying26 rfl z16i rfl (hR23.setRowOther (by omega)).setRow Tryz.underlying29 rfl z38i) rfl ⟨by rw [← HO1.out, ← HO2.out, HNO.out]; rfl, by first | exact Below.setRow (Below.setRow hb13 (g := B + 3) (by omega) _) (g := B + 4) (by omega) _ | (rw [hB]; exact Below.setRow (Below.setRow hb13 (g := B + 3) (by omega) _) (g := B + 4) (by omega) _)⟩
    | true =>
      have HYES := Lib.hid (show nextOk L ls wv lost = true by rw [HOK.out, hss, hrr]; rfl)
      have hback := fun w => Back_any wv h2 w
      have hbl := backL_len wv
      have hl1 : ((backL wv).take 16).length = 16 := by rw [List.length_take, hbl]; rfl
      have hl2 : ((backL wv).drop 16).length = 16 := by rw [List.length_drop, hbl]
      obtain ⟨l1, hl1e⟩ : ∃ l, (backL wv).take 16 = l := ⟨_, rfl⟩
      obtain ⟨l2, hl2e⟩ : ∃ l, (backL wv).drop 16 = l := ⟨_, rfl⟩
      simp only [hl1e, hl2e] at hback hl1 hl2
      have HE1 := Lib.hid hl1e
      have HE2 := Lib.hid hl2e
      have HBA := Lib.hid hback
      have j1 : (Tryz.prog.info? 26).map (·.size) = some (arrV l1).size := by rw [arr_size, hl1]; exact blockInfo
      have j2 : (Tryz.prog.info? 26).map (·.size) = some (arrV l2).size := by rw [arr_size, hl2]; exact blockInfo
      have k1 : (#[.int .i64 0, .int .i64 0, .int .i64 0, .int .i64 0, .int .i64 0, .int .i64 0, .int .i64 0, .int .i64 0, .int .i64 0, .int .i64 0, .int .i64 0, .int .i64 0, .int .i64 0, .int .i64 0, .int .i64 0, .int .i64 0] : Array Value).size = (arrV l1).size := by rw [arr_size, hl1]; rfl
      have k2 : (#[.int .i64 0, .int .i64 0, .int .i64 0, .int .i64 0, .int .i64 0, .int .i64 0, .int .i64 0, .int .i64 0, .int .i64 0, .int .i64 0, .int .i64 0, .int .i64 0, .int .i64 0, .int .i64 0, .int .i64 0, .int .i64 0] : Array Value).size = (arrV l2).size := by rw [arr_size, hl2]; rfl
      clear hl1e hl2e hback hbl
      go_upto_region 4 with (first | (refine wpList_store_blk rfl 26 (.tmp 8) (.tmp 29) rfl (B + 3) _ (arrV (List.replicate 16 0)) rfl rfl 26 hR13 z16i rfl (arr_one _) ?_))
      go_wp2_with (first | (refine wpList_load_blk rfl 26 (.tmp 6) rfl (B + 2) rfl (arrV wv) 26 hWv3 Tryz.underlying26 i16 ?_))
      refine (HBA.out _).mono ?_
      rintro e w4 ⟨rfl, hb4⟩
      have hA4 := hA3.newB hb4
      have hR14 := hR13.newB hb4
      have hR24 := hR23.newB hb4
      have hSt4 := hSt3.newB hb4
      have hb14 : Below B w w4 := hb13.trans (hb4.mono (by omega))
      have hs4 := hb4.size
      clear hA3 hWv3 hR13 hR23 hSt3
      obtain ⟨g, hg⟩ : ∃ g, w4.heap.size = g := ⟨_, rfl⟩
      obtain ⟨hN1, hN2, hk6, hs6⟩ := two_new (fun _ => False) w4 #[.int .i64 0, .int .i64 0, .int .i64 0, .int .i64 0, .int .i64 0, .int .i64 0, .int .i64 0, .int .i64 0, .int .i64 0, .int .i64 0, .int .i64 0, .int .i64 0, .int .i64 0, .int .i64 0, .int .i64 0, .int .i64 0] #[.int .i64 0, .int .i64 0, .int .i64 0, .int .i64 0, .int .i64 0, .int .i64 0, .int .i64 0, .int .i64 0, .int .i64 0, .int .i64 0, .int .i64 0, .int .i64 0, .int .i64 0, .int .i64 0, .int .i64 0, .int .i64 0] 26 26
      rw [hg] at hN1 hN2 hs6
      go_upto_region 5 with (first | (refine wpList_store_blk rfl 26 (.tmp 11) (.tmp 34) rfl g _ (arrV l1) rfl rfl 26 hN1 j1 k1 (arr_one _) ?_) | (refine wpList_store_blk rfl 26 (.tmp 12) (.tmp 35) rfl (g + 1) _ (arrV l2) rfl rfl 26 (hN2.setRowOther (by omega)) j2 k2 (arr_one _) ?_))
      have hP : PreW w ((((w4.alloc (.cells #[.int .i64 0, .int .i64 0, .int .i64 0, .int .i64 0, .int .i64 0, .int .i64 0, .int .i64 0, .int .i64 0, .int .i64 0, .int .i64 0, .int .i64 0, .int .i64 0, .int .i64 0, .int .i64 0, .int .i64 0, .int .i64 0] 26)).alloc (.cells #[.int .i64 0, .int .i64 0, .int .i64 0, .int .i64 0, .int .i64 0, .int .i64 0, .int .i64 0, .int .i64 0, .int .i64 0, .int .i64 0, .int .i64 0, .int .i64 0, .int .i64 0, .int .i64 0, .int .i64 0, .int .i64 0] 26)).setRow g (arrV l1)).setRow (g + 1) (arrV l2)) B g L st l1 l2 := by
        have hN1' := (hN1.setRow (new := arrV l1)).setRowOther (g := g + 1) (new := arrV l2) (by omega)
        have hN2' := (hN2.setRowOther (g := g) (new := arrV l1) (by omega)).setRow (new := arrV l2)
        exact ⟨(((hA4.alloc _).alloc _).setRowOther (by omega)).setRowOther (by omega), hN1', hN2', (((hR14.alloc _).alloc _).setRowOther (by omega)).setRowOther (by omega), (((hR24.alloc _).alloc _).setRowOther (by omega)).setRowOther (by omega), (((hSt4.alloc _).alloc _).setRowOther (by omega)).setRowOther (by omega), Below.setRow (Below.setRow ((hb14.alloc (by omega) _).alloc (by simp; omega) _) (by omega) _) (by omega) _, by simp; omega⟩
      have hgB : B + 6 ≤ g := by omega
      revert hP
      clear hA4 hR14 hR24 hSt4 hb14 hN1 hN2 hk6 hs6
      generalize ((((w4.alloc (.cells #[.int .i64 0, .int .i64 0, .int .i64 0, .int .i64 0, .int .i64 0, .int .i64 0, .int .i64 0, .int .i64 0, .int .i64 0, .int .i64 0, .int .i64 0, .int .i64 0, .int .i64 0, .int .i64 0, .int .i64 0, .int .i64 0] 26)).alloc (.cells #[.int .i64 0, .int .i64 0, .int .i64 0, .int .i64 0, .int .i64 0, .int .i64 0, .int .i64 0, .int .i64 0, .int .i64 0, .int .i64 0, .int .i64 0, .int .i64 0, .int .i64 0, .int .i64 0, .int .i64 0, .int .i64 0] 26)).setRow g (arrV l1)).setRow (g + 1) (arrV l2)) = w6
      intro hP
      dsimp only [Act.put]
      have hml : (memL L).length = 16 := by simp [memL, hL]
      have im : (Tryz.prog.info? 26).map (·.size) = some (intsV (memL L)).length := by rw [List.length_map, hml]; exact blockInfo
      have i1 : (Tryz.prog.info? 26).map (·.size) = some (intsV l1).length := by rw [List.length_map, hl1]; exact blockInfo
      have hov := fun w => Over_any (memL L) l1 hml hl1 w
      have hol := overL_len (memL L) l1
      have hla := fun w => Lay_any (lastL L) _ hol w
      have hll : (layL (lastL L) (overL (memL L) l1)).length = 16 := by unfold layL; rw [layG_len, hol]
      obtain ⟨lay, hlay⟩ : ∃ l, layL (lastL L) (overL (memL L) l1) = l := ⟨_, rfl⟩
      obtain ⟨n, hn⟩ : ∃ n, layN (lastL L) (overL (memL L) l1) = n := ⟨_, rfl⟩
      simp only [hlay, hn] at hla hll
      obtain ⟨ov, hove⟩ : ∃ l, overL (memL L) l1 = l := ⟨_, rfl⟩
      simp only [hove] at hla hov
      have HOV := Lib.hid hov
      have HLA := Lib.hid hla
      have HLAY := Lib.hid (show nextO L wv = lay by unfold nextO; rw [HE1.out, hlay])
      have HNN := Lib.hid (show nextN L wv = n by unfold nextN; rw [HE1.out, hn])
      have jl : (Tryz.prog.info? 26).map (·.size) = some (arrV lay).size := by rw [arr_size, hll]; exact blockInfo
      have kl : (#[.int .i64 0, .int .i64 0, .int .i64 0, .int .i64 0, .int .i64 0, .int .i64 0, .int .i64 0, .int .i64 0, .int .i64 0, .int .i64 0, .int .i64 0, .int .i64 0, .int .i64 0, .int .i64 0, .int .i64 0, .int .i64 0] : Array Value).size = (arrV lay).size := by rw [arr_size, hll]; rfl
      clear hov hla hlay hn hove hol
      go_cut [13, 14] from 36 (fun s13 s14 wx => ∃ h : Nat, s13 = .pointer (some ⟨h, 0, none⟩) ∧ s14 = .int .i64 n ∧ PreW w wx B g L st l1 l2 ∧ Blk wx h (arrV lay) 26 ∧ g + 2 ≤ h)
      case first =>
        refine wp_region_held_drew (S := (fun W => PreW w W B g L st l1 l2)) (by kernel_rfl) hP.drew (fun hH => ?_)
        refine tk 0 hH (v := .pointer (some ⟨B, 16, none⟩)) (y := .inl ⟨by rfl, fun w hS => by go_simp⟩) (k := ?_)
        refine tk 1 hH (v := .int .i64 (lastL L)) (y := .inl ⟨by rfl, fun w hS => by have c16 := hS.c16 hL; go_simp⟩) (k := ?_)
        refine tk 2 hH (v := .pointer (some ⟨B, 0, none⟩)) (y := .inl ⟨by rfl, fun w hS => by go_simp⟩) (k := ?_)
        refine tk 3 hH (v := .agg (arrV (memL L))) (y := (yieldsIf_load_mid (by rfl) 26 (.tmp 39) rfl B 0 rfl (intsV (memL L)) (.array 16 3) (fun _ h => h.memR hL) Tryz.underlying26 rfl im)) (k := ?_)
        refine tk 4 hH (v := .agg (arrV l1)) (y := (yieldsIf_load_mid (by rfl) 26 (.tmp 11) rfl g 0 rfl (intsV l1) (.array 16 3) (fun _ h => h.l1.rangeAll) Tryz.underlying26 rfl i1)) (k := ?_)
        refine wpAnyH_ready (rs := [5, 10]) (by kernel_rfl) (by simp) ?_
        refine rc (h := fun K hK => ?_) (r := ?_)
        · go_simp
          refine (HOV.out _).mono ?_
          rintro e w7 ⟨rfl, hb7⟩
          go_wp2_with fail
          refine hK.out _ _ (hH.below hb7) (fun hH => ?_)
          clear hK K
          try simp only [Act.put, sa, List.set_cons_zero, List.set_cons_succ]
          refine wpAnyH_ready (rs := [6, 10]) (by kernel_rfl) (by simp) ?_
          refine rc (h := fun K hK => ?_) (r := ?_)
          · go_simp
            refine (HLA.out _).mono ?_
            rintro e w8 ⟨rfl, hb8⟩
            go_wp2_with fail
            refine hK.out _ _ (hH.below hb8) (fun hH => ?_)
            clear hK K
            try simp only [Act.put, sa, List.set_cons_zero, List.set_cons_succ]
            refine tk 7 hH (v := .tuple #[.agg (arrV lay), .int .i64 n]) (y := .inl ⟨by rfl, fun w hS => by go_simp⟩) (k := ?_)
            refine tk 8 hH (v := .agg (arrV lay)) (y := .inl ⟨by rfl, fun w hS => by go_simp⟩) (k := ?_)
            refine tk 9 hH (v := .int .i64 n) (y := .inl ⟨by rfl, fun w hS => by go_simp⟩) (k := ?_)
            have hNb := Blk.new w8 #[.int .i64 0, .int .i64 0, .int .i64 0, .int .i64 0, .int .i64 0, .int .i64 0, .int .i64 0, .int .i64 0, .int .i64 0, .int .i64 0, .int .i64 0, .int .i64 0, .int .i64 0, .int .i64 0, .int .i64 0, .int .i64 0] 26
            have hsz8 := hH.size
            refine wpAnyH_ready (rs := [10]) (by kernel_rfl) (by simp) ?_
            refine rc (h := fun K hK => ?_) (r := AllReadyH.nil)
            go_simp
            refine hK.out _ _ (hH.alloc _) (fun hH => ?_)
            clear hK K
            try simp only [Act.put, sa, List.set_cons_zero, List.set_cons_succ]
            refine wpAnyH_ready (rs := [11]) (by kernel_rfl) (by simp) ?_
            refine rc (h := fun K hK => ?_) (r := AllReadyH.nil)
            refine wp_store_blk 26 (.tmp 13) (.tmp 44) rfl w8.heap.size _ (arrV lay) rfl rfl 26 hNb jl kl (arr_one _) ?_
            refine hK.out _ _ (hH.setRow (g2 := w8.heap.size) (by omega) _) (fun hH => ?_)
            clear hK K
            try simp only [Act.put, sa, List.set_cons_zero, List.set_cons_succ]
            refine tk 12 hH (v := .int .i64 n) (y := .inl ⟨by rfl, fun w hS => by go_simp⟩) (k := ?_)
            refine wpAnyH_done (by kernel_rfl) ?_ _
            go_wp2_with fail
            go_meet
            case rel => exact ⟨w8.heap.size, rfl, rfl, hH, hNb.setRow, by omega⟩
          · have hNb := Blk.new w7 #[.int .i64 0, .int .i64 0, .int .i64 0, .int .i64 0, .int .i64 0, .int .i64 0, .int .i64 0, .int .i64 0, .int .i64 0, .int .i64 0, .int .i64 0, .int .i64 0, .int .i64 0, .int .i64 0, .int .i64 0, .int .i64 0] 26
            have hsz8 := hH.size
            refine rc (h := fun K hK => ?_) (r := AllReadyH.nil)
            go_simp
            refine hK.out _ _ (hH.alloc _) (fun hH => ?_)
            clear hK K
            try simp only [Act.put, sa, List.set_cons_zero, List.set_cons_succ]
            refine wpAnyH_ready (rs := [6]) (by kernel_rfl) (by simp) ?_
            refine rc (h := fun K hK => ?_) (r := AllReadyH.nil)
            go_simp
            refine (HLA.out _).mono ?_
            rintro e w8 ⟨rfl, hb8⟩
            go_wp2_with fail
            refine hK.out _ _ (hH.below hb8) (fun hH => ?_)
            clear hK K
            try simp only [Act.put, sa, List.set_cons_zero, List.set_cons_succ]
            refine tk 7 hH (v := .tuple #[.agg (arrV lay), .int .i64 n]) (y := .inl ⟨by rfl, fun w hS => by go_simp⟩) (k := ?_)
            refine tk 8 hH (v := .agg (arrV lay)) (y := .inl ⟨by rfl, fun w hS => by go_simp⟩) (k := ?_)
            refine tk 9 hH (v := .int .i64 n) (y := .inl ⟨by rfl, fun w hS => by go_simp⟩) (k := ?_)
            have hNb2 := hNb.newB hb8
            refine wpAnyH_ready (rs := [11]) (by kernel_rfl) (by simp) ?_
            refine rc (h := fun K hK => ?_) (r := AllReadyH.nil)
            refine wp_store_blk 26 (.tmp 13) (.tmp 44) rfl w7.heap.size _ (arrV lay) rfl rfl 26 hNb2 jl kl (arr_one _) ?_
            refine hK.out _ _ (hH.setRow (g2 := w7.heap.size) (by omega) _) (fun hH => ?_)
            clear hK K
            try simp only [Act.put, sa, List.set_cons_zero, List.set_cons_succ]
            refine tk 12 hH (v := .int .i64 n) (y := .inl ⟨by rfl, fun w hS => by go_simp⟩) (k := ?_)
            refine wpAnyH_done (by kernel_rfl) ?_ _
            go_wp2_with fail
            go_meet
            case rel => exact ⟨w7.heap.size, rfl, rfl, hH, hNb2.setRow, by omega⟩
        · have hNb := Blk.new w6.drew #[.int .i64 0, .int .i64 0, .int .i64 0, .int .i64 0, .int .i64 0, .int .i64 0, .int .i64 0, .int .i64 0, .int .i64 0, .int .i64 0, .int .i64 0, .int .i64 0, .int .i64 0, .int .i64 0, .int .i64 0, .int .i64 0] 26
          have hsz8 : g + 2 ≤ w6.heap.size := hH.size
          refine rc (h := fun K hK => ?_) (r := AllReadyH.nil)
          go_simp
          refine hK.out _ _ (hH.alloc _) (fun hH => ?_)
          clear hK K
          try simp only [Act.put, sa, List.set_cons_zero, List.set_cons_succ]
          refine wpAnyH_ready (rs := [5]) (by kernel_rfl) (by simp) ?_
          refine rc (h := fun K hK => ?_) (r := AllReadyH.nil)
          go_simp
          refine (HOV.out _).mono ?_
          rintro e w7 ⟨rfl, hb7⟩
          go_wp2_with fail
          refine hK.out _ _ (hH.below hb7) (fun hH => ?_)
          clear hK K
          try simp only [Act.put, sa, List.set_cons_zero, List.set_cons_succ]
          refine wpAnyH_ready (rs := [6]) (by kernel_rfl) (by simp) ?_
          refine rc (h := fun K hK => ?_) (r := AllReadyH.nil)
          go_simp
          refine (HLA.out _).mono ?_
          rintro e w8 ⟨rfl, hb8⟩
          go_wp2_with fail
          refine hK.out _ _ (hH.below hb8) (fun hH => ?_)
          clear hK K
          try simp only [Act.put, sa, List.set_cons_zero, List.set_cons_succ]
          refine tk 7 hH (v := .tuple #[.agg (arrV lay), .int .i64 n]) (y := .inl ⟨by rfl, fun w hS => by go_simp⟩) (k := ?_)
          refine tk 8 hH (v := .agg (arrV lay)) (y := .inl ⟨by rfl, fun w hS => by go_simp⟩) (k := ?_)
          refine tk 9 hH (v := .int .i64 n) (y := .inl ⟨by rfl, fun w hS => by go_simp⟩) (k := ?_)
          have hNb2 := (hNb.newB hb7).newB hb8
          refine wpAnyH_ready (rs := [11]) (by kernel_rfl) (by simp) ?_
          refine rc (h := fun K hK => ?_) (r := AllReadyH.nil)
          refine wp_store_blk 26 (.tmp 13) (.tmp 44) rfl w6.heap.size _ (arrV lay) rfl rfl 26 hNb2 jl kl (arr_one _) ?_
          refine hK.out _ _ (hH.setRow (g2 := w6.heap.size) (by omega) _) (fun hH => ?_)
          clear hK K
          try simp only [Act.put, sa, List.set_cons_zero, List.set_cons_succ]
          refine tk 12 hH (v := .int .i64 n) (y := .inl ⟨by rfl, fun w hS => by go_simp⟩) (k := ?_)
          refine wpAnyH_done (by kernel_rfl) ?_ _
          go_wp2_with fail
          go_meet
          case rel => exact ⟨w6.heap.size, rfl, rfl, hH, hNb2.setRow, by omega⟩
      case rest =>
        obtain ⟨h, rfl, rfl, hX, hlayB, hgh⟩ := hcut
        have i2 : (Tryz.prog.info? 26).map (·.size) = some (intsV l2).length := by rw [List.length_map, hl2]; exact blockInfo
        have hidx := fun k (hk : k < 16) (w : World) => run_index_arr 26 16 l2 hl2 Tryz.underlying26 k hk w
        have HI := Lib.hid hidx
        have hAl : (l2.map (Sp.cut 32)).length = 16 := by rw [List.length_map, hl2]
        have hx2 := hX.l2.rangeAll
        clear hidx
        go_wp2_with (first | (refine wpList_load_mid rfl 26 (.tmp 12) rfl (g + 1) 0 rfl (intsV l2) (.array 16 3) hx2 Tryz.underlying26 rfl i2 ?_))
        go_loopw [47] (fun i wr => ∃ k : Nat, k ≤ 16 ∧ i = .int .i64 k ∧ PreW w wr B g L ((l2.map (Sp.cut 32)).take k ++ st.drop k) l1 l2 ∧ Blk wr h (arrV lay) 26) (fun i _ => 16 - (intOf i).toNat)
        case atStart => exact ⟨0, by omega, rfl, by simpa using hX, hlayB⟩
        case round =>
          obtain ⟨k, hk, rfl, hX, hLB⟩ := hrel
          by_cases hlt : k < 16
          · have hi := HI.out k hlt
            have hps := part_step (l2.map (Sp.cut 32)) st k (by omega) (by omega)
            have hgd : (l2.map (Sp.cut 32)).getD k 0 = Sp.cut 32 (l2.getD k 0) := by rw [List.getD_eq_getElem?_getD, List.getD_eq_getElem?_getD, List.getElem?_map, List.getElem?_eq_getElem (by omega)]; rfl
            rw [hgd] at hps
            obtain ⟨x, hxe⟩ : ∃ x, l2.getD k 0 = x := ⟨_, rfl⟩
            rw [hxe] at hi hps
            have hcx := fun w => Cut32 x w
            obtain ⟨y, hy⟩ : ∃ y, Sp.cut 32 x = y := ⟨_, rfl⟩
            simp only [hy] at hcx
            rw [hy] at hps
            have hlen : ((l2.map (Sp.cut 32)).take k ++ st.drop k).length = 38 := by rw [List.length_append, List.length_take, List.length_drop, hAl, hsl]; omega
            obtain ⟨pk, hpk⟩ : ∃ l, (l2.map (Sp.cut 32)).take k ++ st.drop k = l := ⟨_, rfl⟩
            rw [hpk] at hX hps hlen
            have c1 := (hX.s.cell k).trans (arr_get (by rw [hlen]; omega))
            have f1 := hX.s.frozen k
            have hX2 := hX.setSt hgB k y
            have hLB2 := hLB.other (a := ⟨B + 5, k, none⟩) (by simp only []; omega) (.int .i64 y)
            have HPS := Lib.hid hps
            clear hps hgd hxe hy hpk
            go_wp2_with fail
            refine (hcx _).mono ?_
            rintro e w7 ⟨rfl, rfl⟩
            go_wp2_with fail
            go_roundw
            case rel => exact ⟨k + 1, hlt, by go_num, by rw [← HPS.out]; exact hX2, hLB2⟩
            case measure => simp [intOf]; omega
          · obtain rfl : k = 16 := by omega
            have hsf0 : ((l2.map (Sp.cut 32)).take 16 ++ st.drop 16).set 16 n = l2.map (Sp.cut 32) ++ [n] ++ ls ++ wv ++ [lost] := by
              rw [List.take_of_length_le (by omega), List.set_append, if_neg (by omega), hAl, Nat.sub_self, ← HST.out, mkSt]
              simp [List.append_assoc]
            have hsf1 : nextSt L ls wv lost = l2.map (Sp.cut 32) ++ [n] ++ ls ++ wv ++ [lost] := by unfold nextSt; rw [HE2.out, HNN.out]
            have hlen : ((l2.map (Sp.cut 32)).take 16 ++ st.drop 16).length = 38 := by rw [List.length_append, List.length_take, List.length_drop, hAl, hsl]; rfl
            obtain ⟨pk, hpk⟩ : ∃ l, (l2.map (Sp.cut 32)).take 16 ++ st.drop 16 = l := ⟨_, rfl⟩
            rw [hpk] at hX hsf0 hlen
            have c1 := (hX.s.cell 16).trans (arr_get (by rw [hlen]; omega))
            have f1 := hX.s.frozen 16
            have hX2 := hX.setSt hgB 16 n
            have hLB2 := hLB.other (a := ⟨B + 5, 16, none⟩) (by simp only []; omega) (.int .i64 n)
            obtain ⟨sf, hsf⟩ : ∃ l, pk.set 16 n = l := ⟨_, rfl⟩
            have hsfl : sf.length = 38 := by rw [← hsf, List.length_set, hlen]
            have HSF := Lib.hid (show O2 = sf by rw [← HO2.out, HYES.out, if_pos rfl, hsf1, ← hsf0, hsf])
            rw [hsf] at hX2
            clear hsf0 hsf1 hpk hsf
            go_upto_region 12 with (fail)
            revert hX2 hLB2
            clear hX hLB c1 f1 hx2 hlayB
            generalize (wr.setCell ⟨B + 5, 16, none⟩ (.int .i64 n)) = wz
            intro hLB hX
            have hll2 : lay.length = 16 := by have h3 := kl; rw [arr_size] at h3; exact h3.symm
            have il : (Tryz.prog.info? 26).map (·.size) = some (intsV lay).length := by rw [List.length_map, hll2]; exact blockInfo
            have isf : (Tryz.prog.info? 29).map (·.size) = some (intsV sf).length := by rw [List.length_map, hsfl]; exact stateInfo
            have jsf : (Tryz.prog.info? 29).map (·.size) = some (arrV sf).size := by rw [arr_size, hsfl]; exact stateInfo
            have ksf : (arrV (List.replicate 38 0)).size = (arrV sf).size := by rw [arr_size, arr_size, hsfl]; rfl
            have hso := fun w => Sound_any lay hll2 w
            have hsol : (soundL lay).length = 16 := by unfold soundL; rw [List.length_map, hll2]
            obtain ⟨so, hsoe⟩ : ∃ l, soundL lay = l := ⟨_, rfl⟩
            simp only [hsoe] at hso hsol
            have HSO := Lib.hid hso
            have HO := Lib.hid (show O1 = so by rw [← HO1.out, HYES.out, if_pos rfl, HLAY.out, hsoe])
            have js : (Tryz.prog.info? 26).map (·.size) = some (arrV so).size := by rw [arr_size, hsol]; exact blockInfo
            have ks : (arrV (List.replicate 16 0)).size = (arrV so).size := by rw [arr_size, arr_size, hsol]; rfl
            clear hso hsoe
            refine wp_region_held_drew (S := (fun W => Blk W h (arrV lay) 26 ∧ Blk W (B + 5) (arrV sf) 29)) (by kernel_rfl) ⟨hLB.drew, hX.s.drew⟩ (fun hH => ?_)
            refine tk 0 hH (v := .agg (arrV lay)) (y := (yieldsIf_load_mid (by rfl) 26 (.tmp 13) rfl h 0 rfl (intsV lay) (.array 16 3) (fun _ h => h.1.rangeAll) Tryz.underlying26 rfl il)) (k := ?_)
            refine tk 2 hH (v := .agg (arrV sf)) (y := (yieldsIf_load_mid (by rfl) 29 (.tmp 10) rfl (B + 5) 0 rfl (intsV sf) _ (fun _ h => h.2.rangeAll) Tryz.underlying29 rfl isf)) (k := ?_)
            refine wpAnyH_ready (rs := [1]) (by kernel_rfl) (by simp) ?_
            refine rc (h := fun K hK => ?_) (r := AllReadyH.nil)
            go_simp
            refine (HSO.out _).mono ?_
            rintro e w9 ⟨rfl, hb9⟩
            go_wp2_with fail
            refine hK.out _ _ ⟨hH.1.newB hb9, hH.2.newB hb9⟩ (fun hH => ?_)
            clear hK K
            try simp only [Act.put, sa, List.set_cons_zero, List.set_cons_succ]
            have hX9 := hX.drew.below hb9
            refine wpAnyH_ready (rs := [3]) (by kernel_rfl) (by simp) ?_
            refine rc (h := fun K hK => ?_) (r := AllReadyH.nil)
            refine wp_store_blk 26 (.tmp 8) (.tmp 60) rfl (B + 3) _ (arrV so) rfl rfl 26 hX9.r1 js ks (arr_one _) ?_
            refine hK.out _ _ ⟨hH.1.setRowOther (by omega), hH.2.setRowOther (by omega)⟩ (fun hH => ?_)
            clear hK K
            try simp only [Act.put, sa, List.set_cons_zero, List.set_cons_succ]
            refine wpAnyH_ready (rs := [4]) (by kernel_rfl) (by simp) ?_
            refine rc (h := fun K hK => ?_) (r := AllReadyH.nil)
            refine wp_store_blk 29 (.tmp 9) (.tmp 61) rfl (B + 4) _ (arrV sf) rfl rfl 29 (hX9.r2.setRowOther (by omega)) jsf ksf (arr_one _) ?_
            refine hK.out _ _ ⟨hH.1.setRowOther (by omega), hH.2.setRowOther (by omega)⟩ (fun hH => ?_)
            clear hK K
            try simp only [Act.put, sa, List.set_cons_zero, List.set_cons_succ]
            refine wpAnyH_done (by kernel_rfl) ?_ _
            go_wp2_with fail
            exact bodyPost_ret (v := .tuple #[.agg (arrV so), .agg (arrV sf)]) (results_cc Tryz.results35 _ _ (B + 3) (B + 4) 26 29 _ _ (.array 16 3) _ rfl ((hX9.r1.setRow (new := arrV so)).setRowOther (by omega)) Tryz.underlying26 rfl js rfl (hX9.r2.setRowOther (by omega)).setRow Tryz.underlying29 rfl jsf) rfl ⟨by rw [HO.out, HSF.out], by first | exact Below.setRow (Below.setRow hX9.far (g := B + 3) (by omega) _) (g := B + 4) (by omega) _ | (rw [hB]; exact Below.setRow (Below.setRow hX9.far (g := B + 3) (by omega) _) (g := B + 4) (by omega) _)⟩
end Go.Proofs.YtkoljgmapclhkaaGreatDoor

namespace Go.Proofs.YtkoljgmapclhkaaGreatDoor

theorem ltakeD_ok {d : Sp.Dec} {b : Int} (h : d.Ok b) : (ltakeD d).Ok (b + 3) ∧ -24 ≤ ltakeV d ∧ ltakeV d ≤ 24 := by
  obtain ⟨v, a, c, hv, _, _, hci, hD, h1, h2⟩ := ltake_cell h
  rw [hv, hD]
  exact ⟨Sp.Dec.take_ok h hci, h1, h2⟩
theorem decN_ok (s : ByteArray) (k : Nat) : (decN s k).Ok (4 + 3 * k) := by
  induction k with
  | zero => exact Sp.Dec.new_ok s
  | succ k ih =>
    have h := (ltakeD_ok ih).1
    rw [show (4 : Int) + 3 * k + 3 = 4 + 3 * ((k + 1 : Nat) : Int) by omega] at h
    exact h
theorem levAt_bd (s : ByteArray) (ls : List Int) (b : Nat) : 0 ≤ levAt s ls b ∧ levAt s ls b ≤ 20 := by unfold levAt; omega
theorem levsS_ok (s : ByteArray) (ls : List Int) : LevelsOk (levsS s ls) := by
  refine ⟨by simp [levsS], fun x hx => ?_⟩
  obtain ⟨b, _, rfl⟩ := List.mem_map.1 hx
  exact levAt_bd s ls b
theorem used_bd {d : Sp.Dec} {b : Int} (h : d.Ok b) : 0 ≤ d.used ∧ d.used ≤ 8 * b + 32 := by
  have h1 := h.gone0
  have h2 := h.gone1
  have h3 := h.rng0
  have h4 := h.rng1
  have hb := Lib.bitLen_le d.rng.toNat 32 (by omega) (by omega)
  unfold Sp.Dec.used
  omega
theorem pulses_ok (ls : List Int) (f : Nat) : ∀ (ks : List Int) (bits : Int), PulsesOk ks → PulsesOk (pulses ls f ks bits) := by
  induction f with
  | zero => intro ks bits h; exact h
  | succ f ih =>
    intro ks bits h
    unfold pulses
    split
    · exact h
    · have hb := best_ok ls ks bits h 4 (Nat.le_refl _)
      refine ih _ _ (pulsesOk_set h (by have := hb.lo; have := hb.hi; omega) (hb.room (by omega)).1)
theorem zeros_ok : PulsesOk [0, 0, 0, 0] := ⟨rfl, by decide⟩
theorem pulS_ok (s : ByteArray) (ls : List Int) : PulsesOk (pulS s ls) := pulses_ok _ _ _ _ zeros_ok
theorem bandD_ok {d : Sp.Dec} {b : Int} (h : d.Ok b) (i k : Nat) (hi : i < 4) (hk : k ≤ 8) : (bandD d i k).Ok (b + 9) := by
  unfold bandD
  split
  · exact ⟨h.pos0, by have := h.pos1; omega, h.code0, h.code1, h.rng0, h.rng1, h.gone0, by have := h.gone1; omega⟩
  · have hv20 := Sp.vbits_bd (bandN_bd hi) hk
    have := (Sp.Dec.bitF_ok 3 (Sp.vbits (bandN i) k) 0 0 h (by omega) (by decide) (by decide)).1
    simpa using this
theorem bandV_len (d : Sp.Dec) (b lev k : Nat) : (bandV d b lev k).length = bandN b := by
  unfold bandV
  split
  · simp
  · rw [fillL_len, Sp.vec_len]
theorem sizes_mem {l : List Int} {x : Int} (h : x ∈ l) : max x (-x) ≤ Sp.sizes l := by
  induction l with
  | nil => cases h
  | cons y l ih =>
    have e : Sp.sizes (y :: l) = max y (-y) + Sp.sizes l := by
      show (y :: l).foldl (fun s x => s + max x (-x)) 0 = _
      rw [List.foldl_cons, Sp.sizes_from]; omega
    have hnn : ∀ m : List Int, 0 ≤ Sp.sizes m := by
      intro m
      induction m with
      | nil => decide
      | cons z m ihm =>
        have e2 : Sp.sizes (z :: m) = max z (-z) + Sp.sizes m := by
          show (z :: m).foldl (fun s x => s + max x (-x)) 0 = _
          rw [List.foldl_cons, Sp.sizes_from]; omega
        rw [e2]; omega
    have := hnn l
    rw [e]
    rcases List.mem_cons.1 h with rfl | h
    · omega
    · have := ih h; omega
theorem tdiv_within (a m A : Int) (hm : 0 < m) (h0 : -(A * m) ≤ a) (h1 : a ≤ A * m) : -A ≤ a.tdiv m ∧ a.tdiv m ≤ A := by
  rcases Int.le_total 0 a with h | h
  · rw [Int.tdiv_eq_ediv_of_nonneg h]
    have := Int.ediv_nonneg h (by omega : 0 ≤ m)
    have h2 : a / m ≤ A := Int.ediv_le_of_le_mul hm h1
    have h3 : 0 ≤ A := by
      rcases Int.lt_or_le A 0 with h4 | h4
      · have := Int.mul_neg_of_neg_of_pos h4 hm; omega
      · exact h4
    omega
  · have e : a.tdiv m = -((-a) / m) := by
      have h2 := Int.neg_tdiv (-a) m
      rw [Int.neg_neg] at h2
      rw [h2, Int.tdiv_eq_ediv_of_nonneg (by omega)]
    have := Int.ediv_nonneg (by omega : 0 ≤ -a) (by omega : 0 ≤ m)
    have h2 : (-a) / m ≤ A := Int.ediv_le_of_le_mul hm (by omega)
    have h3 : 0 ≤ A := by
      rcases Int.lt_or_le A 0 with h4 | h4
      · have := Int.mul_neg_of_neg_of_pos h4 hm; omega
      · exact h4
    rw [e]; omega
theorem fill_bd {lev : Nat} (hlev : lev ≤ 20) {l : List Int} (hl : ∀ x ∈ l, -8 ≤ x ∧ x ≤ 8) : ∀ y ∈ fillL lev l, -1048576 ≤ y ∧ y ≤ 1048576 := by
  intro y hy
  unfold fillL at hy
  split at hy
  · have := List.eq_of_mem_replicate hy; omega
  · rename_i hno
    obtain ⟨x, hx, rfl⟩ := List.mem_map.1 hy
    have hp : (2 : Int) ^ lev ≤ 2 ^ 20 := by exact_mod_cast (Nat.pow_le_pow_right (by omega) hlev)
    have hp0 : (0 : Int) < 2 ^ lev := by exact_mod_cast Nat.two_pow_pos lev
    have hm := sizes_mem hx
    have h8 := hl x hx
    simp only [not_or] at hno
    obtain ⟨K, hK⟩ : ∃ K, Sp.sizes l = K := ⟨_, rfl⟩
    obtain ⟨p, hpe⟩ : ∃ p : Int, 2 ^ lev = p := ⟨_, rfl⟩
    rw [hK] at hm hno ⊢
    rw [hpe] at hp hp0 ⊢
    have hK0 : 0 < K := by omega
    have b1 : K * p ≤ K * 1048576 := Int.mul_le_mul_of_nonneg_left hp (by omega)
    have b2 : x * p ≤ K * p := Int.mul_le_mul_of_nonneg_right (by omega) (by omega)
    have b3 : (-x) * p ≤ K * p := Int.mul_le_mul_of_nonneg_right (by omega) (by omega)
    rw [Int.neg_mul] at b3
    have e : x * 3 * p = 3 * (x * p) := by rw [Int.mul_comm x 3, Int.mul_assoc]
    exact tdiv_within _ _ 1048576 (by omega) (by rw [e]; omega) (by rw [e]; omega)
theorem bandV_bd {d : Sp.Dec} {c : Int} (hd : d.Ok c) {b lev k : Nat} (hb : b < 4) (hlev : lev ≤ 20) (hk : k ≤ 8) : ∀ y ∈ bandV d b lev k, -1048576 ≤ y ∧ y ≤ 1048576 := by
  unfold bandV
  split
  · intro y hy
    have := List.eq_of_mem_replicate hy
    omega
  · have hn8 := bandN_bd hb
    have hcp : 1 ≤ Sp.cnt (bandN b) k := by rw [Sp.cnt_row _ k (by omega)]; exact cnt_pos b hb k (by omega)
    obtain ⟨z, hz⟩ : ∃ z, (Sp.Dec.bitF 3 d (Sp.vbits (bandN b) k) 0 0).1 = z := ⟨_, rfl⟩
    rw [hz]
    obtain ⟨q, hq⟩ : ∃ q, Sp.cnt (bandN b) k = q := ⟨_, rfl⟩
    have hm0 := Int.emod_nonneg z (show ((Sp.cnt (bandN b) k : Nat) : Int) ≠ 0 by omega)
    have hm1 := Int.emod_lt_of_pos z (show (0 : Int) < ((Sp.cnt (bandN b) k : Nat) : Int) by omega)
    exact fill_bd hlev (Sp.vec_ok (bandN b) hn8 k _ hk hm0 (by rw [Sp.cntI_nat _ hk]; exact hm1)).2
structure BandsOk (p : Sp.Dec × List Int) (c : Int) : Prop where
  dec : p.1.Ok c
  len : p.2.length = 16
  bd : ∀ y ∈ p.2, -1048576 ≤ y ∧ y ≤ 1048576
theorem putL_mem {l : List Int} {o : Nat} {c : List Int} {y : Int} (h : y ∈ putL l o c) : y ∈ l ∨ y ∈ c := by
  unfold putL at h
  rcases List.mem_append.1 h with h | h
  · rcases List.mem_append.1 h with h | h
    · exact .inl (List.mem_of_mem_take h)
    · exact .inr h
  · exact .inl (List.mem_of_mem_drop h)
theorem off_fits : ∀ b < 4, offN b + bandN b ≤ 16 := by decide
theorem bandsS_ok {d : Sp.Dec} {c : Int} (hd : d.Ok c) {ls ks : List Int} (hl : LevelsOk ls) (hk : PulsesOk ks) (b : Nat) (hb : b ≤ 4) : BandsOk (bandsS d ls ks b) (c + 9 * b) := by
  induction b with
  | zero => exact ⟨by simpa [bandsS] using hd, by simp [bandsS], fun y hy => by have := List.eq_of_mem_replicate (show y ∈ List.replicate 16 0 from hy); omega⟩
  | succ b ih =>
    have h := ih (by omega)
    have h8 := hk.2 b (by omega)
    have h20 := hl.get (show b < 4 by omega)
    refine ⟨?_, ?_, ?_⟩
    · have h2 := bandD_ok h.dec b (ks.getD b 0).toNat (by omega) (by omega)
      rw [show c + 9 * (b : Int) + 9 = c + 9 * ((b + 1 : Nat) : Int) by omega] at h2
      exact h2
    · show (putL _ _ _).length = 16
      rw [putL_len (by rw [bandV_len, h.len]; exact off_fits b (by omega)), h.len]
    · intro y hy
      rcases putL_mem hy with h3 | h3
      · exact h.bd y h3
      · exact bandV_bd h.dec (by omega) (by omega) (by omega) y h3
theorem wavS_ok (s : ByteArray) (ls : List Int) : (wavS s ls).length = 16 ∧ (wavS s ls).any wideP = false := by
  have h := bandsS_ok (decN_ok s 4) (levsS_ok s ls) (pulS_ok s ls) 4 (Nat.le_refl _)
  refine ⟨h.len, ?_⟩
  rw [List.any_eq_false]
  intro x hx
  have := h.bd x hx
  simp [wideP]
  omega
/-- Levels alone make a state right. -/
theorem right_levels (ls : List Int) (h : ls.length = 4) : rightS (mkSt ls (List.replicate 16 0) 0) = ls.all levP := by
  match ls, h with
  | [a, b, c, d], _ =>
    have e1 : memL (mkSt [a, b, c, d] (List.replicate 16 0) 0) = List.replicate 16 0 := rfl
    have e2 : levL (mkSt [a, b, c, d] (List.replicate 16 0) 0) = [a, b, c, d] := rfl
    have e3 : lastL (mkSt [a, b, c, d] (List.replicate 16 0) 0) = 0 := rfl
    have e4 : wavL (mkSt [a, b, c, d] (List.replicate 16 0) 0) = List.replicate 16 0 := rfl
    have e5 : lostL (mkSt [a, b, c, d] (List.replicate 16 0) 0) = 0 := rfl
    unfold rightS
    rw [e1, e2, e3, e4, e5]
    have f1 : (List.replicate 16 (0 : Int)).all fitP = true := by decide
    have f2 : (List.replicate 16 (0 : Int)).any wideP = false := by decide
    have f3 : (Sp.cut 22 0 == 0) = true := by decide
    rw [f1, f2, f3]
    simp
end Go.Proofs.YtkoljgmapclhkaaGreatDoor
