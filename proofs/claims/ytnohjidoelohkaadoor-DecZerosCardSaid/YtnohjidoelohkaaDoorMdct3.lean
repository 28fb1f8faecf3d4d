/- The walk of mdct.Over: frames laid over one another. -/
import Derived.Test.YtnohjidoelohkaaDoorMdct2
namespace Go.Proofs.YtnohjidoelohkaaDoor
open Go.RowKit

theorem cut32_bd (x : Int) : -2147483648 ≤ Sp.cut 32 x ∧ Sp.cut 32 x ≤ 2147483647 := by
  have e : Sp.cut 32 x = max (min x 2147483647) (-2147483648) := rfl
  rw [e]; omega
structure OverW (w wr : World) (B : Nat) (a b : List Int) (F : Nat → Int) (k : Nat) : Prop where
  a : Blk wr B (arrV a) 27
  b : Blk wr (B + 1) (arrV b) 27
  res : Blk wr (B + 2) (arrV (List.replicate 16 0)) 27
  out : Blk wr (B + 3) (arrV (filled F 16 k)) 27
  far : Below B w wr
theorem OverW.drew {w wr : World} {B : Nat} {a b : List Int} {F : Nat → Int} {k : Nat} (h : OverW w wr B a b F k) : OverW w wr.drew B a b F k := ⟨h.a.drew, h.b.drew, h.res.drew, h.out.drew, h.far.drew⟩
theorem OverW.put {w wr : World} {B : Nat} {a b : List Int} {F : Nat → Int} {k : Nat} (h : OverW w wr B a b F k) (x : Int) (hx : x = F k) : OverW w (wr.setCell ⟨B + 3, k, none⟩ (.int .i64 x)) B a b F (k + 1) :=
  ⟨h.a.other (by simp only []; omega) _, h.b.other (by simp only []; omega) _, h.res.other (by simp only []; omega) _, by subst hx; rw [← filled_set, ← arr_set]; exact h.out.set k _, h.far.setCell (by show B ≤ B + 3; omega) _⟩
set_option maxRecDepth 100000 in
set_option maxHeartbeats 1600000 in
theorem Over_any (a b : List Int) (ha : a.length = 16) (hb : b.length = 16) (w : World) : Calls Tryd.prog 24 #[.agg (arrV a), .agg (arrV b)] w fun e w' => e = .returned (.agg (arrV (overL a b))) ∧ Below w.heap.size w w' := by
  obtain ⟨hA, hR1, hR2, hO0, hb0, hs0⟩ := four_new w (arrV a) (arrV b) #[.int .i64 0, .int .i64 0, .int .i64 0, .int .i64 0, .int .i64 0, .int .i64 0, .int .i64 0, .int .i64 0, .int .i64 0, .int .i64 0, .int .i64 0, .int .i64 0, .int .i64 0, .int .i64 0, .int .i64 0, .int .i64 0] #[.int .i64 0, .int .i64 0, .int .i64 0, .int .i64 0, .int .i64 0, .int .i64 0, .int .i64 0, .int .i64 0, .int .i64 0, .int .i64 0, .int .i64 0, .int .i64 0, .int .i64 0, .int .i64 0, .int .i64 0, .int .i64 0] 27 27 27 27
  obtain ⟨B, hB⟩ : ∃ B, w.heap.size = B := ⟨_, rfl⟩
  obtain ⟨F, hF⟩ : ∃ F : Nat → Int, (fun i => Sp.cut 32 (Sp.cut 32 (a.getD i 0) + Sp.cut 32 (b.getD i 0))) = F := ⟨_, rfl⟩
  have hL : filled F 16 16 = overL a b := by rw [filled_all, ← hF]; rfl
  have hFk : ∀ i, Sp.cut 32 (Sp.cut 32 (a.getD i 0) + Sp.cut 32 (b.getD i 0)) = F i := fun i => by rw [← hF]
  have HL := Lib.hid hL
  have HF := Lib.hid hFk
  clear hL hFk hF
  go_enter Tryd.func24, Tryd.ntmps24
  go_upto_region 2 with (fail)
  simp only [hB] at hA hR1 hR2 hO0 hb0 hs0 ⊢
  revert hA hR1 hR2 hO0 hb0 hs0
  generalize ((((w.alloc (.cells (arrV a) 27)).alloc (.cells (arrV b) 27)).alloc (.cells #[.int .i64 0, .int .i64 0, .int .i64 0, .int .i64 0, .int .i64 0, .int .i64 0, .int .i64 0, .int .i64 0, .int .i64 0, .int .i64 0, .int .i64 0, .int .i64 0, .int .i64 0, .int .i64 0, .int .i64 0, .int .i64 0] 27)).alloc (.cells #[.int .i64 0, .int .i64 0, .int .i64 0, .int .i64 0, .int .i64 0, .int .i64 0, .int .i64 0, .int .i64 0, .int .i64 0, .int .i64 0, .int .i64 0, .int .i64 0, .int .i64 0, .int .i64 0, .int .i64 0, .int .i64 0] 27)) = w0
  intro hA hR1 hR2 hO0 hb0 hs0
  rw [zero16] at hR2 hO0
  rw [← filled_zero F] at hO0
  go_wp2_with fail
  go_loopw [7] (fun i wr => ∃ k : Nat, k ≤ 16 ∧ i = .int .i64 k ∧ OverW w wr B a b F k) (fun i _ => 16 - (intOf i).toNat)
  case atStart => exact ⟨0, by omega, rfl, hA, hR1, hR2, hO0, hb0⟩
  case round =>
    obtain ⟨k, hk, rfl, hW⟩ := hrel
    by_cases hlt : k < 16
    · have hfk := HF.out k
      have c1 := (hW.a.cell k).trans (arr_get (by rw [ha]; exact hlt))
      have c2 := (hW.b.cell k).trans (arr_get (by rw [hb]; exact hlt))
      obtain ⟨v0, hv0⟩ := filled_get F 16 k hlt
      have c4 := (hW.out.cell k).trans hv0
      have f4 := hW.out.frozen k
      obtain ⟨x, hx⟩ : ∃ x, a.getD k 0 = x := ⟨_, rfl⟩
      obtain ⟨y, hy⟩ : ∃ y, b.getD k 0 = y := ⟨_, rfl⟩
      rw [hx] at c1 hfk
      rw [hy] at c2 hfk
      have hcx := fun w => Cut32 x w
      have hcy := fun w => Cut32 y w
      have bx := cut32_bd x
      have by' := cut32_bd y
      obtain ⟨p, hp⟩ : ∃ p, Sp.cut 32 x = p := ⟨_, rfl⟩
      obtain ⟨q, hq⟩ : ∃ q, Sp.cut 32 y = q := ⟨_, rfl⟩
      rw [hp] at bx hfk
      rw [hq] at by' hfk
      simp only [hp] at hcx
      simp only [hq] at hcy
      have hcz := fun w => Cut32 (p + q) w
      rw [hfk] at hcz
      obtain ⟨z, hz⟩ : ∃ z, F k = z := ⟨_, rfl⟩
      simp only [hz] at hcz
      have hP := hW.put z hz.symm
      have hwr : IntKind.i64.wrap (p + q) = p + q := IntWalk.i64_in _ (by omega)
      clear hx hy hp hq hfk hz
      have y0 : wr.cell? ⟨B, k, none⟩ = some (.int .i64 x) ∧ wr.cell? ⟨B + 1, k, none⟩ = some (.int .i64 y) := ⟨c1, c2⟩
      go_wp2_with fail
      first | go_region_held3 (fun w' => w'.cell? ⟨B, k, none⟩ = some (.int .i64 x) ∧ w'.cell? ⟨B + 1, k, none⟩ = some (.int .i64 y)) (first | (with_reducible exact y0) | (simp only [World.cell?_drew, World.cell?_drewN]; with_reducible exact y0) | (simp only [World.cell?_drew, World.cell?_drewN]; refine ⟨?_, ?_⟩ <;> (rw [World.cell?_setCell_far _ _ _ _ (by dsimp only; omega)]; first | (with_reducible exact y0.1) | (with_reducible exact y0.2)))) (first | (go_at_call_of 25 x; refine (hcx _).mono ?_; rintro r5 w5 ⟨rfl, rfl⟩) | (go_at_call_of 25 y; refine (hcy _).mono ?_; rintro r5 w5 ⟨rfl, rfl⟩) | (go_at_call_of 25 (p + q); refine (hcz _).mono ?_; rintro r5 w5 ⟨rfl, rfl⟩))
      all_goals
        go_wp2_with fail
        go_roundw
        case rel => exact ⟨k + 1, hlt, by go_num, hP.drew⟩
        case measure => simp [intOf]; omega
    · obtain rfl : k = 16 := by omega
      have hlen : (filled F 16 16).length = 16 := filled_len _ _ _
      obtain ⟨L, hL⟩ : ∃ L, filled F 16 16 = L := ⟨_, rfl⟩
      have HL2 := Lib.hid (HL.out.symm.trans hL)
      have ho := hW.out
      have hr := hW.res
      have hfar := hW.far
      rw [hL] at hlen ho
      have hsz2 : (Tryd.prog.info? 27).map (·.size) = some (arrV L).size := by rw [arr_size, hlen]; exact blockInfo
      have hsz3 : (arrV (List.replicate 16 0)).size = (arrV L).size := by rw [arr_size, arr_size, hlen]; rfl
      clear hL hW
      go_wp2_with (first | (refine wpList_load_blk rfl 27 (.tmp 5) rfl (B + 3) rfl (arrV L) 27 ho Tryd.underlying27 hsz2 ?_) | (refine wpList_store_blk rfl 27 (.tmp 4) (.tmp 23) rfl (B + 2) _ (arrV L) rfl rfl 27 hr hsz2 hsz3 (arr_one _) ?_))
      exact bodyPost_ret (v := .agg (arrV L)) (results_cell_row Tryd.results24 _ _ (B + 2) 27 _ (0, 0) (.array 16 3) rfl hr.setRow Tryd.underlying27 rfl hsz2) rfl ⟨by rw [HL2.out], by rw [hB]; exact Below.setRow hfar (g := B + 2) (by omega) (arrV L)⟩
end Go.Proofs.YtnohjidoelohkaaDoor
