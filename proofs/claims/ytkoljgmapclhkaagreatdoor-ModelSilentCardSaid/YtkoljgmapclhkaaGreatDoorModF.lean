/- The walks of model.frame and (*model.Model).feed. -/
import Derived.Test.YtkoljgmapclhkaaGreatDoorModH
set_option linter.unusedSimpArgs false
set_option linter.unusedVariables false
namespace Go.Proofs.YtkoljgmapclhkaaGreatDoor
open Go.RowKit

/-- Whole numbers that lie in memory, apart from a recorder's. -/
def FrIn (W : World) (G : Nat) (V : Value) (p : Option Addr) (cap : Nat) (fr : List Int) : Prop :=
  fr.length ≤ cap ∧ cap ≤ 9223372036854775807 ∧ ∀ (i : Nat) (x : Int), fr[i]? = some x → ∃ a, p = some a ∧ (a.block ≠ G ∧ V.ownBlock ≠ some a.block) ∧ a.block < W.heap.size ∧ W.cell? (a.add i) = some (.int .i64 x)
theorem cell_eq {W W' : World} {a : Addr} (h : W'.heap[a.block]? = W.heap[a.block]?) : W'.cell? a = W.cell? a := by unfold World.cell?; rw [h]
theorem FrIn.keep {S : Nat → Prop} {W W' : World} {G : Nat} {V : Value} {p : Option Addr} {cap : Nat} {fr : List Int} (h : FrIn W G V p cap fr) (hk : Kept S W W') (hS : ∀ k, S k → k = G ∨ V.ownBlock = some k) : FrIn W' G V p cap fr := by
  obtain ⟨h1, h2, h3⟩ := h
  refine ⟨h1, h2, fun i x hx => ?_⟩
  obtain ⟨a, hp, hG, hl, hc⟩ := h3 i x hx
  have hb := hk.block a.block hl (fun e => by rcases hS _ e with e | e; exact hG.1 e; exact hG.2 e)
  exact ⟨a, hp, hG, Nat.lt_of_lt_of_le hl hk.size, (cell_eq (by rw [addr_block]; exact hb)).trans hc⟩
theorem FrIn.below {W W' : World} {G : Nat} {V : Value} {p : Option Addr} {cap : Nat} {fr : List Int} (h : FrIn W G V p cap fr) (hb : Below W.heap.size W W') : FrIn W' G V p cap fr := h.keep (S := fun _ => False) (Kept.of_below hb) (fun _ e => e.elim)
theorem FrIn.nil (W : World) (G : Nat) (V : Value) (cap : Nat) (hc : cap ≤ 9223372036854775807) : FrIn W G V none cap [] := ⟨Nat.zero_le _, hc, fun i x hx => by cases i <;> cases hx⟩
/-- A load at any address. -/
theorem lda {ops : Array Oper} {rest : List Oper} {op : Oper} {a : Act} {w : World} {Q : Exit → Act → World → Prop} (ty : TypeId) {x : Operand} (ho : op.op = .load ty x) (hwd : Region.wanted op (yielded ops a.tmps) = true) {n : Nat} (hW : Whole ty n)
    {ad : Addr} (hx : a.eval x = .pointer (some ad)) {L : List Int} (hb : ∀ i x, L[i]? = some x → w.cell? (ad.add i) = some (.int .i64 x)) (hs : L.length = n) (h : wpList Tryz.prog ops Q rest (a.put op.dst (.agg (arrV L))) w) : wpList Tryz.prog ops Q (op :: rest) a w :=
  wpList_step fun K hK => by
    rw [if_pos hwd]
    obtain ⟨d, hu, hd, hi⟩ := hW
    have hl : (loadCells ad (intsV L).length).run Tryz.prog w = .ok (arrV L) w := run_loadCells_list (P := Tryz.prog) w ad (intsV L) (fun j v hv => by
      rw [List.getElem?_map] at hv
      cases hj : L[j]? with
      | none => rw [hj] at hv; cases hv
      | some y => rw [hj] at hv; cases hv; exact hb j y hj)
    rw [List.length_map, hs] at hl
    have hr : (loadVar ty ad).run Tryz.prog w = .ok (.agg (arrV L)) w := by
      cases hq : Tryz.prog.info? ty with
      | none => simp [hq] at hi
      | some i =>
        have hs : i.size = n := by simpa [hq] using hi
        have hagg : (isAgg ty).run Tryz.prog w = .ok true w := by
          unfold isAgg
          rw [Sem.run_bind, run_underlying hu w]
          cases d <;> simp_all
        simp [loadVar, Sem.run_bind, hagg, sizeOf, typeInfo, hq, hs, hl]
    unfold Oper.wp execOp
    simp only [ho, hx, Instr.loadAt, Instr.sureAddr, Sem.run_bind, Sem.run_pure, Result.andThen_ok, hr]
    exact hK _ _ h
set_option maxRecDepth 100000 in
set_option maxHeartbeats 4000000 in
theorem frame_any {fr : List Int} {G : Nat} {V : Value} {p : Option Addr} {cap : Nat} {w : World} (hF : FrIn w G V p cap fr) (hl : fr.length ≤ 1000000) :
    Calls Tryz.prog 76 #[.slice p fr.length cap] w fun r w' => ∃ b e, r = .returned (.tuple #[.agg (arrV b), .int .i64 e]) ∧ ((fr.length = 16 ∧ b = fr ∧ e = 0) ∨ (fr.length ≠ 16 ∧ b = zs 16 ∧ e = 10)) ∧ Below w.heap.size w w' := by
  obtain ⟨n, hn⟩ : ∃ n, fr.length = n := ⟨_, rfl⟩
  have HN := Lib.hid hn
  rw [hn] at hl ⊢
  obtain ⟨B, hB⟩ : ∃ B, w.heap.size = B := ⟨_, rfl⟩
  have hfar := Below.refl B w
  have hsz : B ≤ w.heap.size := by omega
  by_cases h16 : n = 16
  · subst h16
    obtain ⟨x0, hx0⟩ : ∃ x, fr[0]? = some x := ⟨_, List.getElem?_eq_getElem (by omega)⟩
    obtain ⟨a, rfl, -, -, -⟩ := hF.2.2 0 x0 hx0
    have LB := Len.mk hn
    have hFF := Lib.hid hF
    clear hF hx0 hn
    go_enter Tryz.func76, Tryz.ntmps76
    go_upto_region 1 with (fail)
    refine wp_gen (fun W => Blk W (B) (arrV (zs 16)) 26 ∧ Below (B) w W ∧ B + 1 ≤ W.heap.size) ⟨bk_, bl_, sz_⟩ ?_
    clear hfar hsz
    rintro w1 ⟨hN, hfar, hsz⟩
    have HC : Hid (∀ i x, fr[i]? = some x → w1.cell? (a.add i) = some (.int .i64 x)) := Lib.hid (fun i x hx => by
      obtain ⟨a', e, _, _, h⟩ := (hFF.out.below (by rw [hB]; exact hfar)).2.2 i x hx
      cases e; exact h)
    have hsa := fun w => Go.Proofs.YtkoljgmapclhkaaGreatDoor.run_arrayAt (cap := cap) 26 Tryz.underlying26 (Nat.le_refl 16) a w
    go_upto_region 3 with (fail)
    go_wp2_with (first | (refine lda 26 rfl (by rfl) w_Block rfl HC.out LB.out ?_) | (refine st 26 rfl (by rfl) w_Block rfl rfl hN (Len.zs 16).sz LB.sz one_ ?_))
    exact bodyPost_ret (v := .tuple #[.agg (arrV fr), .int .i64 0]) (res_ct Tryz.results76 rfl w_Block (by exact bk_) LB.sz rfl) rfl ⟨fr, 0, rfl, .inl ⟨by first | rfl | trivial, rfl, rfl⟩, (by (try rw [hB]); exact bl_)⟩
  · have hq : ((n : Int) == 16) = false := by simp; omega
    clear hF
    go_enter Tryz.func76, Tryz.ntmps76
    go_upto_region 1 with (fail)
    refine wp_gen (fun W => Blk W (B) (arrV (zs 16)) 26 ∧ Below (B) w W ∧ B + 1 ≤ W.heap.size) ⟨bk_, bl_, sz_⟩ ?_
    clear hfar hsz
    rintro w1 ⟨hN, hfar, hsz⟩
    go_wp2_with (first | (refine st 92 rfl (by rfl) w_Entry rfl rfl bk_ zz_ zz_ one_ ?_) | (refine ld 92 rfl (by rfl) w_Entry rfl bk_ zz_ ?_) | (refine bd 29 rfl (by rfl) rfl state_zs ?_) | (refine bd 26 rfl (by rfl) rfl block_zs ?_) | (refine ld 29 rfl (by rfl) w_State rfl bk_ lz_ ?_) | (refine ld 26 rfl (by rfl) w_Block rfl bk_ lz_ ?_) | (refine ldp 26 rfl (by rfl) w_Block rfl bk_ ln_ (by omega) ?_) | (refine ld 27 rfl (by rfl) w_Four rfl bk_ lz_ ?_) | (refine ldp 27 rfl (by rfl) w_Four rfl bk_ ln_ (by omega) ?_) | (refine st 29 rfl (by rfl) w_State rfl rfl bk_ lz_ lz_ one_ ?_) | (refine st 26 rfl (by rfl) w_Block rfl rfl bk_ lz_ lz_ one_ ?_) | (refine st 27 rfl (by rfl) w_Four rfl rfl bk_ lz_ lz_ one_ ?_))
    exact bodyPost_ret (v := .tuple #[.agg (arrV (zs 16)), .int .i64 10]) (res_ct Tryz.results76 rfl w_Block (by exact bk_) (Len.zs 16).sz rfl) rfl ⟨zs 16, 10, rfl, .inr ⟨h16, rfl, rfl⟩, (by (try rw [hB]); exact bl_)⟩
theorem enc_either {M : Mst} {k n : Nat} (hO : M.Ok k n) {fr : List Int} (h16 : fr.length = 16) : ∃ (PK : ByteArray) (X : ESt) (NL : List Int) (ER : Int), (∀ w, BandsW w → Calls Tryz.prog 31 #[.agg (arrV M.e.l), .agg (arrV fr), .int .i64 M.sz] w fun r w' => r = .returned (.tuple #[.string PK, .agg (arrV NL), .int .i64 ER]) ∧ Below w.heap.size w w') ∧ Len NL 55 ∧
    ((ER = 0 ∧ fr.all sound16 = true ∧ PK = packE M.sz.toNat M.e fr ∧ X = nextE M.sz.toNat M.e fr ∧ NL = X.l) ∨ (ER = 1 ∧ fr.all sound16 = false)) := by
  have hs := hO.sz
  have hz : ((M.sz.toNat : Nat) : Int) = M.sz := Int.toNat_of_nonneg (by omega)
  by_cases ha : fr.all sound16 = true
  · have hb : S16 fr := ⟨h16, fun x hx => (cut16_iff x).1 (List.all_eq_true.1 ha x hx)⟩
    refine ⟨_, nextE M.sz.toNat M.e fr, _, 0, fun w hW => ?_, Len.mk (est_len (nextE_ok (size := M.sz.toNat) (by omega) (by omega) hO.e hb)), .inl ⟨rfl, ha, rfl, rfl, rfl⟩⟩
    have := EncodeE_any (size := M.sz.toNat) (by omega) (by omega) hO.e hb w hW
    rw [hz] at this
    exact this
  · refine ⟨_, e0, _, 1, fun w hW => Encode_arg M.e.P M.e.L fr M.e.last hO.e.1 hO.e.2.1 h16 M.sz hs.1 hs.2 (fun e => ha e.2) w, Len.zs 55, .inr ⟨rfl, by simpa using ha⟩⟩
end Go.Proofs.YtkoljgmapclhkaaGreatDoor
