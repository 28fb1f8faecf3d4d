/- The walks of the range encoder: carry, settle. -/
import Derived.Test.YtlhjkichambaoaaDoorRangD
import Derived.Test.YtlhjkichambaoaaDoorSpecRangE
namespace Go.Proofs.YtlhjkichambaoaaDoor
open Go.RowKit

abbrev encC (e : Sp.Enc) (v : Value) : Array Value := #[.int .i64 e.size, .int .u64 e.low, .int .u32 e.rng, v, .int .i64 e.gone]
abbrev bytesV (l : List Int) : List Value := l.map (Value.int .u8)

set_option maxHeartbeats 800000 in
theorem carry_any (g : Nat) (a0 a1 a2 v a4 : Value) (l : List Int) (hl : Sp.Bytes l) (hn : (l.length : Int) ≤ 1000000000000) (w : World)
    (hB : Blk w g #[a0, a1, a2, v, a4] 66) (hR : Row w 5 v (bytesV l)) :
    Calls Tryd.prog 42 #[.pointer (some ⟨g, 0, none⟩)] w fun e w' => e = .returned (.tuple #[]) ∧ Row w' 5 v (bytesV (Sp.carryL l)) ∧ Kept (fun k => v.ownBlock = some k) w w' := by
  have c3 := hB.cell 3
  simp only [List.getElem?_toArray, List.getElem?_cons_zero, List.getElem?_cons_succ] at c3
  by_cases hx : l = []
  · subst hx
    obtain ⟨h1, h2⟩ := hR
    rcases h2 with ⟨rfl, _⟩ | ⟨ob, cap, cur, rfl, _, hg, hc, hm, hs, ht⟩
    · go_enter Tryd.func42, Tryd.ntmps42
      go_wp2
      refine wp_loop_rounds 1 ?_
      rw [rounds_succ]
      go_wp2
      go_end0
      exact ⟨rfl, Row.nil _ _, Kept.refl _ _⟩
    · go_enter Tryd.func42, Tryd.ntmps42
      go_wp2
      refine wp_loop_rounds 1 ?_
      rw [rounds_succ]
      go_wp2
      go_end0
      exact ⟨rfl, ⟨h1, .inr ⟨ob, cap, cur, rfl, Nat.zero_le _, hg, hc, hm, hs, ht⟩⟩, Kept.refl _ _⟩
  · obtain ⟨ob, cap, rfl, hob⟩ := hR.slice (by simpa using hx)
    have hgo : g ≠ ob := fun e => hR.ne hB (by decide) (by simp [Value.ownBlock, e])
    simp only [List.length_map] at hR c3 hB ⊢
    have hpos : 0 < l.length := List.length_pos_iff.2 hx
    obtain ⟨R, hRr⟩ : ∃ R, Sp.carryL l = R := ⟨_, rfl⟩
    rw [hRr]
    have HR := Lib.hid hRr
    clear hRr
    obtain ⟨n, hn1⟩ : ∃ n, l.length = n := ⟨_, rfl⟩
    rw [hn1] at hR c3 hB hpos hn ⊢
    have HN := Lib.hid hn1
    clear hn1
    go_enter Tryd.func42, Tryd.ntmps42
    go_wp2
    go_loopw [2] (fun i wr => ∃ (j : Nat) (m : List Int), j ≤ n ∧ i = .int .i64 ((j : Int) - 1) ∧ Hid (m.length = n) ∧ Sp.Bytes m ∧ Hid (Sp.carryAt j m = R) ∧ Row wr 5 (.slice (some ⟨ob, 0, none⟩) n cap) (bytesV m) ∧ Kept (fun k => (Value.slice (some ⟨ob, 0, none⟩) n cap).ownBlock = some k) w wr) (fun i _ => (intOf i + 1).toNat)
    case atStart => exact ⟨n, l, Nat.le_refl _, rfl, HN, hl, by have := HR.out; rw [Sp.carryL, HN.out] at this; exact this, hR, Kept.refl _ _⟩
    case round =>
      obtain ⟨j, m, hj, rfl, hml, hmb, hmR, hRow, hK⟩ := hrel
      have hBr := hB.keep hK (by simp [Value.ownBlock]; omega)
      have d3 := hBr.cell 3
      simp only [List.getElem?_toArray, List.getElem?_cons_zero, List.getElem?_cons_succ] at d3
      rcases j with _ | j
      · go_wp2
        go_end0
        have := hmR.out
        simp only [Sp.carryAt] at this
        subst this
        exact ⟨rfl, hRow, hK⟩
      · rw [show (((j + 1 : Nat) : Int)) - 1 = (j : Int) from by omega]
        have hjm : j < m.length := by rw [hml.out]; omega
        have hbd := hmb.get hjm
        have hml' : (bytesV m).length = n := by rw [List.length_map, hml.out]
        have hcell := hRow.cellAt hml' j (by omega)
        rw [bytes_get hjm] at hcell
        have hfz := hRow.frozenAt hml' j
        have HM := Lib.hid hml'
        clear hml'
        obtain ⟨x, hxx⟩ : ∃ x, m.getD j 0 = x := ⟨_, rfl⟩
        rw [hxx] at hbd hcell
        have HX := Lib.hid hxx
        clear hxx
        go_wp2
        · rename_i hne
          refine bodyPost_ret (results_none rfl _ _ _) rfl ?_
          have hb : ¬ (x + 1) % 256 = 0 := by simpa using hne
          have := hmR.out
          rw [Sp.carryAt, HX.out] at this
          simp only [if_neg hb] at this
          subst this
          refine ⟨rfl, ?_, hK.setCell (p := ⟨ob, j, none⟩) (.inl rfl) _⟩
          rw [bytesV, ← ints_set]
          exact hRow.stored HM.out j _
        · rename_i hne
          have hb : (x + 1) % 256 = 0 := by simpa using hne
          go_roundw
          case rel =>
            have := hmR.out
            rw [Sp.carryAt, HX.out] at this
            simp only [if_pos hb] at this
            refine ⟨j, _, by omega, rfl, Lib.hid (by rw [List.length_set]; exact hml.out), hmb.set j (by omega) (by omega), Lib.hid this, ?_, hK.setCell (p := ⟨ob, j, none⟩) (.inl rfl) _⟩
            rw [bytesV, ← ints_set]
            exact hRow.stored HM.out j _
          case measure => simp [intOf]

set_option maxHeartbeats 800000 in
theorem settle_any (g : Nat) (e : Sp.Enc) (v : Value) (h0 : 0 ≤ e.low) (h1 : e.low ≤ 8589934591) (hl : Sp.Bytes e.out) (hn : (e.out.length : Int) ≤ 1000000000000) (w : World)
    (hB : Blk w g (encC e v) 66) (hR : Row w 5 v (bytesV e.out)) :
    Calls Tryd.prog 34 #[.pointer (some ⟨g, 0, none⟩)] w fun x w' => x = .returned (.tuple #[]) ∧ Blk w' g (encC e.settle v) 66 ∧ Row w' 5 v (bytesV e.settle.out) ∧ Kept (fun k => k = g ∨ v.ownBlock = some k) w w' := by
  obtain ⟨E, hE⟩ : ∃ E, e.settle = E := ⟨_, rfl⟩
  rw [hE]
  obtain ⟨sz, lo, rn, out, go⟩ := e
  simp only at h0 h1 hl hn hR
  have c1 := hB.cell 1
  simp only [List.getElem?_toArray, List.getElem?_cons_zero, List.getElem?_cons_succ] at c1
  by_cases hlt : 4294967295 < lo
  · have hE' : E = ⟨sz, lo % 4294967296, rn, Sp.carryL out, go⟩ := by rw [← hE, Sp.Enc.settle, if_pos (by simpa using hlt)]
    subst hE'
    clear hE
    have hne := hR.ne hB (by decide)
    go_enter Tryd.func34, Tryd.ntmps34
    go_wp2_with fail
    refine (carry_any g _ _ _ v _ out hl hn _ hB hR).mono ?_
    rintro x w1 ⟨rfl, hR1, hK1⟩
    have hB1 := hB.keep hK1 hne
    have d1 := hB1.cell 1
    simp only [List.getElem?_toArray, List.getElem?_cons_zero, List.getElem?_cons_succ] at d1
    have f1 := hB1.frozen 1
    go_wp2_with fail
    rw [u64_and32 lo h0 (by omega)]
    go_end0
    refine ⟨rfl, ?_, ?_, ?_⟩
    · show Blk _ g #[.int .i64 sz, .int .u64 (lo % 4294967296), .int .u32 rn, v, .int .i64 go] _
      (apply Blk.mk_eq; (case h => repeat' (first | (with_reducible assumption) | (with_reducible apply Blk.drew) | (with_reducible apply Blk.drewN) | (with_reducible apply Blk.set) | ((with_reducible refine Blk.other ?_ ?ne _); case ne => (first | (simp only []; omega) | omega)) | (with_reducible apply Blk.alloc))); (case e => first | rfl | simp))
    · repeat' (first | (with_reducible assumption) | (with_reducible refine Row.drew ?_) | (with_reducible refine Row.drewN ?_ _) | (with_reducible refine Row.alloc ?_ _) | ((with_reducible refine Row.far ?_ _ ?ne _); case ne => (first | (with_reducible assumption) | (simp only []; assumption))))
    · exact (hK1.mono (T := fun k => k = g ∨ v.ownBlock = some k) (fun k h => Or.inr h)).setCell (p := ⟨g, 1, none⟩) (.inl (Or.inl (Eq.refl g))) _
  · have hE' : E = ⟨sz, lo, rn, out, go⟩ := by rw [← hE, Sp.Enc.settle, if_neg (by simpa using hlt)]
    subst hE'
    clear hE
    go_enter Tryd.func34, Tryd.ntmps34
    go_wp2
    go_end0
    exact ⟨rfl, hB, hR, Kept.refl _ _⟩
end Go.Proofs.YtlhjkichambaoaaDoor
