/- The walks of the range coder's reference (spoolref07). -/
import Derived.Test.YthpjkgpngbdhbaaGreatDoorLot0
set_option linter.unusedSimpArgs false
set_option linter.unusedVariables false
namespace Go.Proofs.YthpjkgpngbdhbaaGreatDoor
open Go.RowKit

theorem infoI64 : (Tryz.prog.info? 3).map (fun i => (i.zero, i.size, i.bytes)) = some (some (.int .i64 0), 1, 8) := by kernel_rfl

def RetREnc (w : World) (p : List Int × Int) (e : Ending) (w' : World) : Prop :=
  ∃ lv, e = .returned (.agg #[lv, .int .i64 p.2]) ∧ Row w' 3 lv (intsV p.1) ∧ Below w.heap.size w w' ∧ ∀ k, lv.ownBlock = some k → w.heap.size ≤ k

set_option maxRecDepth 100000 in
set_option maxHeartbeats 1600000 in
theorem RPut_any (lv : Value) (low : List Int) (r x y t : Int) (hb : Sp.Bytes low) (hl0 : 0 < low.length) (hl1 : (low.length : Int) ≤ 1000000000) (hr0 : 16777216 ≤ r) (hr1 : r ≤ 4294967295) (hc : Sp.cellIs x y t) (w : World)
    (hR : Row w 3 lv (intsV low)) :
    Calls Tryz.prog 35 #[.agg #[lv, .int .i64 r], .agg #[.int .i64 x, .int .i64 y, .int .i64 t]] w (RetREnc w (Sp.rput low r x y t)) := by
  obtain ⟨i0, hi, hz0, hz1, hz2⟩ := info_parts infoI64
  obtain ⟨R, hRR⟩ : ∃ R, Sp.rput low r x y t = R := ⟨_, rfl⟩
  rw [hRR]
  have HR := Lib.hid hRR
  clear hRR
  obtain ⟨g1, g2, g3, g4, g5, g6⟩ := hc
  obtain ⟨b1, b2, b3⟩ := Sp.step_bd hr0 hr1 g1 g2
  have m1 := Sp.mul_bd b1 g4 (by omega : y ≤ t) b3
  have m2 := Sp.mul_bd0 b1 g3 (by omega : x ≤ t) b3
  obtain ⟨ob, cap, rfl, hob⟩ := hR.slice (by intro h; simp at h; subst h; simp at hl0)
  rw [List.length_map] at hR ⊢
  go_enter Tryz.func35, Tryz.ntmps35
  have hl64 : low.length ≤ 140737488355328 := by omega
  have hnews : ∀ (W : World), Kept (fun _ => False) w W → ∀ j u, (intsV low)[j]? = some u → W.cell? ((⟨ob, 0, none⟩ : Addr).add j) = some u := by
    intro W hW j u hu
    have hj : j < low.length := by
      rcases Nat.lt_or_ge j low.length with h | h
      · exact h
      · rw [List.getElem?_eq_none (by simpa using h)] at hu; cases hu
    have hadd : (⟨ob, 0, none⟩ : Addr).add j = ⟨ob, j, none⟩ := by unfold Addr.add; split <;> simp_all
    rw [hadd, (hR.keep hW (fun _ _ h => h)).cellAt (by simp) j hj, hu]
  have HN := Lib.hid hnews
  clear hnews
  go_wp2_with (at_builtin; refine wpList_append_lies _ rfl (.tmp 20) (.tmp 22) 62 rfl 0 3 i0 (.int .i64 0) 1 8 Tryz.underlying62 hi hz0 hz1 hz2 rfl (by decide) (.slice (some ⟨w.heap.size + 1 + 1 + 1, 0, none⟩) 0 0) 0 [] rfl (own_empty _ _ _ (by simp)) ⟨ob, 0, none⟩ low.length cap (intsV low) rfl (by simp) (HN.out _ (by repeat (first | (with_reducible exact Kept.refl _ _) | (with_reducible assumption) | (with_reducible refine Kept.drew ?_) | (with_reducible refine Kept.drewN ?_ _) | ((with_reducible refine Kept.setCell ?_ ?hp _); case hp => (first | exact Or.inl rfl | (left; simp; done) | (right; simp only [World.size_alloc, World.size_setCell, World.size_drew]; omega))) | (with_reducible refine Kept.alloc ?_ _)))) (by simp [Value.oneCell']) hl0 (by unfold maxLen; omega) (by omega) (Nat.zero_le _) _ rfl ?_; intro ga capa w1 hown1 hgrow1 hat1 hlt1)
  have hrow1 : Row w1 3 (.slice (some ⟨ga, 0, none⟩) low.length capa) (intsV low) := by
    have h := hown1
    simp only [Nat.zero_add, List.nil_append] at h
    exact Row.mk h
  have hga : w.heap.size + 3 ≤ ga := by
    rcases hat1 with h | h
    · simp [Value.ownBlock] at h; try omega
    · simp at h; try omega
  have hK1 : Kept (fun _ => False) w w1 := by
    refine Kept.grown (w' := (((w.alloc (.cells #[.slice (some ⟨ob, 0, none⟩) low.length cap, .int .i64 r] 73)).alloc (.cells #[.int .i64 x, .int .i64 y, .int .i64 t] 80)).alloc (.cells #[.slice none 0 0, .int .i64 0] 73)).alloc (.cells #[] 3)) ?_ hgrow1 ?_
    · repeat (first | (with_reducible exact Kept.refl _ _) | (with_reducible assumption) | (with_reducible refine Kept.drew ?_) | (with_reducible refine Kept.drewN ?_ _) | ((with_reducible refine Kept.setCell ?_ ?hp _); case hp => (first | exact Or.inl rfl | (left; simp; done) | (right; simp only [World.size_alloc, World.size_setCell, World.size_drew]; omega))) | (with_reducible refine Kept.alloc ?_ _))
    · intro k hk; right; simp [Value.ownBlock] at hk; try omega
  have bC : Blk w1 (w.heap.size + 1) #[.int .i64 x, .int .i64 y, .int .i64 t] 80 := by
    have h := Blk.new (w.alloc (.cells #[.slice (some ⟨ob, 0, none⟩) low.length cap, .int .i64 r] 73)) #[.int .i64 x, .int .i64 y, .int .i64 t] 80
    rw [World.size_alloc] at h
    exact ((h.alloc _).alloc _).kept hgrow1 (by simp [Value.ownBlock])
  have bR : Blk w1 (w.heap.size + 1 + 1) #[.slice none 0 0, .int .i64 0] 73 := by
    have h := Blk.new ((w.alloc (.cells #[.slice (some ⟨ob, 0, none⟩) low.length cap, .int .i64 r] 73)).alloc (.cells #[.int .i64 x, .int .i64 y, .int .i64 t] 80)) #[.slice none 0 0, .int .i64 0] 73
    rw [World.size_alloc, World.size_alloc] at h
    exact (h.alloc _).kept hgrow1 (by simp [Value.ownBlock])
  clear hown1 hgrow1 hat1
  obtain ⟨n, hn⟩ : ∃ n, low.length = n := ⟨_, rfl⟩
  simp only [Nat.zero_add, hn] at hl0 hl1 hl64 hrow1 HR ⊢
  have HL := Lib.hid hn
  obtain ⟨L, hL⟩ : ∃ L, Sp.addAt n 0 (r / t * x) low = L := ⟨_, rfl⟩
  have HLL := Lib.hid hL
  clear hn hL
  go_wp2_with fail
  go_loopw [6, 8, 9] (fun a c i wr => ∃ (j : Nat) (av cv : Int) (m : List Int), j ≤ n ∧ i = .int .i64 ((j : Int) - 1) ∧ a = .int .i64 av ∧ c = .int .i64 cv ∧ 0 ≤ av ∧ av ≤ 4294967295 ∧ 0 ≤ cv ∧ cv ≤ 1 ∧ Hid (m.length = n) ∧ Sp.Bytes m ∧ Hid (Sp.addAt j cv av m = L) ∧
      Row wr 3 (.slice (some ⟨ga, 0, none⟩) n capa) (intsV m) ∧ Kept (fun k => k = ga) w1 wr) (fun _ _ i _ => (intOf i + 1).toNat)
  case atStart => exact ⟨n, r / t * x, 0, low, Nat.le_refl _, rfl, rfl, rfl, m2.1, by omega, by omega, by omega, HL, hb, HLL, hrow1, Kept.refl _ _⟩
  case round =>
    obtain ⟨j, av, cv, m, hj, rfl, rfl, rfl, ha0, ha1, hc0, hc1, hml, hmb, hmL, hRow, hK⟩ := hrel
    rcases j with _ | j
    · rw [show ((0 : Nat) : Int) - 1 = -1 from rfl]
      have := hmL.out
      simp only [Sp.addAt] at this
      subst this
      have bC2 := bC.keep hK (by omega)
      have bR2 := bR.keep hK (by omega)
      have d1 := bC2.cell 1
      simp only [List.getElem?_toArray, List.getElem?_cons_zero, List.getElem?_cons_succ] at d1
      go_wp2_with fail
      have hRL : Sp.rnorm 3 (m, r / t * y) = R := by
        have h := HR.out
        rw [Sp.rput, HL.out, HLL.out] at h
        exact h
      have HRL := Lib.hid hRL
      have HE := Lib.hid (Sp.Enough.three m1.1)
      clear hRL
      go_loopw [7, 10] (fun v q wr => ∃ (k : Nat) (l : List Int) (rr : Int) (g0 m0 c0 : Nat), v = .slice (some ⟨g0, 0, none⟩) m0 c0 ∧ q = .int .i64 rr ∧ 1 ≤ rr ∧ rr ≤ 4294967295 ∧ Hid (Sp.Enough rr k) ∧ Hid (Sp.rnorm k (l, rr) = R) ∧ Hid (l.length = m0) ∧ m0 + k ≤ n + 3 ∧ Row wr 3 (.slice (some ⟨g0, 0, none⟩) m0 c0) (intsV l) ∧ Kept (fun _ => False) w wr ∧
        Blk wr (w.heap.size + 1 + 1) #[.slice none 0 0, .int .i64 0] 73 ∧ w.heap.size ≤ g0) (fun _ q _ => (4294967296 - intOf q).toNat)
      case atStart =>
        exact ⟨3, m, _, ga, n, capa, rfl, rfl, by omega, by omega, HE, HRL, hml, by omega, hRow, hK1.andThen hK (fun k h => .inr (by omega)), bR2, by omega⟩
      case round =>
        obtain ⟨k, l, rr, g0, m0, c0, rfl, rfl, hq0, hq1, hE, hN, hlm, hlen, hRw, hKw, hBw, hF⟩ := hrel
        by_cases hlt : rr < 16777216
        · obtain ⟨k, rfl⟩ := hE.out.pos hlt
          have hm64 : m0 + 1 ≤ 1000000010 := by omega
          go_wp2_with (at_builtin; refine wpList_append_lies _ rfl (.tmp 57) (.tmp 58) 62 rfl 0 3 i0 (.int .i64 0) 1 8 Tryz.underlying62 hi hz0 hz1 hz2 rfl (by decide) (.slice (some ⟨g0, 0, none⟩) m0 c0) m0 (intsV l) rfl (by have h := hRw.alloc (.cells #[.int .i64 0] 3); unfold Row at h; rw [List.length_map, hlm.out] at h; exact h) ⟨wr.heap.size, 0, none⟩ 1 1 [.int .i64 0] rfl rfl (World.news_of_block (World.alloc_heap_new _ _)) (by simp [Value.oneCell']) (by decide) (by unfold maxLen; omega) (by omega) (Nat.zero_le _) _ rfl ?_; intro gb capb w3 hown3 hgrow3 hat3 hlt3)
          have hrow3 : Row w3 3 (.slice (some ⟨gb, 0, none⟩) (m0 + 1) capb) (intsV (l ++ [0])) := by
            rw [intsV, List.map_append]
            exact Row.mk hown3
          have hsz := hKw.size
          have hgb : w.heap.size ≤ gb := by
            rcases hat3 with h | h
            · simp [Value.ownBlock] at h; omega
            · simp at h; omega
          have hK3 : Kept (fun _ => False) w w3 := (hKw.alloc _).grown hgrow3 (fun k hk => .inr (by simp [Value.ownBlock] at hk; omega))
          have hB3 : Blk w3 (w.heap.size + 1 + 1) #[.slice none 0 0, .int .i64 0] 73 := (hBw.alloc _).kept hgrow3 (fun e => hRw.ne hBw (by decide) e.symm)
          go_roundw
          case rel =>
            have hn2 := hN.out
            rw [Sp.rnorm_step (by simpa using hlt)] at hn2
            exact ⟨k, l ++ [0], rr * 256, gb, m0 + 1, capb, rfl, rfl, by omega, by omega, Lib.hid hE.out.step, Lib.hid hn2, Lib.hid (by rw [List.length_append, hlm.out]; rfl), by omega, hrow3, hK3, hB3, hgb⟩
          case measure => simp [intOf]; omega
        · have := hN.out
          rw [Sp.rnorm_done (by simp only; omega)] at this
          subst this
          have hsz := hBw.lt
          have e0 := hBw.cell 0
          have e1 := hBw.cell 1
          simp only [List.getElem?_toArray, List.getElem?_cons_zero, List.getElem?_cons_succ] at e0 e1
          have f0 := hBw.frozen 0
          have f1 := hBw.frozen 1
          have hne := hRw.ne hBw (by decide)
          have hsz2 := hKw.size
          go_wp2_with fail
          obtain ⟨WF, hWF⟩ : ∃ WF, (wr.setCell ⟨w.heap.size + 1 + 1, 0, none⟩ (.slice (some ⟨g0, 0, none⟩) m0 c0)).setCell ⟨w.heap.size + 1 + 1, 1, none⟩ (.int .i64 rr) = WF := ⟨_, rfl⟩
          have bF : Blk WF (w.heap.size + 1 + 1) #[.slice (some ⟨g0, 0, none⟩) m0 c0, .int .i64 rr] 73 := by rw [← hWF]; (apply Blk.mk_eq; (case h => repeat' (first | (with_reducible assumption) | (with_reducible apply Blk.drew) | (with_reducible apply Blk.drewN) | (with_reducible apply Blk.set) | ((with_reducible refine Blk.other ?_ ?ne _); case ne => (first | (simp only []; omega) | omega)) | (with_reducible apply Blk.alloc))); (case e => first | rfl | simp))
          have c0' := bF.cell 0
          have c1' := bF.cell 1
          simp only [List.getElem?_toArray, List.getElem?_cons_zero, List.getElem?_cons_succ] at c0' c1'
          have hRF : Row WF 3 (.slice (some ⟨g0, 0, none⟩) m0 c0) (intsV l) := by rw [← hWF]; repeat' (first | (with_reducible assumption) | (with_reducible refine Row.drew ?_) | (with_reducible refine Row.drewN ?_ _) | (with_reducible refine Row.alloc ?_ _) | ((with_reducible refine Row.far ?_ _ ?ne _); case ne => (first | (with_reducible assumption) | (simp only []; assumption))))
          have hKF : Kept (fun _ => False) w WF := by rw [← hWF]; repeat (first | (with_reducible exact Kept.refl _ _) | (with_reducible assumption) | (with_reducible refine Kept.drew ?_) | (with_reducible refine Kept.drewN ?_ _) | ((with_reducible refine Kept.setCell ?_ ?hp _); case hp => (first | exact Or.inl rfl | (left; simp; done) | (right; simp only [World.size_alloc, World.size_setCell, World.size_drew]; omega))) | (with_reducible refine Kept.alloc ?_ _))
          rw [hWF]
          exact bodyPost_ret (v := .agg #[.slice (some ⟨g0, 0, none⟩) m0 c0, .int .i64 rr]) (by simp [results, Tryz.results35, go_sem, c0', c1']) rfl ⟨_, rfl, hRF, hKF.below (fun _ h => h.elim) (Nat.le_refl _), by intro k hk; simp [Value.ownBlock] at hk; omega⟩
    · rw [show (((j + 1 : Nat) : Int)) - 1 = (j : Int) from by omega]
      have hjm : j < m.length := by rw [hml.out]; omega
      have hbd := hmb.get hjm
      have hml' : (intsV m).length = n := by rw [List.length_map, hml.out]
      have hcell := hRow.cellAt hml' j (by omega)
      rw [ints_get hjm] at hcell
      have hfz := hRow.frozenAt hml' j
      obtain ⟨z, hz⟩ : ∃ z, m.getD j 0 = z := ⟨_, rfl⟩
      rw [hz] at hbd hcell
      have HZ := Lib.hid hz
      have HM := Lib.hid hml'
      clear hz hml' hjm
      go_wp2_with fail
      go_roundw
      case rel =>
        have := hmL.out
        rw [Sp.addAt, HZ.out] at this
        refine ⟨j, av / 256, (cv + z + av % 256) / 256, m.set j ((cv + z + av % 256) % 256), by omega, rfl, rfl, rfl, by omega, by omega, by omega, by omega, Lib.hid (by rw [List.length_set]; exact hml.out), hmb.set j (by omega) (by omega), Lib.hid this, ?_, hK.setCell (p := ⟨ga, j, none⟩) (.inl (Eq.refl ga)) _⟩
        rw [intsV, ← ints_set, show (cv + z + av % 256) % 256 = (cv + z + av) % 256 from by omega]
        exact hRow.stored HM.out j _
      case measure => simp [intOf]
end Go.Proofs.YthpjkgpngbdhbaaGreatDoor
