/- The walks of model.New where it refuses, Left, Running, Frozen, Entries. -/
import Derived.Test.YtkoljgmapclhkaaGreatDoorModJ
import Derived.Lib.SliceRun
set_option linter.unusedSimpArgs false
set_option linter.unusedVariables false
namespace Go.Proofs.YtkoljgmapclhkaaGreatDoor
open Go.RowKit

set_option maxRecDepth 100000 in
set_option maxHeartbeats 4000000 in
theorem New_wrong (pages sz sy ck : Int) (h : rightP sz sy ck = false ∨ rightG pages = false) (w : World) : Calls Tryz.prog 14 #[.int .i64 pages, .agg #[.int .i64 sz, .int .i64 sy, .int .i64 ck]] w fun r w' => r = .returned (.tuple #[.pointer none, .int .i64 1]) ∧ Below w.heap.size w w' := by
  have hr := fun w => PRight_any sz sy ck w
  obtain ⟨P, hP⟩ : ∃ P, rightP sz sy ck = P := ⟨_, rfl⟩
  simp only [hP] at hr h
  have HRT := Lib.hid hr
  have HG := Lib.hid h
  clear hr hP h
  obtain ⟨B, hB⟩ : ∃ B, w.heap.size = B := ⟨_, rfl⟩
  have hfar := Below.refl B w
  have hsz : B ≤ w.heap.size := by omega
  go_enter Tryz.func14, Tryz.ntmps14
  go_upto_region 1 with (fail)
  refine wp_gen (fun W => Blk W (B) (#[.int .i64 sz, .int .i64 sy, .int .i64 ck]) 41 ∧ Below (B) w W ∧ B + 1 ≤ W.heap.size) ⟨bk_, bl_, sz_⟩ ?_
  clear hfar hsz
  rintro w1 ⟨hA, hfar, hsz⟩
  go_wp2_with (refine ld 41 rfl (by rfl) w_Policy rfl bk_ (by rfl) ?_)
  refine (HRT.out _).mono ?_
  rintro e w2 ⟨rfl, hb2⟩
  replace hA := hA.newB hb2
  replace hfar := hfar.trans (hb2.mono (by omega))
  replace hsz := Nat.le_trans hsz hb2.size
  cases P with
  | false =>
    go_wp2_with fail
    go_ret2
    exact ⟨rfl, (by (try rw [hB]); exact bl_)⟩
  | true =>
    have hg : rightG pages = false := by rcases HG.out with h | h <;> first | cases h | exact h
    unfold rightG at hg
    by_cases g1 : pages < 32
    · go_wp2_with fail
      go_ret2
      exact ⟨rfl, (by (try rw [hB]); exact bl_)⟩
    · by_cases g2 : 1024 < pages
      · go_wp2_with fail
        go_ret2
        exact ⟨rfl, (by (try rw [hB]); exact bl_)⟩
      · have g3 : ¬ pages.tmod 16 = 0 := by
          rw [decide_eq_true (show 32 ≤ pages by omega), decide_eq_true (show pages ≤ 1024 by omega)] at hg
          simpa using hg
        have g5 : (pages % 16 != 0) = true := by
          rw [Int.tmod_eq_emod_of_nonneg (show (0 : Int) ≤ pages by omega)] at g3
          exact bne_iff_ne.2 g3
        clear g3
        have q1 : decide (pages < 32) = false := decide_eq_false g1
        have q2 : decide (1024 < pages) = false := decide_eq_false g2
        clear hg
        go_wp2_with fail
        go_ret2
        exact ⟨rfl, (by (try rw [hB]); exact bl_)⟩
set_option maxRecDepth 100000 in
theorem Left_any {w : World} {g : Nat} {M : Mst} {v : Value} (h : MB w g M v) {k n : Nat} (hO : M.Ok k n) : Calls Tryz.prog 17 #[.pointer (some ⟨g, 0, none⟩)] w fun r w' => r = .returned (.int .i64 ((M.pages : Int) - M.next)) ∧ Below w.heap.size w w' := by
  obtain ⟨⟨_, _, _, c3, c4, _⟩, _⟩ := h.cells
  have hp := hO.pages
  have hn := hO.next
  clear hO h
  obtain ⟨P, hP⟩ : ∃ P, M.pages = P := ⟨_, rfl⟩
  obtain ⟨N, hN⟩ : ∃ N, M.next = N := ⟨_, rfl⟩
  rw [hP] at c3 hp hn ⊢
  rw [hN] at c4 hn ⊢
  clear hP hN
  go_enter Tryz.func17, Tryz.ntmps17
  go_upto_region 3 with (fail)
  go_quiet (fail)
  go_wp2_with fail
  go_ret
  exact ⟨rfl, ⟨rfl, rfl, rfl, Nat.le_refl _, fun _ _ => rfl⟩⟩
theorem Left_nil (w : World) : Calls Tryz.prog 17 #[.pointer none] w fun r w' => r = .returned (.int .i64 0) ∧ w = w' := by
  go_enter Tryz.func17, Tryz.ntmps17
  go_wp2
  go_ret
  exact ⟨rfl, rfl⟩
set_option maxRecDepth 100000 in
theorem Running_any {w : World} {g : Nat} {M : Mst} {v : Value} (h : MB w g M v) : Calls Tryz.prog 19 #[.pointer (some ⟨g, 0, none⟩)] w fun r w' => r = .returned (.bool M.run) ∧ w = w' := by
  obtain ⟨_, c99, _⟩ := h.cells
  clear h
  go_enter Tryz.func19, Tryz.ntmps19
  go_wp2
  go_ret
  exact ⟨rfl, rfl⟩
theorem Running_nil (w : World) : Calls Tryz.prog 19 #[.pointer none] w fun r w' => r = .returned (.bool false) ∧ w = w' := by
  go_enter Tryz.func19, Tryz.ntmps19
  go_wp2
  go_ret
  exact ⟨rfl, rfl⟩
set_option maxRecDepth 100000 in
theorem Frozen_any {w : World} {g : Nat} {M : Mst} {v : Value} (h : MB w g M v) : Calls Tryz.prog 18 #[.pointer (some ⟨g, 0, none⟩)] w fun r w' => r = .returned (.bool M.fro) ∧ w = w' := by
  obtain ⟨_, _, c100, _⟩ := h.cells
  clear h
  go_enter Tryz.func18, Tryz.ntmps18
  go_wp2
  go_ret
  exact ⟨rfl, rfl⟩
theorem Frozen_nil (w : World) : Calls Tryz.prog 18 #[.pointer none] w fun r w' => r = .returned (.bool false) ∧ w = w' := by
  go_enter Tryz.func18, Tryz.ntmps18
  go_wp2
  go_ret
  exact ⟨rfl, rfl⟩
theorem bs0w {ops : Array Oper} {rest : List Oper} {op : Oper} {a : Act} {w : World} {Q : Exit → Act → World → Prop} (t : TypeId) (ho : op.op = .buildSlice t 0 #[]) (hwd : Region.wanted op (yielded ops a.tmps) = true) {e : TypeId} (ht : Tryz.prog.underlying t = some (.slice e)) {size : Nat} (he : ElemT e size)
    (h : ∀ v' w', OW w' w.heap.size w'.heap.size e size v' 0 [] → Below w.heap.size w w' → wpList Tryz.prog ops Q rest (a.put op.dst v') w') : wpList Tryz.prog ops Q (op :: rest) a w :=
  wpList_step fun _ hK => by rw [if_pos hwd]; exact wp_bs0 t ho ht he fun v' w' h1 h2 => hK _ _ (h v' w' h1 h2)
/-- A slice of entries in new memory. -/
def RetEn (w : World) (l : List Ent) (n : Nat) (e : Ending) (w' : World) : Prop :=
  ∃ p cap lo hi, e = .returned (.slice p n cap) ∧ SL w' lo hi 3 p n cap (flE l) ∧ w.heap.size ≤ lo ∧ Below w.heap.size w w'
set_option maxRecDepth 100000 in
set_option maxHeartbeats 4000000 in
theorem Clone_any {l : List Ent} {n : Nat} (hn : n ≤ 1000) (hl : n = l.length) {p : Option Addr} {lo hi cap : Nat} {w : World} (hs : SL w lo hi 3 p n cap (flE l)) : Calls Tryz.prog 47 #[.slice p n cap] w (RetEn w l n) := by
  have qT : ∀ (w : World) (a : Option Addr) (n c n' c' : Nat), (Go.binOp .eql 57 (.slice a n c) (.slice none n' c')).run Tryz.prog w = .ok (.bool a.isNone) w := fun w a n c n' c' => Lib.run_eql_slice_nil w _ _ a n c n' c' Tryz.underlying57
  have HL := Lib.hid hl
  obtain ⟨i0, hif, hz0, hz1, hz2⟩ := info_parts info_Entry
  obtain ⟨X, hX⟩ : ∃ X, flE l = X := ⟨_, rfl⟩
  have hone : ∀ u ∈ X, u.oneCell' = true := by rw [← hX]; exact flatE_one l
  rw [hX] at hs
  have HX := Lib.hid hX
  clear hX hl
  cases p with
  | none =>
    have hc := hs.2.2.2.2.1 rfl
    subst hc
    have hn0 : n = 0 := by have := hs.2.1; omega
    subst hn0
    go_enter Tryz.func47, Tryz.ntmps47
    go_wp2_with fail
    go_ret
    have hl0 : l = [] := List.eq_nil_of_length_eq_zero HL.out.symm
    subst hl0
    exact ⟨none, 0, w.heap.size, w.heap.size, rfl, SL.nil _ _ _ _ (Nat.le_refl _), Nat.le_refl _, Below.refl _ _⟩
  | some a =>
    have hhi := hs.2.2.2.1
    obtain ⟨B, hB⟩ : ∃ B, w.heap.size = B := ⟨_, rfl⟩
    go_enter Tryz.func47, Tryz.ntmps47
    go_wp2_with (first | (refine bs0w 57 rfl (by rfl) Tryz.underlying57 el_Entry ?_; intro v1 w1 hv1 hb1; have hs1 := hs.newB hb1; have hz1' := hb1.size) | (refine ap 57 rfl (by rfl) rfl B 92 i0 (.agg #[.int .i64 0, .int .u32 0, .string ⟨#[]⟩]) 3 32 Tryz.underlying57 hif hz0 hz1 hz2 rfl (by omega) rfl (hB ▸ hv1.1) rfl hs1 hone (by unfold maxLen; omega) (by omega) (by omega) ?_; intro v2 w2 hv2 hg2 _))
    go_ret
    simp only [Nat.zero_add, List.nil_append] at hv2
    obtain ⟨p2, c2, lo2, hi2, rfl, hs2, hlo2, hhi2⟩ := own_ex hv2
    exact ⟨p2, c2, lo2, hi2, rfl, by rw [HX.out]; exact hs2, by omega, hb1.grown hg2 (by omega) (fun k hk => (World.ownsRow.lt hv1.1 k hk).1)⟩
set_option maxRecDepth 100000 in
set_option maxHeartbeats 4000000 in
theorem MEntries_any {w : World} {g : Nat} {M : Mst} {v : Value} (h : MB w g M v) (hn : M.ents.length ≤ 1000) : Calls Tryz.prog 22 #[.pointer (some ⟨g, 0, none⟩)] w (RetEn w M.ents M.ents.length) := by
  obtain ⟨p, cp, hv, hs⟩ := h.slice
  obtain ⟨⟨_, _, _, _, _, c5⟩, _⟩ := h.cells
  have hcl := Clone_any hn rfl hs
  obtain ⟨L, hL⟩ : ∃ L, M.ents.length = L := ⟨_, rfl⟩
  rw [hL] at hv hcl ⊢
  rw [hv] at c5
  have HCL := Lib.hid hcl
  clear h hs hv hcl hn hL
  go_enter Tryz.func22, Tryz.ntmps22
  go_wp2_with fail
  refine HCL.out.mono ?_
  rintro e w2 ⟨p2, c2, lo2, hi2, rfl, hs2, hlo2, hb2⟩
  go_wp2_with fail
  go_ret
  exact ⟨p2, c2, lo2, hi2, rfl, hs2, hlo2, hb2⟩
theorem MEntries_nil (w : World) : Calls Tryz.prog 22 #[.pointer none] w fun r w' => r = .returned (.slice none 0 0) ∧ w = w' := by
  go_enter Tryz.func22, Tryz.ntmps22
  go_wp2
  go_ret
  exact ⟨rfl, rfl⟩
set_option maxRecDepth 100000 in
set_option maxHeartbeats 4000000 in
theorem Do_nil {av : Array Value} (hav : av.size = 3) (w : World) : Calls Tryz.prog 15 #[.pointer none, .agg av] w fun r w' => r = .returned (.agg #[.int .i64 8, .slice none 0 0]) ∧ Below w.heap.size w w' := by
  obtain ⟨B, hB⟩ : ∃ B, w.heap.size = B := ⟨_, rfl⟩
  have hfar := Below.refl B w
  have hsz : B ≤ w.heap.size := by omega
  go_enter Tryz.func15, Tryz.ntmps15
  go_upto_region 1 with (fail)
  refine wp_gen (fun W => Blk W (B) (av) 50 ∧ Blk W (B + 1) (#[.int .i64 0, .slice none 0 0]) 46 ∧ Below (B) w W ∧ B + 2 ≤ W.heap.size) ⟨bk_, bk_, bl_, sz_⟩ ?_
  clear hfar hsz
  rintro w1 ⟨hA, hR, hfar, hsz⟩
  go_wp2_with (first | (refine bd 46 rfl (by rfl) rfl (reply_1 _) ?_) | (refine st 46 rfl (by rfl) w_Reply rfl rfl bk_ zz_ zz_ one_ ?_))
  exact bodyPost_ret (v := .agg #[.int .i64 8, .slice none 0 0]) (res_c Tryz.results15 rfl w_Reply (by exact bk_) rfl) rfl ⟨rfl, (by (try rw [hB]); exact bl_)⟩
end Go.Proofs.YtkoljgmapclhkaaGreatDoor
