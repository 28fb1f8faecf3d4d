/- The walks of the acts: set, sync, tick, stop, check. -/
import Derived.Test.YtkoljgmapclhkaaGreatDoorModB
set_option linter.unusedSimpArgs false
set_option linter.unusedVariables false
namespace Go.Proofs.YtkoljgmapclhkaaGreatDoor
open Go.RowKit

set_option maxRecDepth 100000 in
theorem reply_0 : Tryz.prog.built 46 [] = some #[.int .i64 0, .slice none 0 0] := by kernel_rfl
set_option maxRecDepth 100000 in
theorem reply_1 (e : Int) : Tryz.prog.built 46 [(0, .int .i64 e)] = some #[.int .i64 e, .slice none 0 0] := by rfl
theorem bool_two (b : Bool) : b = false ∨ b = true := by cases b <;> simp
/-- An act as it is handed over. -/
def actV (a : Mact) (p : Option Addr) (cap : Nat) : Array Value := #[.int .i64 a.what, .slice p a.frame.length cap, .int .i64 a.n]
set_option maxRecDepth 100000 in
set_option maxHeartbeats 4000000 in
theorem set_any {w : World} {g : Nat} {M : Mst} {v : Value} (h : MB w g M v) (x y : Value) (an : Int) :
    Calls Tryz.prog 45 #[.pointer (some ⟨g, 0, none⟩), .agg #[x, y, .int .i64 an]] w (RetR w g v ({ M with fuse := max an (-1) }, 0)) := by
  obtain ⟨f, hf⟩ : ∃ f, max an (-1) = f := ⟨_, rfl⟩
  rw [hf]
  have hg := h.lt
  have HVO := Lib.hid (fun k hk => (h.olt k hk).2)
  obtain ⟨B, hB⟩ : ∃ B, w.heap.size = B := ⟨_, rfl⟩
  have HVB := h.vb hB
  rw [hB] at hg HVO
  have hfar := Kept.refl (fun k => k = g ∨ v.ownBlock = some k) w
  have hsz : B ≤ w.heap.size := by omega
  go_enter Tryz.func45, Tryz.ntmps45
  go_upto_region 1 with (fail)
  refine wp_gen (fun W => MB W (g) (M) (v) ∧ Blk W (B) (#[x, y, .int .i64 an]) 50 ∧ Blk W (B + 1) (#[.int .i64 0, .slice none 0 0]) 46 ∧ Kept (fun k => k = g ∨ v.ownBlock = some k) w W ∧ B + 2 ≤ W.heap.size) ⟨mb_, bk_, bk_, kp_, sz_⟩ ?_
  clear h hfar hsz
  rintro w1 ⟨h, hA, hR, hfar, hsz⟩
  obtain ⟨_, _, _, _, _, _, c104⟩ := h.cells
  have f104 := h.frz 104
  have d2 := hA.cell 2
  simp only [List.getElem?_toArray, List.getElem?_cons_zero, List.getElem?_cons_succ] at d2
  go_wp2_with (first | (refine bd 46 rfl (by rfl) rfl reply_0 ?_) | (refine bd 46 rfl (by rfl) rfl (reply_1 _) ?_) | (refine st 46 rfl (by rfl) w_Reply rfl rfl bk_ zz_ zz_ one_ ?_))
  exact bodyPost_ret (v := .agg #[.int .i64 0, .slice none 0 0]) (res_c Tryz.results45 rfl w_Reply (by exact bk_) rfl) rfl ⟨v, rfl, (h.setFuse f).setRow (b := B + 1) (by omega) (fun k hk => by have := HVO.out k hk; omega) _, ⟨(hfar.setCell (.inl (.inl rfl)) _).setRow (g := B + 1) (.inr (by omega)) _, fun _ hk => .inl hk⟩⟩
set_option maxRecDepth 100000 in
set_option maxHeartbeats 4000000 in
theorem sync_any {w : World} {g : Nat} {M : Mst} {v : Value} (h : MB w g M v) (hfu : -1 ≤ M.fuse ∧ M.fuse ≤ 9223372036854775807) {av : Array Value} (hav : av.size = 3) :
    Calls Tryz.prog 40 #[.pointer (some ⟨g, 0, none⟩), .agg av] w (RetR w g v (syncM M)) := by
  have hS : syncM M = syncM M := rfl
  conv at hS => rhs; unfold syncM
  obtain ⟨R, hR0⟩ : ∃ R, syncM M = R := ⟨_, rfl⟩
  rw [hR0] at hS ⊢
  have HS := Lib.hid hS
  clear hS hR0
  have hg := h.lt
  have HVO := Lib.hid (fun k hk => (h.olt k hk).2)
  obtain ⟨B, hB⟩ : ∃ B, w.heap.size = B := ⟨_, rfl⟩
  have HVB := h.vb hB
  rw [hB] at hg HVO
  have hfar := Kept.refl (fun k => k = g ∨ v.ownBlock = some k) w
  have hsz : B ≤ w.heap.size := by omega
  go_enter Tryz.func40, Tryz.ntmps40
  go_upto_region 1 with (fail)
  refine wp_gen (fun W => MB W (g) (M) (v) ∧ Blk W (B) (av) 50 ∧ Blk W (B + 1) (#[.int .i64 0, .slice none 0 0]) 46 ∧ Kept (fun k => k = g ∨ v.ownBlock = some k) w W ∧ B + 2 ≤ W.heap.size) ⟨mb_, bk_, bk_, kp_, sz_⟩ ?_
  clear h hfar hsz
  rintro w1 ⟨h, hA, hR, hfar, hsz⟩
  obtain ⟨_, c99, _, c101, c102, _, c104⟩ := h.cells
  have f104 := h.frz 104
  have f102 := h.frz 102
  rcases (bool_two M.run) with hr | hr
  case inl =>
    rw [hr] at c99
    obtain rfl : R = (M, 8) := by rw [HS.out, if_pos hr]
    clear hr
    go_wp2_with (first | (refine bd 46 rfl (by rfl) rfl reply_0 ?_) | (refine bd 46 rfl (by rfl) rfl (reply_1 _) ?_) | (refine st 46 rfl (by rfl) w_Reply rfl rfl bk_ zz_ zz_ one_ ?_))
    exact bodyPost_ret (v := .agg #[.int .i64 8, .slice none 0 0]) (res_c Tryz.results40 rfl w_Reply (by exact bk_) rfl) rfl ⟨v, rfl, h.setRow (b := B + 1) (by omega) (fun k hk => by have := HVO.out k hk; omega) _, ⟨hfar.setRow (g := B + 1) (.inr (by omega)) _, fun _ hk => .inl hk⟩⟩
  case inr =>
    rw [hr] at c99
    by_cases h0 : M.fuse = 0
    · obtain rfl : R = (iceM M, 6) := by rw [HS.out, if_neg (by rw [hr]; decide), if_pos h0]
      clear hr
      rw [h0] at c104
      go_wp2_with (first | (refine bd 46 rfl (by rfl) rfl reply_0 ?_) | (refine bd 46 rfl (by rfl) rfl (reply_1 _) ?_) | (refine st 46 rfl (by rfl) w_Reply rfl rfl bk_ zz_ zz_ one_ ?_))
      refine (freeze_any h 6).mono ?_
      rintro e w2 ⟨v2, rfl, h2, ht2⟩
      have hR2 := ht2.blk hR (by omega) (fun e => by have := HVO.out _ e; omega)
      go_wp2_with (first | (refine bd 46 rfl (by rfl) rfl reply_0 ?_) | (refine bd 46 rfl (by rfl) rfl (reply_1 _) ?_) | (refine st 46 rfl (by rfl) w_Reply rfl rfl bk_ zz_ zz_ one_ ?_))
      exact bodyPost_ret (v := .agg #[.int .i64 6, .slice none 0 0]) (res_c Tryz.results40 rfl w_Reply (by exact bk_) rfl) rfl ⟨v2, rfl, h2.setRow (b := B + 1) (by omega) (fun k hk => by
        rcases ht2.row k hk with hk | hk
        · have := HVO.out k hk; omega
        · omega) _, (Trn.trans ⟨hfar, fun _ hk => .inl hk⟩ ht2).far (b := B + 1) (by omega) _⟩
    · have q1 : (M.fuse == 0) = false := by simpa using h0
      by_cases h1 : 0 < M.fuse
      · obtain rfl : R = ({ M with syn := M.now, fuse := M.fuse - 1 }, 0) := by rw [HS.out, if_neg (by rw [hr]; decide), if_neg h0, if_pos h1]
        clear hr
        go_wp2_with (first | (refine bd 46 rfl (by rfl) rfl reply_0 ?_) | (refine bd 46 rfl (by rfl) rfl (reply_1 _) ?_) | (refine st 46 rfl (by rfl) w_Reply rfl rfl bk_ zz_ zz_ one_ ?_))
        exact bodyPost_ret (v := .agg #[.int .i64 0, .slice none 0 0]) (res_c Tryz.results40 rfl w_Reply (by exact bk_) rfl) rfl ⟨v, rfl, ((h.setFuse (M.fuse - 1)).setSyn M.now).setRow (b := B + 1) (by omega) (fun k hk => by have := HVO.out k hk; omega) _, ⟨((hfar.setCell (.inl (.inl rfl)) _).setCell (.inl (.inl rfl)) _).setRow (g := B + 1) (.inr (by omega)) _, fun _ hk => .inl hk⟩⟩
      · obtain rfl : R = ({ M with syn := M.now }, 0) := by rw [HS.out, if_neg (by rw [hr]; decide), if_neg h0, if_neg h1]
        clear hr
        go_wp2_with (first | (refine bd 46 rfl (by rfl) rfl reply_0 ?_) | (refine bd 46 rfl (by rfl) rfl (reply_1 _) ?_) | (refine st 46 rfl (by rfl) w_Reply rfl rfl bk_ zz_ zz_ one_ ?_))
        exact bodyPost_ret (v := .agg #[.int .i64 0, .slice none 0 0]) (res_c Tryz.results40 rfl w_Reply (by exact bk_) rfl) rfl ⟨v, rfl, (h.setSyn M.now).setRow (b := B + 1) (by omega) (fun k hk => by have := HVO.out k hk; omega) _, ⟨(hfar.setCell (.inl (.inl rfl)) _).setRow (g := B + 1) (.inr (by omega)) _, fun _ hk => .inl hk⟩⟩
set_option maxRecDepth 100000 in
set_option maxHeartbeats 4000000 in
theorem stop_any {w : World} {g : Nat} {M : Mst} {v : Value} (h : MB w g M v) (hfu : -1 ≤ M.fuse ∧ M.fuse ≤ 9223372036854775807) {av : Array Value} (hav : av.size = 3) :
    Calls Tryz.prog 42 #[.pointer (some ⟨g, 0, none⟩), .agg av] w (RetR w g v (stopM M)) := by
  have hS : stopM M = ({ (syncM M).1 with run := false }, (syncM M).2) := rfl
  have hsy := fun w (h : MB w g M v) => sync_any h hfu hav
  obtain ⟨⟨N, E⟩, hN⟩ : ∃ N, syncM M = N := ⟨_, rfl⟩
  rw [hS]
  simp only [hN] at hsy ⊢
  have HSY := Lib.hid hsy
  clear hS hN hsy
  have hg := h.lt
  have HVO := Lib.hid (fun k hk => (h.olt k hk).2)
  obtain ⟨B, hB⟩ : ∃ B, w.heap.size = B := ⟨_, rfl⟩
  have HVB := h.vb hB
  rw [hB] at hg HVO
  have hfar := Kept.refl (fun k => k = g ∨ v.ownBlock = some k) w
  have hsz : B ≤ w.heap.size := by omega
  go_enter Tryz.func42, Tryz.ntmps42
  go_upto_region 1 with (fail)
  refine wp_gen (fun W => MB W (g) (M) (v) ∧ Blk W (B) (av) 50 ∧ Blk W (B + 1) (#[.int .i64 0, .slice none 0 0]) 46 ∧ Kept (fun k => k = g ∨ v.ownBlock = some k) w W ∧ B + 2 ≤ W.heap.size) ⟨mb_, bk_, bk_, kp_, sz_⟩ ?_
  clear h hfar hsz
  rintro w1 ⟨h, hA, hR, hfar, hsz⟩
  go_wp2_with (first | (refine ld 50 rfl (by rfl) w_Mact rfl hA hav ?_) | (first | (refine bd 46 rfl (by rfl) rfl reply_0 ?_) | (refine bd 46 rfl (by rfl) rfl (reply_1 _) ?_) | (refine st 46 rfl (by rfl) w_Reply rfl rfl bk_ zz_ zz_ one_ ?_)))
  refine (HSY.out _ h).mono ?_
  rintro e w2 ⟨v2, rfl, h2, ht2⟩
  dsimp only at h2
  have hR2 := ht2.blk hR (by omega) (fun e => by have := HVO.out _ e; omega)
  have hT := Trn.trans ⟨hfar, fun _ hk => .inl hk⟩ ht2
  have hs2 := ht2.size
  obtain ⟨C, hC⟩ : ∃ C, w2.heap.size = C := ⟨_, rfl⟩
  have hBC : B + 2 ≤ C := by omega
  have hv2 : ∀ k, v2.ownBlock = some k → k ≠ B + 1 ∧ k < C := fun k hk => by
    have := (h2.olt k hk).2
    rcases ht2.row k hk with hk | hk
    · have := HVO.out k hk; omega
    · omega
  clear HVO HVB h hA hR hfar hsz
  have HVO := Lib.hid hv2
  have HVB : VB v2 C := ⟨fun k hk => (hv2 k hk).2⟩
  have hfar := hT.kept
  have HROW := Lib.hid hT.row
  have hsz : C ≤ w2.heap.size := by omega
  clear hv2 hT ht2 HSY
  go_upto_region 2 with (first | (refine bd 46 rfl (by rfl) rfl reply_0 ?_) | (refine bd 46 rfl (by rfl) rfl (reply_1 _) ?_) | (refine st 46 rfl (by rfl) w_Reply rfl rfl bk_ zz_ zz_ one_ ?_))
  refine wp_gen (fun W => MB W (g) (N) (v2) ∧ Blk W (B + 1) (#[.int .i64 0, .slice none 0 0]) 46 ∧ Blk W (C) (#[.int .i64 E, .slice none 0 0]) 46 ∧ Kept (fun k => k = g ∨ v.ownBlock = some k) w W ∧ C + 1 ≤ W.heap.size) ⟨mb_, bk_, bk_, kq_, sz_⟩ ?_
  clear h2 hR2 hfar hsz
  rintro w3 ⟨h2, hR2, hQ, hfar, hsz⟩
  obtain ⟨_, c99, _⟩ := h2.cells
  have f99 := h2.frz 99
  go_wp2_with (first | (refine ld 46 rfl (by rfl) w_Reply rfl bk_ zz_ ?_) | (first | (refine bd 46 rfl (by rfl) rfl reply_0 ?_) | (refine bd 46 rfl (by rfl) rfl (reply_1 _) ?_) | (refine st 46 rfl (by rfl) w_Reply rfl rfl bk_ zz_ zz_ one_ ?_)))
  exact bodyPost_ret (v := .agg #[.int .i64 E, .slice none 0 0]) (res_c Tryz.results42 rfl w_Reply (by exact bk_) rfl) rfl ⟨v2, rfl, (h2.setRun false).setRow (b := B + 1) (by omega) (fun k hk => (HVO.out k hk).1) _, ⟨by exact kq_, HROW.out⟩⟩
set_option maxRecDepth 100000 in
set_option maxHeartbeats 4000000 in
theorem tick_any {w : World} {g : Nat} {M : Mst} {v : Value} (h : MB w g M v) {k n : Nat} (hO : M.Ok k n) (hk : k ≤ 1000000) {av : Array Value} (hav : av.size = 3) :
    Calls Tryz.prog 39 #[.pointer (some ⟨g, 0, none⟩), .agg av] w (RetR w g v (tickM M)) := by
  have hS : tickM M = tickM M := rfl
  conv at hS => rhs; unfold tickM
  have hsy := fun w (h : MB w g { M with now := M.now + 1 } v) => sync_any h hO.fuse hav
  obtain ⟨R, hR0⟩ : ∃ R, tickM M = R := ⟨_, rfl⟩
  rw [hR0] at hS ⊢
  have hno := hO.now
  have hsn := hO.syn
  have hs1 := hO.sy
  have HS := Lib.hid hS
  have HSY := Lib.hid hsy
  clear hS hR0 hsy hO
  have hg := h.lt
  have HVO := Lib.hid (fun k hk => (h.olt k hk).2)
  obtain ⟨B, hB⟩ : ∃ B, w.heap.size = B := ⟨_, rfl⟩
  have HVB := h.vb hB
  rw [hB] at hg HVO
  have hfar := Kept.refl (fun k => k = g ∨ v.ownBlock = some k) w
  have hsz : B ≤ w.heap.size := by omega
  go_enter Tryz.func39, Tryz.ntmps39
  go_upto_region 1 with (fail)
  refine wp_gen (fun W => MB W (g) (M) (v) ∧ Blk W (B) (av) 50 ∧ Blk W (B + 1) (#[.int .i64 0, .slice none 0 0]) 46 ∧ Kept (fun k => k = g ∨ v.ownBlock = some k) w W ∧ B + 2 ≤ W.heap.size) ⟨mb_, bk_, bk_, kp_, sz_⟩ ?_
  clear h hfar hsz
  rintro w1 ⟨h, hA, hR, hfar, hsz⟩
  obtain ⟨⟨_, c1, _⟩, c99, _, c101, c102, _, _⟩ := h.cells
  have f101 := h.frz 101
  go_upto_region 2 with (fail)
  have h' := h.setNow (M.now + 1)
  refine wp_gen (fun W => MB W g { M with now := M.now + 1 } v ∧ Blk W B av 50 ∧ Blk W (B + 1) #[.int .i64 0, .slice none 0 0] 46 ∧ Kept (fun k => k = g ∨ v.ownBlock = some k) w W ∧ B + 2 ≤ W.heap.size) ⟨h', hA.other (by simp only []; omega) _, hR.other (by simp only []; omega) _, kq_, by rw [World.size_setCell]; exact hsz⟩ ?_
  clear h h' hA hR hfar hsz c1 c99 c101 c102 f101
  rintro w2 ⟨h, hA, hR, hfar, hsz⟩
  obtain ⟨⟨_, c1, _⟩, c99, _, c101, c102, _, _⟩ := h.cells
  rcases bool_two M.run with hr | hr
  case inl =>
    rw [hr] at c99
    obtain rfl : R = ({ M with now := M.now + 1 }, 0) := by rw [HS.out, if_neg (by rw [hr]; simp)]
    clear hr
    go_quiet (fail)
    go_wp2_with (first | (refine bd 46 rfl (by rfl) rfl reply_0 ?_) | (refine bd 46 rfl (by rfl) rfl (reply_1 _) ?_) | (refine st 46 rfl (by rfl) w_Reply rfl rfl bk_ zz_ zz_ one_ ?_))
    exact bodyPost_ret (v := .agg #[.int .i64 0, .slice none 0 0]) (res_c Tryz.results39 rfl w_Reply (by exact bk_) rfl) rfl ⟨v, rfl, by exact mb_, ⟨by exact kq_, fun _ hk => .inl hk⟩⟩
  case inr =>
    rw [hr] at c99
    by_cases hc : M.sy ≤ M.now + 1 - M.syn
    · obtain rfl : R = syncM { M with now := M.now + 1 } := by rw [HS.out, if_pos ⟨hr, hc⟩]
      clear hr
      go_quiet (fail)
      go_wp2_with (first | (refine ld 50 rfl (by rfl) w_Mact rfl (hA.drewN _) hav ?_) | (first | (refine bd 46 rfl (by rfl) rfl reply_0 ?_) | (refine bd 46 rfl (by rfl) rfl (reply_1 _) ?_) | (refine st 46 rfl (by rfl) w_Reply rfl rfl bk_ zz_ zz_ one_ ?_)))
      refine (HSY.out _ (h.drewN _)).mono ?_
      rintro e w5 ⟨v5, rfl, h5, ht5⟩
      have hR5 := ht5.blk (hR.drewN _) (by omega) (fun e => by have := HVO.out _ e; omega)
      have hs5 := ht5.size
      have hs5' : B + 2 ≤ w5.heap.size := Nat.le_trans hsz hs5
      go_wp2_with (first | (refine bd 46 rfl (by rfl) rfl reply_0 ?_) | (refine bd 46 rfl (by rfl) rfl (reply_1 _) ?_) | (refine st 46 rfl (by rfl) w_Reply rfl rfl bk_ zz_ zz_ one_ ?_))
      exact bodyPost_ret (v := .agg #[.int .i64 (syncM { M with now := M.now + 1 }).2, .slice none 0 0]) (res_c Tryz.results39 rfl w_Reply (by exact bk_) rfl) rfl ⟨v5, rfl, h5.setRow (b := B + 1) (by omega) (fun k hk => by
        rcases ht5.row k hk with hk | hk
        · have := HVO.out k hk; omega
        · have : B + 2 ≤ k := Nat.le_trans hsz hk
          omega) _, (Trn.trans ⟨hfar.drewN _, fun _ hk => .inl hk⟩ ht5).far (b := B + 1) (by omega) _⟩
    · obtain rfl : R = ({ M with now := M.now + 1 }, 0) := by rw [HS.out, if_neg (by rw [hr]; simpa using hc)]
      clear hr
      go_quiet (fail)
      go_wp2_with (first | (refine bd 46 rfl (by rfl) rfl reply_0 ?_) | (refine bd 46 rfl (by rfl) rfl (reply_1 _) ?_) | (refine st 46 rfl (by rfl) w_Reply rfl rfl bk_ zz_ zz_ one_ ?_))
      exact bodyPost_ret (v := .agg #[.int .i64 0, .slice none 0 0]) (res_c Tryz.results39 rfl w_Reply (by exact bk_) rfl) rfl ⟨v, rfl, by exact mb_, ⟨by exact kq_, fun _ hk => .inl hk⟩⟩
end Go.Proofs.YtkoljgmapclhkaaGreatDoor
