/- The walks of the range decoder. -/
import Derived.Test.YtnohjidoelohkaaDoorBase
import Derived.Test.YtnohjidoelohkaaDoorShelf
import Derived.Test.YtnohjidoelohkaaDoorSpecRang
namespace Go.Proofs.YtnohjidoelohkaaDoor
open Go.RowKit

def decC (d : Sp.Dec) : Array Value := #[.string d.s, .int .i64 d.pos, .int .u32 d.code, .int .u32 d.rng, .int .i64 d.gone]

set_option maxHeartbeats 400000 in
theorem cell_yes {a b t : Int} (h : Sp.cellIs a b t) (w : World) :
    Calls Tryd.prog 54 #[.int .i64 a, .int .i64 b, .int .i64 t] w fun e w' => e = .returned (.bool true) ∧ w = w' := by
  obtain ⟨h1, h2, h3, h4, h5, h6⟩ := h
  go_enter Tryd.func54, Tryd.ntmps54
  go_wp2
  go_ret
  exact ⟨rfl, rfl⟩

set_option maxHeartbeats 400000 in
theorem next_any (g : Nat) (s : ByteArray) (a c r n : Int) (w : World) (h0 : 0 ≤ a) (h1 : a ≤ 2000000000000) (hB : Blk w g #[.string s, .int .i64 a, .int .u32 c, .int .u32 r, .int .i64 n] 66) :
    Calls Tryd.prog 29 #[.pointer (some ⟨g, 0, none⟩)] w fun e w' => e = .returned (.int .u32 (Sp.byteAt s a)) ∧ Blk w' g #[.string s, .int .i64 (a + 1), .int .u32 c, .int .u32 r, .int .i64 n] 66 ∧ Kept (· = g) w w' := by
  obtain ⟨a, rfl⟩ := Int.eq_ofNat_of_zero_le h0
  have c0 := hB.cell 0
  have c1 := hB.cell 1
  simp only [List.getElem?_toArray, List.getElem?_cons_zero, List.getElem?_cons_succ] at c0 c1
  have f1 := hB.frozen 1
  by_cases hlt : a < s.size
  · go_enter Tryd.func29, Tryd.ntmps29
    go_wp2
    go_quiet (fail)
    go_wp2
    go_quiet (fail)
    go_wp2
    go_ret
    refine ⟨retInt (by rw [Sp.byteAt, dif_pos (by simpa using hlt)]; simp only [Int.toNat_natCast]; have := s[a].toNat_lt; omega), ?_, ?_⟩
    · (apply Blk.mk_eq; (case h => repeat' (first | (with_reducible assumption) | (with_reducible apply Blk.drew) | (with_reducible apply Blk.drewN) | (with_reducible apply Blk.set) | ((with_reducible refine Blk.other ?_ ?ne _); case ne => (first | (simp only []; omega) | omega)) | (with_reducible apply Blk.alloc))); (case e => first | rfl | simp))
    · repeat (first | (with_reducible exact Kept.refl _ _) | (with_reducible assumption) | (with_reducible refine Kept.drew ?_) | (with_reducible refine Kept.drewN ?_ _) | ((with_reducible refine Kept.setCell ?_ ?hp _); case hp => (first | exact Or.inl rfl | (left; simp; done) | (right; simp only [World.size_alloc, World.size_setCell, World.size_drew]; omega))) | (with_reducible refine Kept.alloc ?_ _))
  · go_enter Tryd.func29, Tryd.ntmps29
    go_wp2
    go_quiet (fail)
    go_wp2
    go_ret
    refine ⟨retInt (by rw [Sp.byteAt, dif_neg (by simp; omega)]), ?_, ?_⟩
    · (apply Blk.mk_eq; (case h => repeat' (first | (with_reducible assumption) | (with_reducible apply Blk.drew) | (with_reducible apply Blk.drewN) | (with_reducible apply Blk.set) | ((with_reducible refine Blk.other ?_ ?ne _); case ne => (first | (simp only []; omega) | omega)) | (with_reducible apply Blk.alloc))); (case e => first | rfl | simp))
    · repeat (first | (with_reducible exact Kept.refl _ _) | (with_reducible assumption) | (with_reducible refine Kept.drew ?_) | (with_reducible refine Kept.drewN ?_ _) | ((with_reducible refine Kept.setCell ?_ ?hp _); case hp => (first | exact Or.inl rfl | (left; simp; done) | (right; simp only [World.size_alloc, World.size_setCell, World.size_drew]; omega))) | (with_reducible refine Kept.alloc ?_ _))

set_option maxHeartbeats 400000 in
theorem cell_no {a b t : Int} (h : ¬ Sp.cellIs a b t) (w : World) :
    Calls Tryd.prog 54 #[.int .i64 a, .int .i64 b, .int .i64 t] w fun e w' => e = .returned (.bool false) ∧ w = w' := by
  by_cases h1 : 1 ≤ t
  · by_cases h2 : t ≤ 32768
    · by_cases h3 : 0 ≤ a
      · by_cases h4 : 1 ≤ b
        · by_cases h5 : a < t
          · have h6 : ¬ b ≤ t - a := fun h6 => h ⟨h1, h2, h3, h4, h5, h6⟩
            clear h
            go_enter Tryd.func54, Tryd.ntmps54
            go_wp2
            go_ret
            exact ⟨rfl, rfl⟩
          all_goals
            clear h
            go_enter Tryd.func54, Tryd.ntmps54
            go_wp2
            go_ret
            exact ⟨rfl, rfl⟩
        all_goals
          clear h
          go_enter Tryd.func54, Tryd.ntmps54
          go_wp2
          go_ret
          exact ⟨rfl, rfl⟩
      all_goals
        clear h
        go_enter Tryd.func54, Tryd.ntmps54
        go_wp2
        go_ret
        exact ⟨rfl, rfl⟩
    all_goals
      clear h
      go_enter Tryd.func54, Tryd.ntmps54
      go_wp2
      go_ret
      exact ⟨rfl, rfl⟩
  all_goals
    clear h
    go_enter Tryd.func54, Tryd.ntmps54
    go_wp2
    go_ret
    exact ⟨rfl, rfl⟩

set_option maxHeartbeats 400000 in
theorem used_any (n r : Int) (hn0 : 0 ≤ n) (hn1 : n ≤ 2000000000000) (hr0 : 0 ≤ r) (hr1 : r ≤ 4294967295) (w : World) :
    Calls Tryd.prog 36 #[.int .i64 n, .int .u32 r] w fun e w' => e = .returned (.int .i64 (8 * n + (32 - (Lib.bitLen r.toNat : Int)))) ∧ w = w' := by
  have hb := Lib.bitLen_le r.toNat 32 (by omega) (by omega)
  go_enter Tryd.func36, Tryd.ntmps36
  go_wp2_with (go_at_call 55; refine (Tryd.bits_LeadingZeros32 _ _ hr0 hr1).mono ?_; rintro e w' ⟨rfl, hw⟩; obtain rfl := hw.symm)
  go_ret
  exact ⟨rfl, rfl⟩

set_option maxHeartbeats 400000 in
theorem DecUsed_any (g : Nat) {b : Int} {d : Sp.Dec} (hd : d.Ok b) (hb : b ≤ 2000000000000) (w : World) (hB : Blk w g (decC d) 66) :
    Calls Tryd.prog 18 #[.pointer (some ⟨g, 0, none⟩)] w fun e w' => e = .returned (.int .i64 d.used) ∧ Kept (fun _ => False) w w' := by
  obtain ⟨s, a, c, r, n⟩ := d
  obtain ⟨h1, h2, h3, h4, h5, h6, h7, h8⟩ := hd
  simp only at h1 h2 h3 h4 h5 h6 h7 h8
  have c3 := hB.cell 3
  have c4 := hB.cell 4
  simp only [decC, List.getElem?_toArray, List.getElem?_cons_zero, List.getElem?_cons_succ] at c3 c4
  go_enter Tryd.func18, Tryd.ntmps18
  go_wp2_with fail
  go_quiet ((go_at_call 36; exact quiet_same (used_any _ _ (by omega) (by omega) (by omega) (by omega) _)))
  go_wp2
  go_ret
  refine ⟨rfl, ?_⟩
  repeat (first | (with_reducible exact Kept.refl _ _) | (with_reducible assumption) | (with_reducible refine Kept.drew ?_) | (with_reducible refine Kept.drewN ?_ _) | ((with_reducible refine Kept.setCell ?_ ?hp _); case hp => (first | exact Or.inl rfl | (left; simp; done) | (right; simp only [World.size_alloc, World.size_setCell, World.size_drew]; omega))) | (with_reducible refine Kept.alloc ?_ _))

set_option maxHeartbeats 400000 in
theorem At_any (g : Nat) {b : Int} {d : Sp.Dec} (hd : d.Ok b) (t : Int) (ht0 : 1 ≤ t) (ht1 : t ≤ 32768) (w : World) (hB : Blk w g (decC d) 66) :
    Calls Tryd.prog 30 #[.pointer (some ⟨g, 0, none⟩), .int .i64 t] w fun e w' => e = .returned (.tuple #[.int .i64 (d.place t), .int .i64 0]) ∧ Kept (fun _ => False) w w' := by
  obtain ⟨s, a, c, r, n⟩ := d
  obtain ⟨h1, h2, h3, h4, h5, h6, h7, h8⟩ := hd
  simp only at h1 h2 h3 h4 h5 h6 h7 h8
  obtain ⟨b1, b2, b3⟩ := Sp.step_bd h5 h6 ht0 ht1
  have c2 := hB.cell 2
  have c3 := hB.cell 3
  simp only [decC, List.getElem?_toArray, List.getElem?_cons_zero, List.getElem?_cons_succ] at c2 c3
  have b4 : 0 ≤ c / (r / t) ∧ c / (r / t) ≤ 4294967295 := ⟨Int.ediv_nonneg h3 (by omega), Int.le_trans (Int.ediv_le_self _ h3) h4⟩
  go_enter Tryd.func30, Tryd.ntmps30
  go_wp2_with fail
  go_quiet (fail)
  go_wp2
  go_ret2
  refine ⟨rfl, ?_⟩
  repeat (first | (with_reducible exact Kept.refl _ _) | (with_reducible assumption) | (with_reducible refine Kept.drew ?_) | (with_reducible refine Kept.drewN ?_ _) | ((with_reducible refine Kept.setCell ?_ ?hp _); case hp => (first | exact Or.inl rfl | (left; simp; done) | (right; simp only [World.size_alloc, World.size_setCell, World.size_drew]; omega))) | (with_reducible refine Kept.alloc ?_ _))

set_option maxHeartbeats 800000 in
theorem Take_any (g : Nat) {b : Int} {d : Sp.Dec} (hd : d.Ok b) (hb : b ≤ 1000000000000) {x y t : Int} (hc : Sp.cellIs x y t) (w : World) (hB : Blk w g (decC d) 66) :
    Calls Tryd.prog 33 #[.pointer (some ⟨g, 0, none⟩), .int .i64 x, .int .i64 y, .int .i64 t] w fun e w' => e = .returned (.int .i64 0) ∧ Blk w' g (decC (d.take x y t)) 66 ∧ Kept (· = g) w w' := by
  have hmid := Sp.Dec.raw_mid hd hc
  obtain ⟨R, hR⟩ : ∃ R, d.take x y t = R := ⟨_, rfl⟩
  rw [hR]
  have HR := Lib.hid hR
  clear hR
  have HM := Lib.hid hmid
  clear hmid
  have HC := Lib.hid hc
  obtain ⟨s, a, c, r, n⟩ := d
  obtain ⟨h1, h2, h3, h4, h5, h6, h7, h8⟩ := hd
  obtain ⟨g1, g2, g3, g4, g5, g6⟩ := hc
  simp only at h1 h2 h3 h4 h5 h6 h7 h8
  obtain ⟨b1, b2, b3⟩ := Sp.step_bd h5 h6 g1 g2
  have m1 := Sp.mul_bd b1 g4 (by omega : y ≤ t) b3
  have m2 := Sp.mul_bd0 b1 g3 (by omega : x ≤ t) b3
  have c2 := hB.cell 2
  have c3 := hB.cell 3
  simp only [decC, List.getElem?_toArray, List.getElem?_cons_zero, List.getElem?_cons_succ] at c2 c3
  have f2 := hB.frozen 2
  have f3 := hB.frozen 3
  go_enter Tryd.func33, Tryd.ntmps33
  go_wp2_with (go_at_call 54; refine (cell_yes HC.out _).mono ?_; rintro e w' ⟨rfl, rfl⟩)
  go_loopw [] (fun wr => ∃ (k : Nat) (d : Sp.Dec), d.Mid (b + 3) k ∧ Hid (d.norm k = R) ∧ Blk wr g (decC d) 66 ∧ Kept (· = g) w wr) (fun wr => far32 wr g 3)
  case atStart =>
    refine ⟨3, _, HM.out, HR, ?_, ?_⟩
    · show Blk _ g #[.string s, .int .i64 a, .int .u32 ((c - r / t * x) % 4294967296), .int .u32 (r / t * y), .int .i64 n] _
      (apply Blk.mk_eq; (case h => repeat' (first | (with_reducible assumption) | (with_reducible apply Blk.drew) | (with_reducible apply Blk.drewN) | (with_reducible apply Blk.set) | ((with_reducible refine Blk.other ?_ ?ne _); case ne => (first | (simp only []; omega) | omega)) | (with_reducible apply Blk.alloc))); (case e => first | rfl | simp))
    · repeat (first | (with_reducible exact Kept.refl _ _) | (with_reducible assumption) | (with_reducible refine Kept.drew ?_) | (with_reducible refine Kept.drewN ?_ _) | ((with_reducible refine Kept.setCell ?_ ?hp _); case hp => (first | exact Or.inl rfl | (left; simp; done) | (right; simp only [World.size_alloc, World.size_setCell, World.size_drew]; omega))) | (with_reducible refine Kept.alloc ?_ _))
  case round =>
    obtain ⟨k, d, hm, hn, hB1, hK1⟩ := hrel
    have HM1 := Lib.hid hm
    have hmid := hm
    obtain ⟨s1, a1, e1, r1, n1⟩ := d
    obtain ⟨q1, q2, q3, q4, q5, q6, q7, q8, q9⟩ := hm
    simp only at q1 q2 q3 q4 q5 q6 q7 q8
    clear q9
    have c2 := hB1.cell 2
    have c3 := hB1.cell 3
    have c4 := hB1.cell 4
    simp only [decC, List.getElem?_toArray, List.getElem?_cons_zero, List.getElem?_cons_succ] at c2 c3 c4
    have f2 := hB1.frozen 2
    have f3 := hB1.frozen 3
    have f4 := hB1.frozen 4
    by_cases hr : r1 < 16777216
    · obtain ⟨j, rfl⟩ := hmid.pos hr
      clear hmid
      have hcall := next_any g s1 a1 e1 r1 n1 wr.drew (by omega) (by omega) hB1.drew
      go_wp2_with fail
      go_region_with (go_at_call 29; refine hcall.mono ?_; rintro e w' ⟨rfl, hB2, hK2⟩; have d2 := hB2.cell 2; simp only [List.getElem?_toArray, List.getElem?_cons_zero, List.getElem?_cons_succ] at d2; have e2 := hB2.frozen 2)
      all_goals
        have d3 := hB2.cell 3
        have d4 := hB2.cell 4
        simp only [List.getElem?_toArray, List.getElem?_cons_zero, List.getElem?_cons_succ] at d3 d4
        have e3 := hB2.frozen 3
        have e4 := hB2.frozen 4
        go_wp2
        rw [u32_shl8_or _ _ (Sp.byteAt_bd s1 a1).1 (Sp.byteAt_bd s1 a1).2]
        go_roundw
        case rel =>
          refine ⟨j, _, Sp.Dec.step_mid HM1.out hr, ?_, ?_, ?_⟩
          · have := hn.out
            rw [Sp.Dec.norm_step hr] at this
            exact this
          · show Blk _ g #[.string s1, .int .i64 (a1 + 1), .int .u32 (e1 * 256 % 4294967296 + Sp.byteAt s1 a1), .int .u32 (r1 * 256), .int .i64 (n1 + 1)] _
            (apply Blk.mk_eq; (case h => repeat' (first | (with_reducible assumption) | (with_reducible apply Blk.drew) | (with_reducible apply Blk.drewN) | (with_reducible apply Blk.set) | ((with_reducible refine Blk.other ?_ ?ne _); case ne => (first | (simp only []; omega) | omega)) | (with_reducible apply Blk.alloc))); (case e => first | rfl | simp))
          · have hK3 := hK1.trans hK2.undrew
            repeat (first | (with_reducible exact Kept.refl _ _) | (with_reducible assumption) | (with_reducible refine Kept.drew ?_) | (with_reducible refine Kept.drewN ?_ _) | ((with_reducible refine Kept.setCell ?_ ?hp _); case hp => (first | exact Or.inl rfl | (left; simp; done) | (right; simp only [World.size_alloc, World.size_setCell, World.size_drew]; omega))) | (with_reducible refine Kept.alloc ?_ _))
        case measure =>
          rw [far32_eq c3]
          refine Nat.lt_of_le_of_lt (Nat.le_of_eq (far32_eq (k := .u32) (n := r1 * 256) ?_)) (by omega)
          refine (Blk.cell (cs := #[.string s1, .int .i64 (a1 + 1), .int .u32 (e1 * 256 % 4294967296 + Sp.byteAt s1 a1), .int .u32 (r1 * 256), .int .i64 (n1 + 1)]) (t := 66) ?_ 3).trans rfl
          (apply Blk.mk_eq; (case h => repeat' (first | (with_reducible assumption) | (with_reducible apply Blk.drew) | (with_reducible apply Blk.drewN) | (with_reducible apply Blk.set) | ((with_reducible refine Blk.other ?_ ?ne _); case ne => (first | (simp only []; omega) | omega)) | (with_reducible apply Blk.alloc))); (case e => first | rfl | simp))
    · clear hmid
      go_wp2
      go_ret
      have := hn.out
      rw [Sp.Dec.norm_done (by simp only; omega)] at this
      subst this
      exact ⟨rfl, hB1, hK1⟩
end Go.Proofs.YtnohjidoelohkaaDoor
