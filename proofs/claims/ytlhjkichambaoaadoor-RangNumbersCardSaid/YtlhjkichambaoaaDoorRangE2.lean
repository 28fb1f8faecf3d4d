/- The walks of the range encoder: a cell put. -/
import Derived.Test.YtlhjkichambaoaaDoorRangE
namespace Go.Proofs.YtlhjkichambaoaaDoor
open Go.RowKit

theorem infoU8 : (Tryd.prog.info? 5).map (fun i => (i.zero, i.size, i.bytes)) = some (some (.int .u8 0), 1, 1) := by kernel_rfl

/-- The blocks that an encoder's calls may turn. -/
abbrev EncS (g : Nat) (v : Value) : Nat → Prop := fun k => k = g ∨ v.ownBlock = some k

set_option maxHeartbeats 1600000 in
theorem Put_any (g : Nat) {b : Int} {e : Sp.Enc} (hd : e.Ok b) (hb : b ≤ 1000000000) {x y t : Int} (hc : Sp.cellIs x y t) (v : Value) (w : World) (hB : Blk w g (encC e v) 66) (hR : Row w 5 v (bytesV e.out)) :
    Calls Tryd.prog 13 #[.pointer (some ⟨g, 0, none⟩), .int .i64 x, .int .i64 y, .int .i64 t] w fun r w' => r = .returned (.int .i64 0) ∧ ∃ v', Blk w' g (encC (e.put x y t) v') 66 ∧ Row w' 5 v' (bytesV (e.put x y t).out) ∧
      Kept (EncS g v) w w' ∧ (∀ k, v'.ownBlock = some k → v.ownBlock = some k ∨ w.heap.size ≤ k) := by
  obtain ⟨i0, hi, hz0, hz1, hz2⟩ := info_parts infoU8
  have hmid := Sp.Enc.raw_mid hd hc
  obtain ⟨R, hRR⟩ : ∃ R, e.put x y t = R := ⟨_, rfl⟩
  rw [hRR]
  have HR := Lib.hid hRR
  clear hRR
  have HM := Lib.hid hmid
  clear hmid
  have HC := Lib.hid hc
  obtain ⟨sz, lo, r, out, n⟩ := e
  obtain ⟨h1, h2, h3, h4, h5, h6, h7, h8⟩ := hd
  obtain ⟨g1, g2, g3, g4, g5, g6⟩ := hc
  simp only at h1 h2 h3 h4 h5 h6 h7 h8
  obtain ⟨b1, b2, b3⟩ := Sp.step_bd h3 h4 g1 g2
  have m1 := Sp.mul_bd b1 g4 (by omega : y ≤ t) b3
  have m2 := Sp.mul_bd0 b1 g3 (by omega : x ≤ t) b3
  have c1 := hB.cell 1
  have c2 := hB.cell 2
  simp only [List.getElem?_toArray, List.getElem?_cons_zero, List.getElem?_cons_succ] at c1 c2
  have f1 := hB.frozen 1
  have hne := hR.ne hB (by decide)
  have H5 := Lib.hid h5
  clear h5
  go_enter Tryd.func13, Tryd.ntmps13
  go_wp2_with (go_at_call 33; refine (cell_yes HC.out _).mono ?_; rintro e w' ⟨rfl, rfl⟩)
  have hB1 : Blk (w.setCell ⟨g, 1, none⟩ (.int .u64 (lo + r / t * x))) g (encC ⟨sz, lo + r / t * x, r, out, n⟩ v) 66 := by (apply Blk.mk_eq; (case h => repeat' (first | (with_reducible assumption) | (with_reducible apply Blk.drew) | (with_reducible apply Blk.drewN) | (with_reducible apply Blk.set) | ((with_reducible refine Blk.other ?_ ?ne _); case ne => (first | (simp only []; omega) | omega)) | (with_reducible apply Blk.alloc))); (case e => first | rfl | simp))
  refine (settle_any g ⟨sz, lo + r / t * x, r, out, n⟩ v (by simp only; omega) (by simp only; omega) H5.out (by simp only; omega) _ hB1 (hR.far ⟨g, 1, none⟩ hne _)).mono ?_
  rintro e w1 ⟨rfl, hB2, hR2, hK2⟩
  obtain ⟨E, hE⟩ : ∃ E, Sp.Enc.settle ⟨sz, lo + r / t * x, r, out, n⟩ = E := ⟨_, rfl⟩
  have q1 := Sp.Enc.settle_rng ⟨sz, lo + r / t * x, r, out, n⟩
  have hraw : Sp.Enc.raw ⟨sz, lo, r, out, n⟩ x y t = { E with rng := r / t * y } := by rw [Sp.Enc.raw, hE]
  rw [hE] at hB2 hR2 q1
  have HRW := Lib.hid hraw
  have HE := Lib.hid hE
  clear hraw hE hB1
  have hK3 : Kept (EncS g v) w w1 := ((Kept.refl _ w).setCell (p := ⟨g, 1, none⟩) (.inl (.inl (Eq.refl g))) _).trans hK2
  clear hK2
  have d2 := hB2.cell 2
  simp only [List.getElem?_toArray, List.getElem?_cons_zero, List.getElem?_cons_succ] at d2
  have e2 := hB2.frozen 2
  obtain ⟨esz, elo, er, eout, en⟩ := E
  simp only at q1
  obtain rfl : er = r := q1
  go_wp2_with fail
  go_loopw [] (fun wr => ∃ (k : Nat) (d : Sp.Enc) (v' : Value), d.Mid (b + 3) k ∧ Hid (d.norm k = R) ∧ Blk wr g (encC d v') 66 ∧ Row wr 5 v' (bytesV d.out) ∧ Kept (EncS g v) w wr ∧ Hid (∀ k, v'.ownBlock = some k → v.ownBlock = some k ∨ w.heap.size ≤ k)) (fun wr => far32 wr g 2)
  case atStart =>
    have hm := HM.out
    rw [HRW.out] at hm
    have hr2 := HR.out
    rw [Sp.Enc.put, HRW.out] at hr2
    refine ⟨3, _, v, hm, Lib.hid hr2, ?_, ?_, ?_, Lib.hid (fun k h => .inl h)⟩
    · show Blk _ g #[.int .i64 esz, .int .u64 elo, .int .u32 (er / t * y), v, .int .i64 en] _
      (apply Blk.mk_eq; (case h => repeat' (first | (with_reducible assumption) | (with_reducible apply Blk.drew) | (with_reducible apply Blk.drewN) | (with_reducible apply Blk.set) | ((with_reducible refine Blk.other ?_ ?ne _); case ne => (first | (simp only []; omega) | omega)) | (with_reducible apply Blk.alloc))); (case e => first | rfl | simp))
    · repeat' (first | (with_reducible assumption) | (with_reducible refine Row.drew ?_) | (with_reducible refine Row.drewN ?_ _) | (with_reducible refine Row.alloc ?_ _) | ((with_reducible refine Row.far ?_ _ ?ne _); case ne => (first | (with_reducible assumption) | (simp only []; assumption))))
    · exact hK3.setCell (p := ⟨g, 2, none⟩) (.inl (.inl (Eq.refl g))) _
  case round =>
    obtain ⟨k, d, v1, hm, hn, hB1, hR1, hK1, hF1⟩ := hrel
    have HM1 := Lib.hid hm
    have hmid := hm
    obtain ⟨s1, l1, r1, o1, n1⟩ := d
    obtain ⟨q1, q2, q3, q4, q5, q6, q7, q8, q9⟩ := hm
    simp only at q1 q2 q3 q4 q5 q6 q7 q8 hR1
    clear q9 q5
    have c1 := hB1.cell 1
    have c2 := hB1.cell 2
    have c3 := hB1.cell 3
    simp only [List.getElem?_toArray, List.getElem?_cons_zero, List.getElem?_cons_succ] at c1 c2 c3
    by_cases hr : r1 < 16777216
    · obtain ⟨j, rfl⟩ := hmid.pos hr
      have hl64 : o1.length + 1 ≤ 140737488355328 := by omega
      have hne1 := hR1.ne hB1 (by decide)
      have hgl := hB1.lt
      have hgn : g ≠ wr.heap.size := by omega
      clear hmid
      go_wp2_with fail
      go_region_law ((refine step_append_lies _ rfl (.tmp 56) (.tmp 63) 48 rfl 0 5 i0 (.int .u8 0) 1 1 Tryd.underlying48 hi hz0 hz1 hz2 rfl (by decide) v1 o1.length (bytesV o1) rfl (by have h := (hR1.drew).alloc (.cells #[.int .u8 (l1 / 16777216 % 256)] 5); unfold Row at h; rw [List.length_map] at h; exact h) ⟨wr.heap.size, 0, none⟩ 1 1 [.int .u8 (l1 / 16777216 % 256)] rfl rfl (World.news_of_block (World.alloc_heap_new wr.drew _)) (by simp [Value.oneCell']) (by decide) (by unfold maxLen; omega) (by omega) (Nat.zero_le _) _ rfl ?_); intro g2 cap2 w2 hown2 hgrow2 hat2 hlt2; have hB2 := ((hB1.drew).alloc (.cells #[.int .u8 (l1 / 16777216 % 256)] 5)).kept hgrow2 (fun e => hne1 e.symm); have e3 := hB2.cell 3; simp only [List.getElem?_toArray, List.getElem?_cons_zero, List.getElem?_cons_succ] at e3; have f3 := hB2.frozen 3)
      all_goals
        have d1 := hB2.cell 1
        have d2 := hB2.cell 2
        have d4 := hB2.cell 4
        simp only [List.getElem?_toArray, List.getElem?_cons_zero, List.getElem?_cons_succ] at d1 d2 d4
        have f1 := hB2.frozen 1
        have f2 := hB2.frozen 2
        have f4 := hB2.frozen 4
        go_wp2
        rw [u64_and32 _ (by omega) (by omega)]
        have hrow2 : Row w2 5 (.slice (some ⟨g2, 0, none⟩) (o1.length + 1) cap2) (bytesV (o1 ++ [l1 / 16777216 % 256])) := by
          rw [bytesV, List.map_append]
          exact Row.mk hown2
        have hne2 := hrow2.ne hB2 (by decide)
        have hsz := hK1.size
        have hK4 : Kept (EncS g v) w w2 := (hK1.drew.alloc _).grown hgrow2 (fun k hk => (hF1.out k hk).elim (fun h => .inl (.inr h)) .inr)
        have hF4 : ∀ k, (Value.slice (some ⟨g2, 0, none⟩) (o1.length + 1) cap2).ownBlock = some k → v.ownBlock = some k ∨ w.heap.size ≤ k := by
          intro k hk
          obtain rfl : g2 = k := by simpa [Value.ownBlock] using hk
          rcases hat2 with h | h
          · exact hF1.out _ h
          · right; rw [h]; simp [World.size_drew]; omega
        have HF4 := Lib.hid hF4
        clear hF4
        go_roundw
        case rel =>
          have hn2 := hn.out
          rw [Sp.Enc.norm_step hr] at hn2
          refine ⟨j, _, .slice (some ⟨g2, 0, none⟩) (o1.length + 1) cap2, Sp.Enc.step_mid HM1.out hr, Lib.hid hn2, ?_, ?_, ?_, HF4⟩
          · show Blk _ g #[.int .i64 s1, .int .u64 (l1 * 256 % 4294967296), .int .u32 (r1 * 256), .slice (some ⟨g2, 0, none⟩) (o1.length + 1) cap2, .int .i64 (n1 + 1)] _
            (apply Blk.mk_eq; (case h => repeat' (first | (with_reducible assumption) | (with_reducible apply Blk.drew) | (with_reducible apply Blk.drewN) | (with_reducible apply Blk.set) | ((with_reducible refine Blk.other ?_ ?ne _); case ne => (first | (simp only []; omega) | omega)) | (with_reducible apply Blk.alloc))); (case e => first | rfl | simp))
          · show Row _ 5 _ (bytesV (o1 ++ [l1 / 16777216 % 256]))
            repeat' (first | (with_reducible assumption) | (with_reducible refine Row.drew ?_) | (with_reducible refine Row.drewN ?_ _) | (with_reducible refine Row.alloc ?_ _) | ((with_reducible refine Row.far ?_ _ ?ne _); case ne => (first | (with_reducible assumption) | (simp only []; assumption))))
          · exact (((hK4.setCell (p := ⟨g, 3, none⟩) (.inl (.inl (Eq.refl g))) _).setCell (p := ⟨g, 1, none⟩) (.inl (.inl (Eq.refl g))) _).setCell (p := ⟨g, 2, none⟩) (.inl (.inl (Eq.refl g))) _).setCell (p := ⟨g, 4, none⟩) (.inl (.inl (Eq.refl g))) _
        case measure =>
          rw [far32_eq c2]
          refine Nat.lt_of_le_of_lt (Nat.le_of_eq (far32_eq (k := .u32) (n := r1 * 256) ?_)) (by omega)
          refine (Blk.cell (cs := #[.int .i64 s1, .int .u64 (l1 * 256 % 4294967296), .int .u32 (r1 * 256), .slice (some ⟨g2, 0, none⟩) (o1.length + 1) cap2, .int .i64 (n1 + 1)]) (t := 66) ?_ 2).trans rfl
          (apply Blk.mk_eq; (case h => repeat' (first | (with_reducible assumption) | (with_reducible apply Blk.drew) | (with_reducible apply Blk.drewN) | (with_reducible apply Blk.set) | ((with_reducible refine Blk.other ?_ ?ne _); case ne => (first | (simp only []; omega) | omega)) | (with_reducible apply Blk.alloc))); (case e => first | rfl | simp))
    · clear hmid
      go_wp2
      go_ret
      have := hn.out
      rw [Sp.Enc.norm_done (by simp only; omega)] at this
      subst this
      exact ⟨rfl, v1, hB1, hR1, hK1, hF1.out⟩

set_option maxHeartbeats 400000 in
theorem NewEnc_any (n : Int) (h0 : 1 ≤ n) (h1 : n ≤ 4096) (w : World) :
    Calls Tryd.prog 11 #[.int .i64 n] w fun e w' => ∃ g, w.heap.size ≤ g ∧ e = .returned (.tuple #[.pointer (some ⟨g, 0, none⟩), .int .i64 0]) ∧ Blk w' g (encC (Sp.Enc.new n) (.slice none 0 0)) 66 ∧ Below w.heap.size w w' := by
  go_enter Tryd.func11, Tryd.ntmps11
  go_wp2
  go_ret2
  exact ⟨w.heap.size, Nat.le_refl _, rfl, Blk.new _ _ _, by go_grown⟩

set_option maxHeartbeats 400000 in
theorem EncUsed_any (g : Nat) {b : Int} {e : Sp.Enc} (hd : e.Ok b) (hb : b ≤ 2000000000000) (v : Value) (w : World) (hB : Blk w g (encC e v) 66) :
    Calls Tryd.prog 16 #[.pointer (some ⟨g, 0, none⟩)] w fun r w' => r = .returned (.int .i64 e.used) ∧ Kept (fun _ => False) w w' := by
  obtain ⟨sz, lo, r, out, n⟩ := e
  obtain ⟨h1, h2, h3, h4, h5, h6, h7, h8⟩ := hd
  simp only at h1 h2 h3 h4 h6 h7 h8
  clear h5
  have c2 := hB.cell 2
  have c4 := hB.cell 4
  simp only [List.getElem?_toArray, List.getElem?_cons_zero, List.getElem?_cons_succ] at c2 c4
  go_enter Tryd.func16, Tryd.ntmps16
  go_wp2_with fail
  go_quiet ((go_at_call 35; exact quiet_same (used_any _ _ (by omega) (by omega) (by omega) (by omega) _)))
  go_wp2
  go_ret
  refine ⟨rfl, ?_⟩
  repeat (first | (with_reducible exact Kept.refl _ _) | (with_reducible assumption) | (with_reducible refine Kept.drew ?_) | (with_reducible refine Kept.drewN ?_ _) | ((with_reducible refine Kept.setCell ?_ ?hp _); case hp => (first | exact Or.inl rfl | (left; simp; done) | (right; simp only [World.size_alloc, World.size_setCell, World.size_drew]; omega))) | (with_reducible refine Kept.alloc ?_ _))
end Go.Proofs.YtlhjkichambaoaaDoor
