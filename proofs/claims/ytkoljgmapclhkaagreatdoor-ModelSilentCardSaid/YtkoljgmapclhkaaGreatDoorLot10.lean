/- The walk of enc.packet. The walks of enc.sound, enc.every and enc.Right. The walk of enc.Encode. The walk of enc.Encode where it refuses. -/
import Derived.Test.YtkoljgmapclhkaaGreatDoorLot9
import Derived.Test.YtkoljgmapclhkaaGreatDoorLot8
set_option linter.unusedSimpArgs false
set_option linter.unusedVariables false
namespace Go.Proofs.YtkoljgmapclhkaaGreatDoor
open Go.RowKit

theorem cnt_fits_row : ∀ b < 4, ∀ k < 9, (Sp.cntL (bandN b)).getD k 0 ≤ 2 ^ Lib.bitLen ((Sp.cntL (bandN b)).getD k 0 - 1) := by decide +kernel
theorem cnt_fits {b k : Nat} (hb : b < 4) (hk : k ≤ 8) : Sp.cnt (bandN b) k ≤ 2 ^ costB b k := by
  unfold costB Sp.vbits
  rw [Sp.cnt_row _ k (by omega)]
  exact cnt_fits_row b hb k (by omega)
theorem bandN_pos {b : Nat} (h : b < 4) : 1 ≤ bandN b := by
  have hb4 : b = 0 ∨ b = 1 ∨ b = 2 ∨ b = 3 := by omega
  rcases hb4 with rfl | rfl | rfl | rfl <;> decide
theorem blk_ne {W : World} {a b : Nat} {cs ds : Array Value} {s t : TypeId} (h : Blk W a cs s) (k : Blk W b ds t) (hst : s ≠ t) : a ≠ b := by
  rintro rfl
  have e := h.symm.trans k
  simp only [Option.some.injEq, Obj.cells.injEq] at e
  exact hst e.2.1
theorem row_ne {W : World} {b : Nat} {ds : Array Value} {e t : TypeId} {v : Value} {xs : List Value} (h : Row W e v xs) (k : Blk W b ds t) (het : e ≠ t) {i : Nat} (hi : v.ownBlock = some i) : i ≠ b := by
  rcases h.2 with ⟨rfl, _⟩ | ⟨g, cap, cur, rfl, _, hg, _⟩
  · simp [Value.ownBlock] at hi
  · obtain rfl : g = i := by simpa [Value.ownBlock] using hi
    exact blk_ne hg k het
theorem row_own {W : World} {e : TypeId} {v : Value} {xs : List Value} {B : Nat} (h : Row W e v xs) (ho : ∀ k, v.ownBlock = some k → B ≤ k) : OW W B W.heap.size e 1 v xs.length xs := by
  refine OW.mk0 ⟨h.1, ?_⟩
  rcases h.2 with hl | ⟨g, cap, cur, rfl, _, hg, rest⟩
  · exact .inl hl
  · exact .inr ⟨g, cap, cur, rfl, ho g rfl, hg, rest⟩
theorem own_row {W : World} {e : TypeId} {v : Value} {xs : List Value} {B hi : Nat} (h : OW W B hi e 1 v xs.length xs) : Row W e v xs := own_up h.1 (Nat.zero_le _)
/-- Memory while a packet is made. -/
structure PackW (w W : World) (B g kb : Nat) (was wv ks : List Int) (e : Sp.Enc) (v : Value) : Prop where
  bw : BandsW W
  a : Blk W B (arrV was) 27
  b : Blk W (B + 1) (arrV wv) 26
  k : Blk W kb (arrV ks) 27
  ec : Blk W g (encC e v) 177
  r : Row W 5 v (bytesV e.out)
  o : ∀ k, v.ownBlock = some k → B ≤ k
  gB : B ≤ g
  far : Below B w W
  sz : B + 2 ≤ W.heap.size
theorem PackW.newB {w W W' : World} {B g kb : Nat} {was wv ks : List Int} {e : Sp.Enc} {v : Value} (h : PackW w W B g kb was wv ks e v) (hb : Below W.heap.size W W') : PackW w W' B g kb was wv ks e v :=
  ⟨h.bw.newB hb, h.a.newB hb, h.b.newB hb, h.k.newB hb, h.ec.newB hb, h.r.keep (Kept.of_below (S := fun _ => False) hb) (fun _ _ h => h), h.o, h.gB, h.far.trans (hb.mono (by have := h.sz; omega)), Nat.le_trans h.sz hb.size⟩
theorem PackW.drew {w W : World} {B g kb : Nat} {was wv ks : List Int} {e : Sp.Enc} {v : Value} (h : PackW w W B g kb was wv ks e v) : PackW w W.drew B g kb was wv ks e v :=
  h.newB ((Below.refl _ _).drew)
theorem PackW.put {w W W' : World} {B g kb : Nat} {was wv ks : List Int} {e e' : Sp.Enc} {v v' : Value} (h : PackW w W B g kb was wv ks e v) (hB : 0 < B) (hk : Kept (EncS g v) W W') (he : Blk W' g (encC e' v') 177) (hr : Row W' 5 v' (bytesV e'.out)) (hf : ∀ k, v'.ownBlock = some k → v.ownBlock = some k ∨ W.heap.size ≤ k) : PackW w W' B g kb was wv ks e' v' := by
  have hn : ∀ {b : Nat} {cs : Array Value} {t : TypeId}, Blk W b cs t → 177 ≠ t → 5 ≠ t → ¬ EncS g v b := by
    intro b cs t hb h1 h2 hs
    rcases hs with rfl | hs
    · exact blk_ne h.ec hb h1 rfl
    · exact row_ne h.r hb h2 hs rfl
  have h0 : ¬ EncS g v 0 := by
    have hgB := h.gB
    rintro (h1 | h1)
    · omega
    · have := h.o _ h1; omega
  refine ⟨h.bw.keep hk h0, h.a.keep hk (hn h.a (by decide) (by decide)), h.b.keep hk (hn h.b (by decide) (by decide)), h.k.keep hk (hn h.k (by decide) (by decide)), he, hr, fun k hk => ?_, h.gB, h.far.trans (hk.below ?_ (by have := h.sz; omega)), Nat.le_trans h.sz hk.size⟩
  · rcases hf k hk with h1 | h1
    · exact h.o _ h1
    · have := h.sz; omega
  · intro i hi
    rcases hi with rfl | hi
    · exact h.gB
    · exact h.o _ hi
theorem PackW.give {w W : World} {B g kb : Nat} {was wv ks ls : List Int} {e : Sp.Enc} {v : Value} {cs : Array Value} (h : PackW w W B g kb was wv ks e v) {b : Nat} (hb : W.heap.size = b) (hs : cs.size = (arrV ls).size) : PackW w ((W.alloc (.cells cs 27)).setRow b (arrV ls)) B g b was wv ls e v := by
  subst hb
  have hb2 : Below W.heap.size W ((W.alloc (.cells cs 27)).setRow W.heap.size (arrV ls)) := Below.setRow (Below.alloc (Below.refl _ _) (Nat.le_refl _) _) (g := W.heap.size) (Nat.le_refl _) (arrV ls)
  exact { h.newB hb2 with k := (Blk.new W cs 27).setRow }
set_option maxRecDepth 100000 in
set_option maxHeartbeats 16000000 in
theorem packet_any (was wv : List Int) (h1 : LevelsOk was) (hw : WavesOk wv) (size : Nat) (hs0 : 10 ≤ size) (hs1 : size ≤ 32) (w : World) (hW : BandsW w) :
    Calls Tryz.prog 56 #[.agg (arrV was), .agg (arrV wv), .int .i64 size] w fun x w' => x = .returned (.tuple #[.string (packS size was wv), .int .i64 0]) ∧ Below w.heap.size w w' := by
  have LWAS := Len.mk h1.1
  have LWV := Len.mk hw.1
  have hlv := levelsL_ok wv
  have hLV := fun w hW => Levels_any wv hw w hW
  have hhok := fun n (hn : n ≤ 4) => encHead_ok (size := size) h1 hlv (n := n) hn
  have hhnx := fun n => encHead_next size was (levelsL wv) n
  have hhu := encHead_used (size := size) h1 hlv (n := 4) (by omega)
  have hld := fun b (hb : b < 4) => levD_bd h1 hlv hb
  have hh0 : encHead size was (levelsL wv) 0 = Sp.Enc.new size := rfl
  have hbok := fun n (hn : n ≤ 4) => encBands_ok (size := size) (w := wv) h1 (n := n) hn
  have hbnx := fun n => encBands_next (size := size) (was := was) (w := wv) n
  have hb0 : encBands size was wv 0 = encHead size was (levelsL wv) 4 := encBands_zero
  have hfit := pack_fits (w := wv) h1 hs0
  have hks := pulE_ok size was (levelsL wv)
  have hkse : pulE size was (levelsL wv) = pulses (levelsL wv) 33 [0, 0, 0, 0] (max (8 * (size : Int) - 40 - (encHead size was (levelsL wv) 4).used) 0) := rfl
  have hpk : packS size was wv = Sp.fitS (encBands size was wv 4).all size := rfl
  have LL := Len.mk hlv.1
  have LK := Len.mk hks.1
  obtain ⟨E, hE⟩ : ∃ E : Nat → Sp.Enc, (fun n => encHead size was (levelsL wv) n) = E := ⟨_, rfl⟩
  have hEn : ∀ n, encHead size was (levelsL wv) n = E n := fun n => congrFun hE n
  obtain ⟨F, hF⟩ : ∃ F : Nat → Sp.Enc, (fun n => encBands size was wv n) = F := ⟨_, rfl⟩
  have hFn : ∀ n, encBands size was wv n = F n := fun n => congrFun hF n
  obtain ⟨KS, hKS⟩ : ∃ K, pulE size was (levelsL wv) = K := ⟨_, rfl⟩
  obtain ⟨LV, hLVe⟩ : ∃ L, levelsL wv = L := ⟨_, rfl⟩
  obtain ⟨P, hP⟩ : ∃ P, packS size was wv = P := ⟨_, rfl⟩
  rw [hP] at hpk ⊢
  simp only [hKS] at hks hbnx LK hkse
  simp only [hLVe] at hlv hLV hhok hhnx hhu hld hh0 hb0 LL hEn hkse
  simp only [hEn] at hhok hhnx hhu hh0 hb0 hkse
  simp only [hFn] at hbok hbnx hb0 hfit hpk
  have HHOK := Lib.hid hhok
  have HHNX := Lib.hid hhnx
  have HH0 := Lib.hid hh0
  have HLD := Lib.hid hld
  have HBOK := Lib.hid hbok
  have HBNX := Lib.hid hbnx
  have HB0 := Lib.hid hb0
  have HFIT := Lib.hid hfit
  have HKS := Lib.hid hks
  have HPK := Lib.hid hpk
  have HLV := Lib.hid hLV
  have HLOK := Lib.hid hlv
  have HKSE := Lib.hid hkse
  have HH := Lib.hid hw
  have HHU := Lib.hid hhu
  clear hhok hhnx hh0 hld hbok hbnx hb0 hfit hks hpk hLV hlv hkse hw hhu hE hEn hF hFn hKS hLVe hP h1
  have h0 : 0 < w.heap.size := hW.lt
  obtain ⟨B, hB⟩ : ∃ B, w.heap.size = B := ⟨_, rfl⟩
  have hBW : Blk w 0 _ _ := hW
  rw [hB] at h0
  have hfar := Below.refl B w
  have hsz : B ≤ w.heap.size := by omega
  have hne := fun w => NewEnc_any (size : Int) (by omega) (by omega) w
  have HNE := Lib.hid hne
  clear hne
  have hsi0 : (10 : Int) ≤ size := by omega
  have hsi1 : (size : Int) ≤ 32 := by omega
  go_enter Tryz.func56, Tryz.ntmps56
  go_upto_region 1 with (fail)
  refine wp_gen (fun W => Blk W (0) (#[.int .i64 0, .int .i64 2, .int .i64 4, .int .i64 8, .int .i64 16]) 164 ∧ Blk W (B) (arrV was) 27 ∧ Blk W (B + 1) (arrV wv) 26 ∧ Below (B) w W ∧ B + 2 ≤ W.heap.size) ⟨bk_, bk_, bk_, bl_, sz_⟩ ?_
  clear hBW hfar hsz
  rintro wa ⟨hBW, hA, hV, hfar, hsz⟩
  go_wp2_with fail
  refine (HNE.out _).mono ?_
  rintro x wb ⟨g, hg, rfl, hEn, hb⟩
  have hgB : B ≤ g := by omega
  have hR0 := Row.nil wb 5
  have hP1 : PackW w wb B g B was wv was (E 0) (.slice none 0 0) := ⟨hBW.newB hb, hA.newB hb, hV.newB hb, hA.newB hb, by rw [HH0.out]; exact hEn, by rw [HH0.out]; exact hR0, by intro k hk; simp [Value.ownBlock] at hk, hgB, hfar.trans (hb.mono (by omega)), Nat.le_trans hsz hb.size⟩
  clear hR0 hEn hA hV hBW hfar hsz hb
  go_upto_region 4 with (fail)
  go_wp2_with (first | (refine ld 26 rfl (by rfl) w_Block rfl hP1.b LWV.sz ?_) | (refine (HLV.out _ hP1.bw).mono ?_))
  rintro x wc ⟨rfl, hb2⟩
  have hP2 := hP1.newB hb2
  clear hP1 hb2
  obtain ⟨lb, hlb⟩ : ∃ b, wc.heap.size = b := ⟨_, rfl⟩
  go_upto_region 5 with (refine st 27 rfl (by rfl) w_Four rfl rfl bk_ lz_ LL.sz one_ ?_)
  refine wp_gen (fun W => PackW w W B g lb was wv LV (E 0) (.slice none 0 0)) (hP2.give hlb (by rw [LL.sz]; rfl)) ?_
  clear hP2 hlb
  rintro wd hP3
  go_wp2_with (first | (refine ld 27 rfl (by rfl) w_Four rfl hP3.k LL.sz ?_))
  go_loopw [30] (fun iv wr => ∃ (i : Nat) (v : Value), i ≤ 4 ∧ iv = .int .i64 i ∧ PackW w wr B g lb was wv LV (E i) v) (fun iv _ => 4 - (intOf iv).toNat)
  case atStart => exact ⟨0, _, by omega, rfl, hP3⟩
  case round =>
    clear hP3
    obtain ⟨i, v, hi4, rfl, hP⟩ := hrel
    by_cases hlt : i < 4
    · have hlti : (i : Int) < 4 := by omega
      have hidx := fun w => run_index_arr 27 4 LV LL.out Tryz.underlying27 i hlt w
      have c0 := (hP.a.cell i).trans (arr_get (l := was) (by rw [LWAS.out]; omega))
      have hd := HLD.out i hlt
      obtain ⟨d, hde⟩ : ∃ d, LV.getD i 0 - was.getD i 0 = d := ⟨_, rfl⟩
      have hnx := HHNX.out i
      rw [hde] at hd hnx
      obtain ⟨x, hx⟩ : ∃ x, LV.getD i 0 = x := ⟨_, rfl⟩
      obtain ⟨y, hy⟩ : ∃ y, was.getD i 0 = y := ⟨_, rfl⟩
      rw [hx, hy] at hde
      simp only [hx] at hidx
      rw [hy] at c0
      have w1 : IntKind.i64.wrap (x - y) = d := by rw [hde]; exact IntWalk.i64_in _ (by omega)
      have hput := fun W (h : PackW w W B g lb was wv LV (E i) v) => LaplPut_any g (HHOK.out i (by omega)).1 (by omega) d (by omega) (by omega) v W h.ec h.r
      have HPUT := Lib.hid hput
      have HNX := Lib.hid hnx
      clear hput hnx hx hy hde
      go_wp2_with fail
      refine (HPUT.out _ hP).mono ?_
      rintro e2 w2 ⟨rfl, v2, hE2, hR2, hK2, hF2⟩
      rw [← HNX.out] at hE2 hR2
      have hP2 := hP.put h0 hK2 hE2 hR2 hF2
      clear hP hE2 hR2 hK2 hF2
      go_wp2_with fail
      go_roundw
      case rel => exact ⟨i + 1, v2, hlt, by go_num, hP2⟩
      case measure => simp [intOf]; omega
    · obtain rfl : i = 4 := by omega
      have hu0 := HHU.out
      have hused : ∀ W, Blk W g (encC (E 4) v) 177 → Calls Tryz.prog 91 #[.pointer (some ⟨g, 0, none⟩)] W fun e w' => e = .returned (.int .i64 (E 4).used) ∧ Below W.heap.size W w' := fun W h =>
        (EncUsed_any g (HHOK.out 4 (by omega)).1 (by omega) v W h).mono fun e w' ⟨he, hk⟩ => ⟨he, hk.below (fun _ h => h.elim) (Nat.le_refl _)⟩
      obtain ⟨U, hU⟩ : ∃ U, (E 4).used = U := ⟨_, rfl⟩
      have hkse := HKSE.out
      rw [hU] at hu0 hkse
      simp only [hU] at hused
      have hroom : ∀ w, Calls Tryz.prog 63 #[.int .i64 size, .int .i64 U] w fun e w' => e = .returned (.int .i64 (max (8 * (size : Int) - 40 - U) 0)) ∧ Below w.heap.size w w' := fun w =>
        (Room_any size (by omega) hs1 U hu0.1 (by omega) w).mono fun e w' ⟨he, hk⟩ => ⟨he, by subst hk; exact Below.refl _ _⟩
      obtain ⟨rm, hrm⟩ : ∃ x, max (8 * (size : Int) - 40 - U) 0 = x := ⟨_, rfl⟩
      rw [hrm] at hkse
      simp only [hrm] at hroom
      have hpul := fun W (h : BandsW W) => Pulses_any LV HLOK.out rm (by omega) (by omega) W h
      simp only [← hkse] at hpul
      have HUSED := Lib.hid hused
      have HROOM := Lib.hid hroom
      have HPUL := Lib.hid hpul
      clear hused hroom hpul hkse hrm hU
      have hgB2 := hP.gB
      have hO := hP.o
      obtain ⟨hBW, hA, hV, hL, hE, hR, _, _, hfar, hsz⟩ := hP
      have hBW2 : Blk wr 0 _ 164 := hBW
      have hRo := row_own hR hO
      obtain ⟨H, hH⟩ : ∃ H, wr.heap.size = H := ⟨_, rfl⟩
      have hlt1 := hL.lt
      have hlt2 := hE.lt
      have hlen : (bytesV (E 4).out).length = (bytesV (E 4).out).length := rfl
      rw [hH] at hRo hlt1 hlt2 hsz
      have hsz2 : H ≤ wr.heap.size := by omega
      have hBH : B + 2 ≤ H := hsz
      clear hsz hBW hR hH hlen
      have hsz := hsz2
      clear hsz2
      go_upto_region 10 with (fail)
      go_cut [13] from 30 to 48 (fun s13 wx => ∃ kb, s13 = .pointer (some ⟨kb, 0, none⟩) ∧ PackW w wx B g kb was wv KS (E 4) v)
      case first =>
        refine wp_region_held_drew (S := fun W => Blk W (0) (#[.int .i64 0, .int .i64 2, .int .i64 4, .int .i64 8, .int .i64 16]) 164 ∧ Blk W (B) (arrV was) 27 ∧ Blk W (B + 1) (arrV wv) 26 ∧ Blk W (lb) (arrV LV) 27 ∧ Blk W (g) (encC (E 4) v) 177 ∧ OW W (B) (H) (5) (1) (v) ((bytesV (E 4).out).length) (bytesV (E 4).out) ∧ Below (B) w W ∧ H ≤ W.heap.size) (by kernel_rfl) (⟨hBW2.drew, hA.drew, hV.drew, hL.drew, hE.drew, hRo.drew, hfar.drew, hsz⟩) (fun hH => ?_)
        have hH2 := hH
        obtain ⟨hBW2, hA, hV, hL, hE, hRo, hfar, hsz⟩ := hH2
        refine tk 0 hH (v := .agg (arrV LV)) (y := (yieldsIf_ld (by rfl) 27 rfl w_Four rfl (fun _ hS => hS.2.2.2.1) zz_)) (k := ?_)
        refine tk 1 hH (y := yp) (k := ?_)
        refine tk 2 hH (y := yp) (k := ?_)
        refine wpAnyH_ready (rs := [3, 6]) (by kernel_rfl) (by simp) ?_
        refine rc (h := fun K hK => ?_) (r := ?_)
        · go_simp
          refine (HUSED.out _ bk_).mono ?_
          rintro r wq ⟨rfl, hb⟩
          have hbs := hb.size
          try simp only [World.size_alloc, World.size_setCell, World.size_drew, size_setRow] at hbs
          go_wp2_with fail
          refine hK.out _ _ ⟨bk_, bk_, bk_, bk_, bk_, ow_, bl_, Nat.le_trans (sz_) hb.size⟩ (fun hH2 => ?_)
          clear hH
          have hH := hH2
          obtain ⟨hBW2, hA, hV, hL, hE, hRo, hfar, hsz⟩ := hH2
          clear hK K
          try simp only [Act.put, sa, List.set_cons_zero, List.set_cons_succ]
          refine wpAnyH_ready (rs := [4, 6]) (by kernel_rfl) (by simp) ?_
          refine rc (h := fun K hK => ?_) (r := ?_)
          · go_simp
            refine (HROOM.out _).mono ?_
            rintro r wq ⟨rfl, hb⟩
            have hbs := hb.size
            try simp only [World.size_alloc, World.size_setCell, World.size_drew, size_setRow] at hbs
            go_wp2_with fail
            refine hK.out _ _ ⟨bk_, bk_, bk_, bk_, bk_, ow_, bl_, Nat.le_trans (sz_) hb.size⟩ (fun hH2 => ?_)
            clear hH
            have hH := hH2
            obtain ⟨hBW2, hA, hV, hL, hE, hRo, hfar, hsz⟩ := hH2
            clear hK K
            try simp only [Act.put, sa, List.set_cons_zero, List.set_cons_succ]
            refine wpAnyH_ready (rs := [5, 6]) (by kernel_rfl) (by simp) ?_
            refine rc (h := fun K hK => ?_) (r := ?_)
            · go_simp
              refine (HPUL.out _ bk_).mono ?_
              rintro r wq ⟨rfl, hb⟩
              have hbs := hb.size
              try simp only [World.size_alloc, World.size_setCell, World.size_drew, size_setRow] at hbs
              go_wp2_with fail
              refine hK.out _ _ ⟨bk_, bk_, bk_, bk_, bk_, ow_, bl_, Nat.le_trans (sz_) hb.size⟩ (fun hH2 => ?_)
              clear hH
              have hH := hH2
              obtain ⟨hBW2, hA, hV, hL, hE, hRo, hfar, hsz⟩ := hH2
              clear hK K
              try simp only [Act.put, sa, List.set_cons_zero, List.set_cons_succ]
              refine wpAnyH_ready (rs := [6]) (by kernel_rfl) (by simp) ?_
              refine rc (h := fun K hK => ?_) (r := AllReadyH.nil)
              go_simp
              refine hK.out _ _ ⟨bk_, bk_, bk_, bk_, bk_, ow_, bl_, sz_⟩ (fun hH2 => ?_)
              clear hH
              have hH := hH2
              obtain ⟨hBW2, hA, hV, hL, hE, hRo, hfar, hsz⟩ := hH2
              clear hK K
              try simp only [Act.put, sa, List.set_cons_zero, List.set_cons_succ]
              refine wpAnyH_ready (rs := [7]) (by kernel_rfl) (by simp) ?_
              refine rc (h := fun K hK => ?_) (r := AllReadyH.nil)
              refine wp_st 27 rfl w_Four rfl rfl bk_ zz_ zz_ one_ ?_
              refine hK.out _ _ ⟨bk_, bk_, bk_, bk_, bk_, ow_, bl_, sz_⟩ (fun hH2 => ?_)
              clear hH
              have hH := hH2
              obtain ⟨hBW2, hA, hV, hL, hE, hRo, hfar, hsz⟩ := hH2
              clear hK K
              try simp only [Act.put]
              refine wpAnyH_done (by kernel_rfl) ?_ _
              go_wp2_with fail
              go_meet
              case rel => exact ⟨_, rfl, by exact bk_, by exact bk_, by exact bk_, by exact bk_, by exact bk_, own_row ow_, hO, hgB2, by exact bl_, by exact sz_⟩
            refine rc (h := fun K hK => ?_) (r := AllReadyH.nil)
            go_simp
            refine hK.out _ _ ⟨bk_, bk_, bk_, bk_, bk_, ow_, bl_, sz_⟩ (fun hH2 => ?_)
            clear hH
            have hH := hH2
            obtain ⟨hBW2, hA, hV, hL, hE, hRo, hfar, hsz⟩ := hH2
            clear hK K
            try simp only [Act.put, sa, List.set_cons_zero, List.set_cons_succ]
            refine wpAnyH_ready (rs := [5]) (by kernel_rfl) (by simp) ?_
            refine rc (h := fun K hK => ?_) (r := AllReadyH.nil)
            go_simp
            refine (HPUL.out _ bk_).mono ?_
            rintro r wq ⟨rfl, hb⟩
            have hbs := hb.size
            try simp only [World.size_alloc, World.size_setCell, World.size_drew, size_setRow] at hbs
            go_wp2_with fail
            refine hK.out _ _ ⟨bk_, bk_, bk_, bk_, bk_, ow_, bl_, Nat.le_trans (sz_) hb.size⟩ (fun hH2 => ?_)
            clear hH
            have hH := hH2
            obtain ⟨hBW2, hA, hV, hL, hE, hRo, hfar, hsz⟩ := hH2
            clear hK K
            try simp only [Act.put, sa, List.set_cons_zero, List.set_cons_succ]
            refine wpAnyH_ready (rs := [7]) (by kernel_rfl) (by simp) ?_
            refine rc (h := fun K hK => ?_) (r := AllReadyH.nil)
            refine wp_st 27 rfl w_Four rfl rfl bk_ zz_ zz_ one_ ?_
            refine hK.out _ _ ⟨bk_, bk_, bk_, bk_, bk_, ow_, bl_, sz_⟩ (fun hH2 => ?_)
            clear hH
            have hH := hH2
            obtain ⟨hBW2, hA, hV, hL, hE, hRo, hfar, hsz⟩ := hH2
            clear hK K
            try simp only [Act.put]
            refine wpAnyH_done (by kernel_rfl) ?_ _
            go_wp2_with fail
            go_meet
            case rel => exact ⟨_, rfl, by exact bk_, by exact bk_, by exact bk_, by exact bk_, by exact bk_, own_row ow_, hO, hgB2, by exact bl_, by exact sz_⟩
          refine rc (h := fun K hK => ?_) (r := AllReadyH.nil)
          go_simp
          refine hK.out _ _ ⟨bk_, bk_, bk_, bk_, bk_, ow_, bl_, sz_⟩ (fun hH2 => ?_)
          clear hH
          have hH := hH2
          obtain ⟨hBW2, hA, hV, hL, hE, hRo, hfar, hsz⟩ := hH2
          clear hK K
          try simp only [Act.put, sa, List.set_cons_zero, List.set_cons_succ]
          refine wpAnyH_ready (rs := [4]) (by kernel_rfl) (by simp) ?_
          refine rc (h := fun K hK => ?_) (r := AllReadyH.nil)
          go_simp
          refine (HROOM.out _).mono ?_
          rintro r wq ⟨rfl, hb⟩
          have hbs := hb.size
          try simp only [World.size_alloc, World.size_setCell, World.size_drew, size_setRow] at hbs
          go_wp2_with fail
          refine hK.out _ _ ⟨bk_, bk_, bk_, bk_, bk_, ow_, bl_, Nat.le_trans (sz_) hb.size⟩ (fun hH2 => ?_)
          clear hH
          have hH := hH2
          obtain ⟨hBW2, hA, hV, hL, hE, hRo, hfar, hsz⟩ := hH2
          clear hK K
          try simp only [Act.put, sa, List.set_cons_zero, List.set_cons_succ]
          refine wpAnyH_ready (rs := [5]) (by kernel_rfl) (by simp) ?_
          refine rc (h := fun K hK => ?_) (r := AllReadyH.nil)
          go_simp
          refine (HPUL.out _ bk_).mono ?_
          rintro r wq ⟨rfl, hb⟩
          have hbs := hb.size
          try simp only [World.size_alloc, World.size_setCell, World.size_drew, size_setRow] at hbs
          go_wp2_with fail
          refine hK.out _ _ ⟨bk_, bk_, bk_, bk_, bk_, ow_, bl_, Nat.le_trans (sz_) hb.size⟩ (fun hH2 => ?_)
          clear hH
          have hH := hH2
          obtain ⟨hBW2, hA, hV, hL, hE, hRo, hfar, hsz⟩ := hH2
          clear hK K
          try simp only [Act.put, sa, List.set_cons_zero, List.set_cons_succ]
          refine wpAnyH_ready (rs := [7]) (by kernel_rfl) (by simp) ?_
          refine rc (h := fun K hK => ?_) (r := AllReadyH.nil)
          refine wp_st 27 rfl w_Four rfl rfl bk_ zz_ zz_ one_ ?_
          refine hK.out _ _ ⟨bk_, bk_, bk_, bk_, bk_, ow_, bl_, sz_⟩ (fun hH2 => ?_)
          clear hH
          have hH := hH2
          obtain ⟨hBW2, hA, hV, hL, hE, hRo, hfar, hsz⟩ := hH2
          clear hK K
          try simp only [Act.put]
          refine wpAnyH_done (by kernel_rfl) ?_ _
          go_wp2_with fail
          go_meet
          case rel => exact ⟨_, rfl, by exact bk_, by exact bk_, by exact bk_, by exact bk_, by exact bk_, own_row ow_, hO, hgB2, by exact bl_, by exact sz_⟩
        refine rc (h := fun K hK => ?_) (r := AllReadyH.nil)
        go_simp
        refine hK.out _ _ ⟨bk_, bk_, bk_, bk_, bk_, ow_, bl_, sz_⟩ (fun hH2 => ?_)
        clear hH
        have hH := hH2
        obtain ⟨hBW2, hA, hV, hL, hE, hRo, hfar, hsz⟩ := hH2
        clear hK K
        try simp only [Act.put, sa, List.set_cons_zero, List.set_cons_succ]
        refine wpAnyH_ready (rs := [3]) (by kernel_rfl) (by simp) ?_
        refine rc (h := fun K hK => ?_) (r := AllReadyH.nil)
        go_simp
        refine (HUSED.out _ bk_).mono ?_
        rintro r wq ⟨rfl, hb⟩
        have hbs := hb.size
        try simp only [World.size_alloc, World.size_setCell, World.size_drew, size_setRow] at hbs
        go_wp2_with fail
        refine hK.out _ _ ⟨bk_, bk_, bk_, bk_, bk_, ow_, bl_, Nat.le_trans (sz_) hb.size⟩ (fun hH2 => ?_)
        clear hH
        have hH := hH2
        obtain ⟨hBW2, hA, hV, hL, hE, hRo, hfar, hsz⟩ := hH2
        clear hK K
        try simp only [Act.put, sa, List.set_cons_zero, List.set_cons_succ]
        refine wpAnyH_ready (rs := [4]) (by kernel_rfl) (by simp) ?_
        refine rc (h := fun K hK => ?_) (r := AllReadyH.nil)
        go_simp
        refine (HROOM.out _).mono ?_
        rintro r wq ⟨rfl, hb⟩
        have hbs := hb.size
        try simp only [World.size_alloc, World.size_setCell, World.size_drew, size_setRow] at hbs
        go_wp2_with fail
        refine hK.out _ _ ⟨bk_, bk_, bk_, bk_, bk_, ow_, bl_, Nat.le_trans (sz_) hb.size⟩ (fun hH2 => ?_)
        clear hH
        have hH := hH2
        obtain ⟨hBW2, hA, hV, hL, hE, hRo, hfar, hsz⟩ := hH2
        clear hK K
        try simp only [Act.put, sa, List.set_cons_zero, List.set_cons_succ]
        refine wpAnyH_ready (rs := [5]) (by kernel_rfl) (by simp) ?_
        refine rc (h := fun K hK => ?_) (r := AllReadyH.nil)
        go_simp
        refine (HPUL.out _ bk_).mono ?_
        rintro r wq ⟨rfl, hb⟩
        have hbs := hb.size
        try simp only [World.size_alloc, World.size_setCell, World.size_drew, size_setRow] at hbs
        go_wp2_with fail
        refine hK.out _ _ ⟨bk_, bk_, bk_, bk_, bk_, ow_, bl_, Nat.le_trans (sz_) hb.size⟩ (fun hH2 => ?_)
        clear hH
        have hH := hH2
        obtain ⟨hBW2, hA, hV, hL, hE, hRo, hfar, hsz⟩ := hH2
        clear hK K
        try simp only [Act.put, sa, List.set_cons_zero, List.set_cons_succ]
        refine wpAnyH_ready (rs := [7]) (by kernel_rfl) (by simp) ?_
        refine rc (h := fun K hK => ?_) (r := AllReadyH.nil)
        refine wp_st 27 rfl w_Four rfl rfl bk_ zz_ zz_ one_ ?_
        refine hK.out _ _ ⟨bk_, bk_, bk_, bk_, bk_, ow_, bl_, sz_⟩ (fun hH2 => ?_)
        clear hH
        have hH := hH2
        obtain ⟨hBW2, hA, hV, hL, hE, hRo, hfar, hsz⟩ := hH2
        clear hK K
        try simp only [Act.put]
        refine wpAnyH_done (by kernel_rfl) ?_ _
        go_wp2_with fail
        go_meet
        case rel => exact ⟨_, rfl, by exact bk_, by exact bk_, by exact bk_, by exact bk_, by exact bk_, own_row ow_, hO, hgB2, by exact bl_, by exact sz_⟩
      case rest =>
        clear hBW2 hA hV hL hE hRo hfar hsz
        obtain ⟨kb, rfl, hP⟩ := hcut
        have hP0 : PackW w wc B g kb was wv KS (F 0) v := by rw [HB0.out]; exact hP
        clear hP
        go_wp2_with fail
        go_loopw [48] (fun iv wr => ∃ (n : Nat) (v : Value), n ≤ 4 ∧ iv = .int .i64 n ∧ PackW w wr B g kb was wv KS (F n) v) (fun iv _ => 4 - (intOf iv).toNat)
        case atStart => exact ⟨0, v, by omega, rfl, hP0⟩
        case round =>
          clear hP0
          obtain ⟨n, v, hn4, rfl, hP⟩ := hrel
          by_cases hlt : n < 4
          · have hlti : (n : Int) < 4 := by omega
            have hk8 := HKS.out.2 n hlt
            have ck := (hP.k.cell n).trans (arr_get (l := KS) (by rw [LK.out]; omega))
            have hnx := HBNX.out n
            obtain ⟨kn, hkn⟩ : ∃ k : Nat, KS.getD n 0 = k := ⟨(KS.getD n 0).toNat, by omega⟩
            have hck := arr_get (l := KS) (n := n) (by rw [LK.out]; omega)
            rw [hkn] at hk8 ck hck
            have HCK := Lib.hid hck
            clear hck
            have hk8n : kn ≤ 8 := by omega
            by_cases hz : kn = 0
            · subst hz
              have hF1 : F (n + 1) = F n := by rw [hnx, bandCel, if_pos (by rw [hkn]; rfl), puts_nil]
              have HF1 := Lib.hid hF1
              clear hnx hF1 hkn
              go_wp2_with fail
              go_roundw
              case rel => exact ⟨n + 1, v, hlt, by go_num, by rw [HF1.out]; exact hP⟩
              case measure => simp [intOf]; omega
            · have hkz : ((kn : Nat) : Int) ≠ 0 := by omega
              have hbc : bandCel wv KS n = Sp.bitF 3 (bandN1 wv KS n) (costB n kn) := by unfold bandCel; rw [if_neg (by rw [hkn]; exact hkz), hkn, Int.toNat_natCast]
              have hbn : bandN1 wv KS n = vnum (findL (heldL (bandW wv n)) kn) kn := by unfold bandN1; rw [hkn, Int.toNat_natCast]
              rw [hbc, hbn] at hnx
              have hN8 := bandN_bd hlt
              have hN1 := bandN_pos hlt
              have hbl := bandW_len HH.out.1 hlt
              have hband := fun W (h : PackW w W B g kb was wv KS (F n) v) => Band_any wv HH.out.1 n hlt W h.bw
              obtain ⟨C, hC⟩ : ∃ C, bandW wv n = C := ⟨_, rfl⟩
              rw [hC] at hbl hnx
              simp only [hC] at hband
              have hhl := heldL_len C
              have hhb := heldL_bd C
              have hheld := fun base v w h => held_any C (bandN n) hbl hN1 base v w h
              obtain ⟨D, hD⟩ : ∃ D, heldL C = D := ⟨_, rfl⟩
              rw [hD] at hhl hhb hnx
              simp only [hD] at hheld
              rw [hbl] at hhl
              have hfind := fun pp cap lo hi w h => SFind_any D hhb (bandN n) hhl hN1 hN8 kn hk8n pp cap lo hi w h
              have hfl := findL_len D kn
              rw [hhl] at hfl
              have hfok := findL_ok hhb (by omega) kn
              obtain ⟨Y, hY⟩ : ∃ Y, findL D kn = Y := ⟨_, rfl⟩
              rw [hY] at hfl hfok hnx
              simp only [hY] at hfind
              have hy8 : ∀ x ∈ Y, -8 ≤ x ∧ x ≤ 8 := fun x hx => by have := hfok.2 x hx; omega
              have hnum := fun pp cap lo hi w h => VNumber_any Y hy8 (bandN n) hfl hN1 hN8 kn hk8n hfok.1 pp cap lo hi w h
              have hvn := vnum_bits (y := Y) (by omega) hk8n hfok.1
              rw [hfl] at hvn
              have hcf := cnt_fits hlt hk8n
              obtain ⟨V, hV⟩ : ∃ V, vnum Y kn = V := ⟨_, rfl⟩
              rw [hV] at hvn hnx
              simp only [hV] at hnum
              have hc20 : costB n kn ≤ 20 := Sp.vbits_bd hN8 hk8n
              have hvb := fun w => VBits_any (bandN n) kn hN8 hk8n w
              have hcb : Sp.vbits (bandN n) kn = costB n kn := rfl
              simp only [hcb] at hvb
              obtain ⟨cb, hcbe⟩ : ∃ c, costB n kn = c := ⟨_, rfl⟩
              rw [hcbe] at hnx hcf hc20
              simp only [hcbe] at hvb
              have hV2 : V < 2 ^ cb := by
                have h1 : ((Sp.cnt (bandN n) kn : Nat) : Int) ≤ ((2 ^ cb : Nat) : Int) := by exact_mod_cast hcf
                have h2 : ((2 ^ cb : Nat) : Int) = (2 : Int) ^ cb := by norm_cast
                omega
              have hsize : ∀ W, BandsW W → Calls Tryz.prog 98 #[.int .i64 n] W fun e w' => e = .returned (.int .i64 (bandN n)) ∧ Below W.heap.size W w' := fun W h => (Size_any n hlt W h).mono fun e w' ⟨he, hk⟩ => ⟨he, hk.below (fun _ h => h.elim) (Nat.le_refl _)⟩
              have hbits := fun W (h : PackW w W B g kb was wv KS (F n) v) => EBits_any g (HBOK.out n (by omega)).1 (by omega) V cb (by omega) hvn.1 hV2 v W h.ec h.r
              have HBAND := Lib.hid hband
              have HHELD := Lib.hid hheld
              have HFIND := Lib.hid hfind
              have HNUM := Lib.hid hnum
              have HVB := Lib.hid hvb
              have HSIZE := Lib.hid hsize
              have HBITS := Lib.hid hbits
              have HNX := Lib.hid hnx
              have HFL := Lib.hid hfl
              have HHL := Lib.hid hhl
              have HBL := Lib.hid hbl
              clear hband hheld hfind hnum hvb hsize hbits hnx hfl hhl hbl hcf hV hY hD hC hbc hbn hhb hfok hy8 hvn hV2 hcb hcbe hkn
              have hP1 := hP.drew
              have hVv := hP.b
              have hKb := hP.k
              go_upto_region 15 with (fail)
              go_cut [15, 16] from 54 to 66 (fun s15 s16 wx => ∃ p4 c4 lo hi, s15 = .slice p4 (bandN n) c4 ∧ s16 = .int .i64 0 ∧ SL wx lo hi 1 p4 (bandN n) c4 (intsV Y) ∧ PackW w wx B g kb was wv KS (F n) v)
              case first =>
                refine wp_region_held_drew (S := fun W => Blk W (B + 1) (arrV wv) 26 ∧ Blk W (kb) (arrV KS) 27) (by kernel_rfl) ⟨hVv.drew, hKb.drew⟩ (fun hH => ?_)
                refine tk 0 hH (v := .agg (arrV wv)) (y := (yieldsIf_ld (by rfl) 26 rfl w_Block rfl (fun _ hS => hS.1) zz_)) (k := ?_)
                refine tk 1 hH (y := yp) (k := ?_)
                refine tk 4 hH (y := yp) (k := ?_)
                refine tk 5 hH (y := yp) (k := ?_)
                refine tk 6 hH (y := (.inl ⟨by rfl, fun w hS => by (have c := ((hS.2.cell n).trans HCK.out); go_simp; try rfl)⟩)) (k := ?_)
                refine wpAnyH_ready (rs := [2]) (by kernel_rfl) (by simp) ?_
                refine rc (h := fun K hK => ?_) (r := AllReadyH.nil)
                go_simp
                refine (HBAND.out _ hP1).mono ?_
                rintro e2 w2 ⟨v2, rfl, hv2, hb2⟩
                have hP2 := hP1.newB hb2
                go_wp2_with fail
                refine hK.out _ _ ⟨hP2.b, hP2.k⟩ (fun hH => ?_)
                clear hK K
                try simp only [Act.put, sa, List.set_cons_zero, List.set_cons_succ]
                refine wpAnyH_ready (rs := [3]) (by kernel_rfl) (by simp) ?_
                refine rc (h := fun K hK => ?_) (r := AllReadyH.nil)
                go_simp
                refine (HHELD.out _ _ _ hv2).mono ?_
                rintro e3 w3 ⟨rfl, hv3, hb3⟩
                have hb3' := hb2.trans hb3
                have hP3 := hP1.newB hb3'
                obtain ⟨p3, c3, rfl, hs3⟩ := OW.sl hv3
                rw [HHL.out] at hs3
                go_wp2_with fail
                refine hK.out _ _ ⟨hP3.b, hP3.k⟩ (fun hH => ?_)
                clear hK K
                try simp only [Act.put, sa, List.set_cons_zero, List.set_cons_succ]
                refine wpAnyH_ready (rs := [7]) (by kernel_rfl) (by simp) ?_
                refine rc (h := fun K hK => ?_) (r := AllReadyH.nil)
                go_simp
                rw [HHL.out]
                refine (HFIND.out _ _ _ _ _ hs3).mono ?_
                rintro e4 w4 ⟨v4, rfl, hv4, hb4⟩
                have hP4 := hP3.newB hb4
                go_wp2_with fail
                refine hK.out _ _ ⟨hP4.b, hP4.k⟩ (fun hH => ?_)
                clear hK K
                try simp only [Act.put, sa, List.set_cons_zero, List.set_cons_succ]
                refine tk 8 hH (y := yp) (k := ?_)
                refine tk 9 hH (y := yp) (k := ?_)
                refine tk 10 hH (y := yp) (k := ?_)
                refine tk 11 hH (y := yp) (k := ?_)
                refine tk 12 hH (y := yp) (k := ?_)
                refine wpAnyH_done (by kernel_rfl) ?_ _
                go_wp2_with fail
                obtain ⟨p4, c4, rfl, hs4⟩ := OW.sl hv4
                rw [HFL.out] at hs4 ⊢
                go_meet
                case rel => exact ⟨_, _, _, _, rfl, rfl, hs4, hP4⟩
              case rest =>
                clear hP hP1 hVv hKb
                obtain ⟨p4, c4, lo4, hi4, rfl, rfl, hs4, hP4⟩ := hcut
                go_wp2_with fail
                refine (HNUM.out _ _ _ _ _ hs4).mono ?_
                rintro e5 w5 ⟨rfl, hb5⟩
                have hP5 := hP4.newB hb5
                clear hP4 hs4 hb5
                have hKb := hP5.k
                go_upto_region 17 with (fail)
                have hP6 := hP5.drew
                refine wp_region_held_drew (S := fun W => Blk W (kb) (arrV KS) 27) (by kernel_rfl) (hKb.drew) (fun hH => ?_)
                refine tk 0 hH (y := yp) (k := ?_)
                refine tk 1 hH (y := yp) (k := ?_)
                refine tk 2 hH (y := yp) (k := ?_)
                refine tk 4 hH (y := yp) (k := ?_)
                refine tk 5 hH (y := yp) (k := ?_)
                refine tk 6 hH (y := (.inl ⟨by rfl, fun w hS => by (have c := ((hS.cell n).trans HCK.out); go_simp; try rfl)⟩)) (k := ?_)
                refine wpAnyH_ready (rs := [3]) (by kernel_rfl) (by simp) ?_
                refine rc (h := fun K hK => ?_) (r := AllReadyH.nil)
                go_simp
                refine (HSIZE.out _ hP6.bw).mono ?_
                rintro e6 w6 ⟨rfl, hb6⟩
                have hP7 := hP6.newB hb6
                go_wp2_with fail
                refine hK.out _ _ hP7.k (fun hH => ?_)
                clear hK K
                try simp only [Act.put, sa, List.set_cons_zero, List.set_cons_succ]
                refine wpAnyH_ready (rs := [7]) (by kernel_rfl) (by simp) ?_
                refine rc (h := fun K hK => ?_) (r := AllReadyH.nil)
                go_simp
                refine (HVB.out _).mono ?_
                rintro e7 w7 ⟨rfl, hb7⟩
                have hP8 := hP7.newB hb7
                go_wp2_with fail
                refine hK.out _ _ hP8.k (fun hH => ?_)
                clear hK K
                try simp only [Act.put, sa, List.set_cons_zero, List.set_cons_succ]
                refine wpAnyH_ready (rs := [8]) (by kernel_rfl) (by simp) ?_
                refine rc (h := fun K hK => ?_) (r := AllReadyH.nil)
                go_simp
                refine (HBITS.out _ hP8).mono ?_
                rintro e8 w8 ⟨rfl, v8, hE8, hR8, hK8, hF8⟩
                rw [← HNX.out] at hE8 hR8
                have hP9 := hP8.put h0 hK8 hE8 hR8 hF8
                go_wp2_with fail
                refine hK.out _ _ hP9.k (fun hH => ?_)
                clear hK K
                try simp only [Act.put, sa, List.set_cons_zero, List.set_cons_succ]
                refine wpAnyH_done (by kernel_rfl) ?_ _
                go_wp2_with fail
                go_roundw
                case rel => exact ⟨n + 1, v8, hlt, by go_num, hP9⟩
                case measure => simp [intOf]; omega
          · obtain rfl : n = 4 := by omega
            have hdn := fun W (h : PackW w W B g kb was wv KS (F 4) v) => EncDone_any g (HBOK.out 4 (by omega)).1 (by omega) size (HBOK.out 4 (by omega)).2.2 (by omega) v W h.ec h.r
            have hfo : Sp.fitOk (F 4).all size = true := Sp.fitOk_short HFIT.out
            simp only [hfo, ← HPK.out] at hdn
            have HDN := Lib.hid hdn
            clear hdn hfo
            go_wp2_with fail
            refine (HDN.out _ hP).mono ?_
            rintro e w2 ⟨rfl, hb2⟩
            go_wp2_with fail
            go_ret2
            refine ⟨rfl, ?_⟩
            rw [hB]
            exact hP.far.trans (hb2.mono (by have := hP.sz; omega))
end Go.Proofs.YtkoljgmapclhkaaGreatDoor

namespace Go.Proofs.YtkoljgmapclhkaaGreatDoor
open Go.RowKit

def sound16 (x : Int) : Bool := decide (Sp.cut 16 x = x)
def lifted17 (x : Int) : Bool := decide (-131072 ≤ x) && decide (x ≤ 131072)
theorem esound_any (x : Int) (w : World) : Calls Tryz.prog 54 #[.int .i64 x] w fun e w' => e = .returned (.bool (sound16 x)) ∧ w = w' := by
  unfold sound16
  have hc := fun w => Cut16 x w
  obtain ⟨y, hy⟩ : ∃ y, Sp.cut 16 x = y := ⟨_, rfl⟩
  simp only [hy] at hc ⊢
  have HC := Lib.hid hc
  clear hc hy
  go_enter Tryz.func54, Tryz.ntmps54
  go_wp2_with fail
  refine (HC.out _).mono ?_
  rintro e w1 ⟨rfl, rfl⟩
  go_wp2_with fail
  go_ret
  exact ⟨by first | rfl | (simp; rfl), rfl⟩
theorem ERight1_any (x : Int) (w : World) : Calls Tryz.prog 84 #[.int .i64 x] w fun e w' => e = .returned (.bool (lifted17 x)) ∧ w = w' := by
  unfold lifted17
  by_cases h1 : -131072 ≤ x
  · go_enter Tryz.func84, Tryz.ntmps84
    go_wp2
    go_ret
    exact ⟨by simp [h1], rfl⟩
  · go_enter Tryz.func84, Tryz.ntmps84
    go_wp2
    go_ret
    exact ⟨by simp [h1]; try omega, rfl⟩
set_option maxHeartbeats 1600000 in
theorem every_any (f : FuncId) (p : Int → Bool) (l : List Int) (v : Value) (w : World) (hS : SliceI w v l) (hl : l.length ≤ 1000000) (hcf : ∀ (x : Int) (w : World), (callFunc f #[.int .i64 x]).run Tryz.prog w = .ok (.enter f #[.int .i64 x]) w) (hf : ∀ x ∈ l, ∀ w, Calls Tryz.prog f #[.int .i64 x] w fun e w' => e = .returned (.bool (p x)) ∧ w = w') :
    Calls Tryz.prog 53 #[v, .func (.func f) #[] #[]] w fun e w' => e = .returned (.bool (l.all p)) ∧ w = w' := by
  obtain ⟨o, cap, rfl, hc1, hc2, hcl⟩ := hS
  have HC := Lib.hid hcl
  have HF := Lib.hid hf
  obtain ⟨R, hR⟩ : ∃ R, l.all p = R := ⟨_, rfl⟩
  rw [hR]
  have HR := Lib.hid hR
  clear hcl hf hR
  go_enter Tryz.func53, Tryz.ntmps53
  go_wp2_with fail
  go_loop [9] (fun i => ∃ k : Nat, k ≤ l.length ∧ i = .int .i64 k ∧ Hid ((l.take k).all p = true)) (fun i => l.length - (intOf i).toNat)
  case atStart => exact ⟨0, Nat.zero_le _, rfl, Lib.hid rfl⟩
  case round =>
    obtain ⟨k, hk, rfl, HA⟩ := hrel
    by_cases hlt : k < l.length
    · obtain ⟨x, hx⟩ : ∃ x, l[k]? = some x := ⟨_, List.getElem?_eq_getElem hlt⟩
      obtain ⟨g, f0, rfl, hcell⟩ := HC.out k x hx
      have hfx := HF.out x (List.mem_of_getElem? hx)
      have htk : l.take (k + 1) = l.take k ++ [x] := by rw [List.take_add_one, hx]; rfl
      have hany : (l.take (k + 1)).all p = p x := by rw [htk, List.all_append, HA.out]; simp
      have hall : p x = false → R = false := fun h => by
        rw [← HR.out, List.all_eq_false]
        exact ⟨x, List.mem_of_getElem? hx, by rw [h]; decide⟩
      have HAN := Lib.hid hany
      have HAL := Lib.hid hall
      clear hany hall htk hx
      cases hp : p x with
      | false =>
        rw [hp] at hfx
        go_wp2_with fail
        refine (hfx _).mono ?_
        rintro e w1 ⟨rfl, rfl⟩
        go_wp2_with fail
        go_ret
        exact ⟨by rw [HAL.out hp]; rfl, rfl⟩
      | true =>
        rw [hp] at hfx
        go_wp2_with fail
        refine (hfx _).mono ?_
        rintro e w1 ⟨rfl, rfl⟩
        go_wp2_with fail
        go_round
        case rel => exact ⟨k + 1, hlt, by go_num, Lib.hid (by rw [HAN.out, hp])⟩
        case measure => simp [intOf]; omega
    · obtain rfl : k = l.length := by omega
      have h := HA.out
      rw [List.take_length, HR.out] at h
      subst h
      go_wp2_with fail
      go_ret
      exact ⟨rfl, rfl⟩
theorem sl_sliceI {W : World} {lo hi n cap : Nat} {p : Option Addr} {l : List Int} (h : SL W lo hi 1 p n cap (intsV l)) (hn : l.length = n) : SliceI W (.slice p n cap) l := by
  subst hn
  refine ⟨p, cap, rfl, h.2.1, by have := h.2.2.1; unfold maxLen at this; exact this, fun j x hx => ?_⟩
  have hj : j < l.length := (List.getElem?_eq_some_iff.1 hx).1
  obtain ⟨g, f, rfl⟩ := sl_someE h (by omega)
  exact ⟨g, f, rfl, h.2.2.2.2.2.2 _ rfl j _ (by rw [List.getElem?_map, hx]; rfl)⟩
def encL (P : List Int) (last : Int) (L : List Int) : List Int := P ++ last :: L
def rightN (P : List Int) (last : Int) (L : List Int) : Bool := P.all lifted17 && sound16 last && rightS L
theorem encL_len {P L : List Int} (last : Int) (h1 : P.length = 16) (h2 : L.length = 38) : (encL P last L).length = 55 := by
  unfold encL; rw [List.length_append, List.length_cons]; omega
set_option maxRecDepth 100000 in
set_option maxHeartbeats 1600000 in
theorem NRight_any (P L : List Int) (last : Int) (h1 : P.length = 16) (h2 : L.length = 38) (w : World) :
    Calls Tryz.prog 52 #[.agg (arrV (encL P last L))] w fun e w' => e = .returned (.bool (rightN P last L)) ∧ Below w.heap.size w w' := by
  have LE := Len.mk (encL_len last h1 h2)
  have hpt : (encL P last L).take 16 = P := by unfold encL; rw [← h1, List.take_left']; rfl
  have hpd : (encL P last L).drop 17 = L := by unfold encL; rw [List.drop_append]; simp [h1]
  have hpl : (encL P last L).getD 16 0 = last := by unfold encL; simp [List.getD_eq_getElem?_getD, ← h1]
  have hev := fun v w h => every_any 84 lifted17 P v w h (by omega) (fun _ _ => by kernel_rfl) (fun x _ w => ERight1_any x w)
  have hso := fun w => esound_any last w
  have hri := fun w => Right_any L h2 w
  have hre : rightN P last L = (P.all lifted17 && sound16 last && rightS L) := rfl
  obtain ⟨E, hE⟩ : ∃ E, encL P last L = E := ⟨_, rfl⟩
  rw [hE] at hpt hpd hpl LE ⊢
  obtain ⟨b1, hb1⟩ : ∃ b, P.all lifted17 = b := ⟨_, rfl⟩
  obtain ⟨b2, hb2⟩ : ∃ b, sound16 last = b := ⟨_, rfl⟩
  obtain ⟨b3, hb3⟩ : ∃ b, rightS L = b := ⟨_, rfl⟩
  rw [hb1, hb2, hb3] at hre
  simp only [hb1] at hev
  simp only [hb2] at hso
  simp only [hb3] at hri
  have HEV := Lib.hid hev
  have HSO := Lib.hid hso
  have HRI := Lib.hid hri
  rw [hre]
  clear hev hso hri hE hb1 hb2 hb3 hre
  obtain ⟨B, hB⟩ : ∃ B, w.heap.size = B := ⟨_, rfl⟩
  have hfar := Below.refl B w
  have hsz : B ≤ w.heap.size := by omega
  go_enter Tryz.func52, Tryz.ntmps52
  go_upto_region 2 with (fail)
  refine wp_gen (fun W => Blk W (B) (arrV E) 31 ∧ Below (B) w W ∧ B + 1 ≤ W.heap.size) ⟨bk_, bl_, sz_⟩ ?_
  clear hfar hsz
  rintro wa ⟨hA, hfar, hsz⟩
  have hsp := sl_part hA 0 16 (by rw [LE.out]; omega) (by omega)
  rw [List.drop_zero, hpt] at hsp
  have c16 := (hA.cell 16).trans (arr_get (l := E) (by rw [LE.out]; omega))
  rw [hpl] at c16
  go_wp2_with fail
  refine (HEV.out _ _ (sl_sliceI hsp h1)).mono ?_
  rintro e w1 ⟨rfl, rfl⟩
  clear hsp
  cases b1 with
  | false =>
    go_wp2_with fail
    go_ret
    exact ⟨rfl, (by (try rw [hB]); exact bl_)⟩
  | true =>
    go_wp2_with fail
    refine (HSO.out _).mono ?_
    rintro e w1 ⟨rfl, rfl⟩
    cases b2 with
    | false =>
      go_wp2_with fail
      go_ret
      exact ⟨rfl, (by (try rw [hB]); exact bl_)⟩
    | true =>
      go_wp2_with (refine ldp 29 rfl (by rfl) w_State rfl hA LE (by omega) ?_)
      rw [List.take_of_length_le (by omega)]
      refine (HRI.out _).mono ?_
      rintro e w2 ⟨rfl, hb2⟩
      replace hA := hA.newB hb2
      replace hfar := hfar.trans (hb2.mono (by omega))
      replace hsz := Nat.le_trans hsz hb2.size
      go_wp2_with fail
      go_ret
      exact ⟨by simp, (by (try rw [hB]); exact bl_)⟩
end Go.Proofs.YtkoljgmapclhkaaGreatDoor

namespace Go.Proofs.YtkoljgmapclhkaaGreatDoor
open Go.RowKit

theorem w_EEnc : Whole 31 55 := ⟨_, Tryz.underlying31, rfl, by kernel_rfl⟩
theorem res_tct {fn : Func} {r p q : Tmp} {ty t : TypeId} {tmps cs : Array Value} {w : World} {g n : Nat} {v u : Value} (h : fn.results = #[.tmp r, .cell p ty, .tmp q]) (hr : tmps.getD r undef = v) (hp : tmps.getD p undef = .pointer (some ⟨g, 0, none⟩)) (hW : Whole ty n) (hg : Blk w g cs t) (hs : cs.size = n) (hq : tmps.getD q undef = u) :
    (results fn tmps).run Tryz.prog w = .ok (.tuple #[v, .agg cs, u]) w := by
  obtain ⟨d, hu, hd, hi⟩ := hW
  subst hs
  have hp' : tmps[p]?.getD undef = .pointer (some ⟨g, 0, none⟩) := by simpa using hp
  have hr' : tmps[r]?.getD undef = v := by simpa using hr
  have hq' : tmps[q]?.getD undef = u := by simpa using hq
  simp [results, h, hp', hr', hq', asAddr, hg.loadVar ty hu hd hi]
/-- What Encode answers. -/
def encE (P : List Int) (last : Int) (L b : List Int) (size : Int) : Int := if size < 10 ∨ 32 < size then 10 else if rightN P last L = true ∧ b.all sound16 = true then 0 else 1
def encP (P : List Int) (last : Int) (L b : List Int) (size : Int) : ByteArray := if encE P last L b size = 0 then packS size.toNat (levL L) (wavesL P (liftL last b)) else ⟨#[]⟩
def encN (P : List Int) (last : Int) (L b : List Int) (size : Int) : List Int := if encE P last L b size = 0 then encL (liftL last b) (liftN last b) (decSt L (packS size.toNat (levL L) (wavesL P (liftL last b)))) else zs 55
theorem right_levs4 {L : List Int} (h : rightS L = true) (hL : L.length = 38) : LevelsOk (levL L) := by
  refine ⟨by unfold levL; rw [List.length_take, List.length_drop, hL]; decide, fun x hx => ?_⟩
  have := List.all_eq_true.1 (right_levs h) x hx
  unfold levP at this
  simpa using this
set_option maxRecDepth 100000 in
theorem eenc_built (F L : List Int) (n : Int) (h1 : F.length = 16) (h2 : L.length = 38) : Tryz.prog.built 31 [(0, .agg (arrV F)), (1, .int .i64 n), (2, .agg (arrV L))] = some (arrV (encL F n L)) := by
  match F, h1 with
  | [x0, x1, x2, x3, x4, x5, x6, x7, x8, x9, x10, x11, x12, x13, x14, x15], _ =>
    match L, h2 with
    | y0 :: y1 :: y2 :: y3 :: y4 :: y5 :: y6 :: y7 :: y8 :: y9 :: y10 :: y11 :: y12 :: y13 :: y14 :: y15 :: y16 :: y17 :: y18 :: y19 :: y20 :: y21 :: y22 :: y23 :: y24 :: y25 :: y26 :: y27 :: y28 :: y29 :: y30 :: y31 :: y32 :: y33 :: y34 :: y35 :: y36 :: y37 :: [], _ => (show (_ : Option (Array Value)) = _; kernel_rfl)
set_option maxRecDepth 100000 in
set_option maxHeartbeats 8000000 in
theorem Encode_good (P L b : List Int) (last : Int) (h1 : P.length = 16) (h2 : L.length = 38) (h3 : b.length = 16) (size : Nat) (hs0 : 10 ≤ size) (hs1 : size ≤ 32) (hr : rightN P last L = true) (hb : b.all sound16 = true) (w : World) (hW : BandsW w) :
    Calls Tryz.prog 31 #[.agg (arrV (encL P last L)), .agg (arrV b), .int .i64 size] w fun e w' => e = .returned (.tuple #[.string (packS size (levL L) (wavesL P (liftL last b))), .agg (arrV (encL (liftL last b) (liftN last b) (decSt L (packS size (levL L) (wavesL P (liftL last b)))))), .int .i64 0]) ∧ Below w.heap.size w w' := by
  have LE := Len.mk (encL_len last h1 h2)
  have LB := Len.mk h3
  have hrs : rightS L = true := by unfold rightN at hr; simp only [Bool.and_eq_true] at hr; exact hr.2
  have hlo := right_levs4 hrs h2
  have hev := fun v w h => every_any 54 sound16 b v w h (by omega) (fun _ _ => by kernel_rfl) (fun x _ w => esound_any x w)
  have her := fun w => NRight_any P L last h1 h2 w
  rw [hr] at her
  simp only [hb] at hev
  have hli := fun w => Lift_any last b h3 w
  have LF := Len.mk ((liftL_len last b).trans h3)
  have hwv := fun w => Waves_any P (liftL last b) h1 LF.out w
  have hpk := fun w hW => packet_any (levL L) (wavesL P (liftL last b)) hlo (wavesL_ok _ _) size hs0 hs1 w hW
  have hps := packS_size (w := wavesL P (liftL last b)) hlo hs0
  have hde := fun s w hW => Decode_any L h2 s w hW
  have hgood := dec_good L (packS size (levL L) (wavesL P (liftL last b))) (by rw [hps]; exact ⟨hs0, hs1⟩) hrs
  have hpt : (encL P last L).take 16 = P := by unfold encL; rw [← h1, List.take_left']; rfl
  have hpd : (encL P last L).drop 17 = L := by unfold encL; rw [List.drop_append]; simp [h1]
  have hpl : (encL P last L).getD 16 0 = last := by unfold encL; simp [List.getD_eq_getElem?_getD, ← h1]
  have hpw : ((encL P last L).drop 34).take 4 = levL L := by
    have e : (encL P last L).drop 34 = L.drop 17 := by
      have h := congrArg (List.drop 17) hpd
      rwa [List.drop_drop] at h
    rw [e]; rfl
  obtain ⟨E, hE⟩ : ∃ E, encL P last L = E := ⟨_, rfl⟩
  obtain ⟨F, hF⟩ : ∃ F, liftL last b = F := ⟨_, rfl⟩
  obtain ⟨FN, hFN⟩ : ∃ X, liftN last b = X := ⟨_, rfl⟩
  obtain ⟨WV, hWV⟩ : ∃ X, wavesL P F = X := ⟨_, rfl⟩
  obtain ⟨LV, hLV⟩ : ∃ X, levL L = X := ⟨_, rfl⟩
  obtain ⟨PK, hPK⟩ : ∃ X, packS size LV WV = X := ⟨_, rfl⟩
  rw [hF, hWV, hLV, hPK, hFN]
  simp only [hE] at hpt hpd hpl hpw her LE
  rw [hLV] at hpw hlo
  simp only [hF, hFN] at hli hwv hpk hgood hps LF
  simp only [hWV] at hwv hpk hgood hps
  simp only [hLV] at hpk hgood hps
  simp only [hPK] at hpk hgood hps
  obtain ⟨NX, hNX⟩ : ∃ X, decSt L PK = X := ⟨_, rfl⟩
  rw [hNX] at hgood
  have hdp := fun w hW => hde PK w hW
  simp only [hNX, hgood.1] at hdp
  obtain ⟨DO, hDO⟩ : ∃ X, decO L PK = X := ⟨_, rfl⟩
  simp only [hDO] at hdp hgood
  have LDO := Len.mk hgood.2.1
  have LNX := Len.mk hgood.2.2.2.2.2
  rw [hE, hNX]
  have HEV := Lib.hid hev
  have HER := Lib.hid her
  have HLI := Lib.hid hli
  have HWV := Lib.hid hwv
  have HPK := Lib.hid hpk
  have HDP := Lib.hid hdp
  have HPT := Lib.hid hpt
  have HPD := Lib.hid hpd
  have HPW := Lib.hid hpw
  clear hev her hli hwv hpk hdp hpt hpd hpw hde hgood hE hF hFN hWV hLV hPK hNX hDO hps hlo hrs hr hb
  have h0 : 0 < w.heap.size := hW.lt
  have hBW : Blk w 0 _ 164 := hW
  obtain ⟨B, hB⟩ : ∃ B, w.heap.size = B := ⟨_, rfl⟩
  rw [hB] at h0
  have hfar := Below.refl B w
  have hsz : B ≤ w.heap.size := by omega
  have hs0i : (10 : Int) ≤ size := by omega
  have hs1i : (size : Int) ≤ 32 := by omega
  go_enter Tryz.func31, Tryz.ntmps31
  go_upto_region 1 with (fail)
  refine wp_gen (fun W => Blk W (0) (#[.int .i64 0, .int .i64 2, .int .i64 4, .int .i64 8, .int .i64 16]) 164 ∧ Blk W (B) (arrV E) 31 ∧ Blk W (B + 1) (arrV b) 26 ∧ Blk W (B + 1 + 1) ((List.toArray (Value.int .i64 0 :: Value.int .i64 0 :: Value.int .i64 0 :: Value.int .i64 0 :: Value.int .i64 0 :: Value.int .i64 0 :: Value.int .i64 0 :: Value.int .i64 0 :: Value.int .i64 0 :: Value.int .i64 0 :: Value.int .i64 0 :: Value.int .i64 0 :: Value.int .i64 0 :: Value.int .i64 0 :: Value.int .i64 0 :: Value.int .i64 0 :: Value.int .i64 0 :: Value.int .i64 0 :: Value.int .i64 0 :: Value.int .i64 0 :: Value.int .i64 0 :: Value.int .i64 0 :: Value.int .i64 0 :: Value.int .i64 0 :: Value.int .i64 0 :: Value.int .i64 0 :: Value.int .i64 0 :: Value.int .i64 0 :: Value.int .i64 0 :: Value.int .i64 0 :: Value.int .i64 0 :: Value.int .i64 0 :: Value.int .i64 0 :: Value.int .i64 0 :: Value.int .i64 0 :: Value.int .i64 0 :: Value.int .i64 0 :: Value.int .i64 0 :: Value.int .i64 0 :: Value.int .i64 0 :: Value.int .i64 0 :: Value.int .i64 0 :: Value.int .i64 0 :: Value.int .i64 0 :: Value.int .i64 0 :: Value.int .i64 0 :: Value.int .i64 0 :: Value.int .i64 0 :: Value.int .i64 0 :: Value.int .i64 0 :: Value.int .i64 0 :: Value.int .i64 0 :: Value.int .i64 0 :: Value.int .i64 0 :: Value.int .i64 0 :: []))) 31 ∧ Below (B) w W ∧ B + 3 ≤ W.heap.size) ⟨bk_, bk_, bk_, bk_, bl_, sz_⟩ ?_
  clear hBW hfar hsz
  rintro wa ⟨hBW, hA, hV, hO, hfar, hsz⟩
  go_upto_region 3 with (fail)
  go_wp2_with (refine ld 31 rfl (by rfl) w_EEnc rfl hA LE.sz ?_)
  refine (HER.out _).mono ?_
  rintro e w2 ⟨rfl, hb2⟩
  replace hBW := hBW.newB hb2
  replace hA := hA.newB hb2
  replace hV := hV.newB hb2
  replace hO := hO.newB hb2
  replace hfar := hfar.trans (hb2.mono (by omega))
  replace hsz := Nat.le_trans hsz hb2.size
  have hsp := sl_part hV 0 16 (by rw [LB.out]; omega) (by omega)
  rw [List.drop_zero, List.take_of_length_le (by rw [LB.out]; omega)] at hsp
  go_wp2_with fail
  refine (HEV.out _ _ (sl_sliceI hsp h3)).mono ?_
  rintro e w' ⟨rfl, rfl⟩
  clear hsp
  have c16 := (hA.cell 16).trans (arr_get (l := E) (by rw [LE.out]; omega))
  rw [hpl] at c16
  go_upto_region 5 with (fail)
  go_wp2_with (refine ld 26 rfl (by rfl) w_Block rfl hV LB.sz ?_)
  refine (HLI.out _).mono ?_
  rintro e w3 ⟨rfl, hb3⟩
  clear c16
  replace hBW := hBW.newB hb3
  replace hA := hA.newB hb3
  replace hV := hV.newB hb3
  replace hO := hO.newB hb3
  replace hfar := hfar.trans (hb3.mono (by omega))
  replace hsz := Nat.le_trans hsz hb3.size
  obtain ⟨lb, hlb⟩ : ∃ x, w3.heap.size = x := ⟨_, rfl⟩
  have hlB : B + 3 ≤ lb := by omega
  go_upto_region 6 with (refine st 26 rfl (by rfl) w_Block rfl rfl bk_ lz_ LF.sz one_ ?_)
  refine wp_gen (fun W => Blk W (0) (#[.int .i64 0, .int .i64 2, .int .i64 4, .int .i64 8, .int .i64 16]) 164 ∧ Blk W (B) (arrV E) 31 ∧ Blk W (B + 1) (arrV b) 26 ∧ Blk W (B + 1 + 1) ((List.toArray (Value.int .i64 0 :: Value.int .i64 0 :: Value.int .i64 0 :: Value.int .i64 0 :: Value.int .i64 0 :: Value.int .i64 0 :: Value.int .i64 0 :: Value.int .i64 0 :: Value.int .i64 0 :: Value.int .i64 0 :: Value.int .i64 0 :: Value.int .i64 0 :: Value.int .i64 0 :: Value.int .i64 0 :: Value.int .i64 0 :: Value.int .i64 0 :: Value.int .i64 0 :: Value.int .i64 0 :: Value.int .i64 0 :: Value.int .i64 0 :: Value.int .i64 0 :: Value.int .i64 0 :: Value.int .i64 0 :: Value.int .i64 0 :: Value.int .i64 0 :: Value.int .i64 0 :: Value.int .i64 0 :: Value.int .i64 0 :: Value.int .i64 0 :: Value.int .i64 0 :: Value.int .i64 0 :: Value.int .i64 0 :: Value.int .i64 0 :: Value.int .i64 0 :: Value.int .i64 0 :: Value.int .i64 0 :: Value.int .i64 0 :: Value.int .i64 0 :: Value.int .i64 0 :: Value.int .i64 0 :: Value.int .i64 0 :: Value.int .i64 0 :: Value.int .i64 0 :: Value.int .i64 0 :: Value.int .i64 0 :: Value.int .i64 0 :: Value.int .i64 0 :: Value.int .i64 0 :: Value.int .i64 0 :: Value.int .i64 0 :: Value.int .i64 0 :: Value.int .i64 0 :: Value.int .i64 0 :: Value.int .i64 0 :: Value.int .i64 0 :: []))) 31 ∧ Blk W (lb) (arrV F) 26 ∧ Below (B) w W ∧ lb + 1 ≤ W.heap.size) ⟨bk_, bk_, bk_, bk_, bk_, bl_, sz_⟩ ?_
  clear hBW hA hV hO hfar hsz
  rintro w4 ⟨hBW, hA, hV, hO, hL, hfar, hsz⟩
  go_cut [11, 12] from 40 to 52 (fun s11 s12 wx => s11 = .string PK ∧ s12 = .int .i64 0 ∧ Blk wx 0 #[.int .i64 0, .int .i64 2, .int .i64 4, .int .i64 8, .int .i64 16] 164 ∧ Blk wx B (arrV E) 31 ∧ Blk wx (B + 1 + 1) (List.toArray (Value.int .i64 0 :: Value.int .i64 0 :: Value.int .i64 0 :: Value.int .i64 0 :: Value.int .i64 0 :: Value.int .i64 0 :: Value.int .i64 0 :: Value.int .i64 0 :: Value.int .i64 0 :: Value.int .i64 0 :: Value.int .i64 0 :: Value.int .i64 0 :: Value.int .i64 0 :: Value.int .i64 0 :: Value.int .i64 0 :: Value.int .i64 0 :: Value.int .i64 0 :: Value.int .i64 0 :: Value.int .i64 0 :: Value.int .i64 0 :: Value.int .i64 0 :: Value.int .i64 0 :: Value.int .i64 0 :: Value.int .i64 0 :: Value.int .i64 0 :: Value.int .i64 0 :: Value.int .i64 0 :: Value.int .i64 0 :: Value.int .i64 0 :: Value.int .i64 0 :: Value.int .i64 0 :: Value.int .i64 0 :: Value.int .i64 0 :: Value.int .i64 0 :: Value.int .i64 0 :: Value.int .i64 0 :: Value.int .i64 0 :: Value.int .i64 0 :: Value.int .i64 0 :: Value.int .i64 0 :: Value.int .i64 0 :: Value.int .i64 0 :: Value.int .i64 0 :: Value.int .i64 0 :: Value.int .i64 0 :: Value.int .i64 0 :: Value.int .i64 0 :: Value.int .i64 0 :: Value.int .i64 0 :: Value.int .i64 0 :: Value.int .i64 0 :: Value.int .i64 0 :: Value.int .i64 0 :: Value.int .i64 0 :: Value.int .i64 0 :: [])) 31 ∧ Blk wx lb (arrV F) 26 ∧ Below B w wx ∧ lb + 1 ≤ wx.heap.size)
  case first =>
    refine wp_region_held_drew (S := fun W => Blk W (B) (arrV E) 31 ∧ Blk W (lb) (arrV F) 26) (by kernel_rfl) ⟨hA.drew, hL.drew⟩ (fun hH => ?_)
    refine tk 0 hH (y := yp) (k := ?_)
    refine tk 1 hH (y := yp) (k := ?_)
    refine tk 2 hH (y := (yieldsIf_ldp (by rfl) 27 rfl w_Four rfl (fun _ hS => hS.1) ln_ (by omega))) (k := ?_)
    refine tk 3 hH (y := yp) (k := ?_)
    refine tk 4 hH (y := (yieldsIf_ldp (by rfl) 26 rfl w_Block rfl (fun _ hS => hS.1) ln_ (by omega))) (k := ?_)
    refine tk 5 hH (v := .agg (arrV F)) (y := (yieldsIf_ld (by rfl) 26 rfl w_Block rfl (fun _ hS => hS.2) zz_)) (k := ?_)
    refine tk 7 hH (y := yp) (k := ?_)
    refine wpAnyH_ready (rs := [6]) (by kernel_rfl) (by simp) ?_
    refine rc (h := fun K hK => ?_) (r := AllReadyH.nil)
    go_simp
    (try rw [List.drop_zero])
    (try rw [HPT.out])
    refine (HWV.out _).mono ?_
    rintro e5 w5 ⟨rfl, hb5⟩
    have hA5 := hA.drew.newB hb5
    have hL5 := hL.drew.newB hb5
    have hBW5 := hBW.drew.newB hb5
    have hO5 := hO.drew.newB hb5
    go_wp2_with fail
    refine hK.out _ _ ⟨hA5, hL5⟩ (fun hH => ?_)
    clear hK K
    try simp only [Act.put, sa, List.set_cons_zero, List.set_cons_succ]
    refine wpAnyH_ready (rs := [8]) (by kernel_rfl) (by simp) ?_
    refine rc (h := fun K hK => ?_) (r := AllReadyH.nil)
    go_simp
    (try rw [HPW.out])
    refine (HPK.out _ hBW5).mono ?_
    rintro e6 w6 ⟨rfl, hb6⟩
    have hA6 := hA5.newB hb6
    have hL6 := hL5.newB hb6
    have hBW6 := hBW5.newB hb6
    have hO6 := hO5.newB hb6
    go_wp2_with fail
    refine hK.out _ _ ⟨hA6, hL6⟩ (fun hH => ?_)
    clear hK K
    try simp only [Act.put, sa, List.set_cons_zero, List.set_cons_succ]
    refine tk 9 hH (y := yp) (k := ?_)
    refine tk 10 hH (y := yp) (k := ?_)
    refine tk 11 hH (y := yp) (k := ?_)
    refine tk 12 hH (y := yp) (k := ?_)
    refine tk 13 hH (y := yp) (k := ?_)
    refine wpAnyH_done (by kernel_rfl) ?_ _
    go_wp2_with fail
    go_meet
    case rel => exact ⟨rfl, rfl, hBW6, hA6, hO6, hL6, hfar.drew.trans ((hb5.mono (by simp only [World.size_drew]; omega)).trans (hb6.mono (by have := hb5.size; simp only [World.size_drew] at this; omega))), Nat.le_trans hsz (Nat.le_trans hb5.size hb6.size)⟩
  case rest =>
    clear hBW hA hV hO hL hfar hsz
    obtain ⟨rfl, rfl, hBW, hA, hO, hL, hfar, hsz⟩ := hcut
    go_upto_region 9 with (fail)
    go_wp2_with (refine ldp 29 rfl (by rfl) w_State rfl hA LE (by omega) ?_)
    rw [HPD.out, List.take_of_length_le (by omega)]
    refine (HDP.out _ hBW).mono ?_
    rintro e w7 ⟨rfl, hb7⟩
    replace hBW := hBW.newB hb7
    replace hA := hA.newB hb7
    replace hO := hO.newB hb7
    replace hL := hL.newB hb7
    replace hfar := hfar.trans (hb7.mono (by omega))
    replace hsz := Nat.le_trans hsz hb7.size
    obtain ⟨db, hdb⟩ : ∃ x, w7.heap.size = x := ⟨_, rfl⟩
    have hdB : lb + 1 ≤ db := by omega
    go_upto_region 10 with (first | (refine st 26 rfl (by rfl) w_Block rfl rfl bk_ lz_ LDO.sz one_ ?_) | (refine st 29 rfl (by rfl) w_State rfl rfl bk_ lz_ LNX.sz one_ ?_))
    refine wp_gen (fun W => Blk W (0) (#[.int .i64 0, .int .i64 2, .int .i64 4, .int .i64 8, .int .i64 16]) 164 ∧ Blk W (B) (arrV E) 31 ∧ Blk W (B + 1 + 1) ((List.toArray (Value.int .i64 0 :: Value.int .i64 0 :: Value.int .i64 0 :: Value.int .i64 0 :: Value.int .i64 0 :: Value.int .i64 0 :: Value.int .i64 0 :: Value.int .i64 0 :: Value.int .i64 0 :: Value.int .i64 0 :: Value.int .i64 0 :: Value.int .i64 0 :: Value.int .i64 0 :: Value.int .i64 0 :: Value.int .i64 0 :: Value.int .i64 0 :: Value.int .i64 0 :: Value.int .i64 0 :: Value.int .i64 0 :: Value.int .i64 0 :: Value.int .i64 0 :: Value.int .i64 0 :: Value.int .i64 0 :: Value.int .i64 0 :: Value.int .i64 0 :: Value.int .i64 0 :: Value.int .i64 0 :: Value.int .i64 0 :: Value.int .i64 0 :: Value.int .i64 0 :: Value.int .i64 0 :: Value.int .i64 0 :: Value.int .i64 0 :: Value.int .i64 0 :: Value.int .i64 0 :: Value.int .i64 0 :: Value.int .i64 0 :: Value.int .i64 0 :: Value.int .i64 0 :: Value.int .i64 0 :: Value.int .i64 0 :: Value.int .i64 0 :: Value.int .i64 0 :: Value.int .i64 0 :: Value.int .i64 0 :: Value.int .i64 0 :: Value.int .i64 0 :: Value.int .i64 0 :: Value.int .i64 0 :: Value.int .i64 0 :: Value.int .i64 0 :: Value.int .i64 0 :: Value.int .i64 0 :: Value.int .i64 0 :: Value.int .i64 0 :: []))) 31 ∧ Blk W (lb) (arrV F) 26 ∧ Blk W (db + 1) (arrV NX) 29 ∧ Below (B) w W ∧ db + 2 ≤ W.heap.size) ⟨bk_, bk_, bk_, bk_, bk_, bl_, sz_⟩ ?_
    clear hBW hA hO hL hfar hsz
    rintro w8 ⟨hBW, hA, hO, hL, hNS, hfar, hsz⟩
    go_upto_region 12 with (fail)
    have hbu := eenc_built F NX FN LF.out LNX.out
    have hz55 : ((List.toArray (Value.int .i64 0 :: Value.int .i64 0 :: Value.int .i64 0 :: Value.int .i64 0 :: Value.int .i64 0 :: Value.int .i64 0 :: Value.int .i64 0 :: Value.int .i64 0 :: Value.int .i64 0 :: Value.int .i64 0 :: Value.int .i64 0 :: Value.int .i64 0 :: Value.int .i64 0 :: Value.int .i64 0 :: Value.int .i64 0 :: Value.int .i64 0 :: Value.int .i64 0 :: Value.int .i64 0 :: Value.int .i64 0 :: Value.int .i64 0 :: Value.int .i64 0 :: Value.int .i64 0 :: Value.int .i64 0 :: Value.int .i64 0 :: Value.int .i64 0 :: Value.int .i64 0 :: Value.int .i64 0 :: Value.int .i64 0 :: Value.int .i64 0 :: Value.int .i64 0 :: Value.int .i64 0 :: Value.int .i64 0 :: Value.int .i64 0 :: Value.int .i64 0 :: Value.int .i64 0 :: Value.int .i64 0 :: Value.int .i64 0 :: Value.int .i64 0 :: Value.int .i64 0 :: Value.int .i64 0 :: Value.int .i64 0 :: Value.int .i64 0 :: Value.int .i64 0 :: Value.int .i64 0 :: Value.int .i64 0 :: Value.int .i64 0 :: Value.int .i64 0 :: Value.int .i64 0 :: Value.int .i64 0 :: Value.int .i64 0 :: Value.int .i64 0 :: Value.int .i64 0 :: Value.int .i64 0 :: Value.int .i64 0 :: Value.int .i64 0 :: [])) : Array Value).size = 55 := by rfl
    have LZ := Len.mk (encL_len FN LF.out LNX.out)
    refine wp_region_held_drew (S := fun W => Blk W (lb) (arrV F) 26 ∧ Blk W (db + 1) (arrV NX) 29) (by kernel_rfl) ⟨hL.drew, hNS.drew⟩ (fun hH => ?_)
    refine tk 0 hH (y := yp) (k := ?_)
    refine tk 1 hH (v := .agg (arrV F)) (y := (yieldsIf_ld (by rfl) 26 rfl w_Block rfl (fun _ hS => hS.1) zz_)) (k := ?_)
    refine tk 2 hH (y := yp) (k := ?_)
    refine tk 3 hH (v := .agg (arrV NX)) (y := (yieldsIf_ld (by rfl) 29 rfl w_State rfl (fun _ hS => hS.2) zz_)) (k := ?_)
    refine tk 4 hH (v := .agg (arrV (encL F FN NX))) (y := (yieldsIf_build_l (by rfl) 31 #[(0, .tmp 69), (1, .tmp 70), (2, .tmp 71)] rfl [(0, .agg (arrV F)), (1, .int .i64 FN), (2, .agg (arrV NX))] rfl _ hbu)) (k := ?_)
    refine tk 5 hH (y := yp) (k := ?_)
    refine wpAnyH_ready (rs := [6]) (by kernel_rfl) (by simp) ?_
    refine rc (h := fun K hK => ?_) (r := AllReadyH.nil)
    refine wp_st 31 rfl w_EEnc rfl rfl bk_ hz55 LZ.sz one_ ?_
    refine hK.out _ _ ⟨bk_, bk_⟩ (fun hH => ?_)
    clear hK K
    try simp only [Act.put]
    refine tk 7 hH (y := yp) (k := ?_)
    refine wpAnyH_done (by kernel_rfl) ?_ _
    go_wp2_with fail
    exact bodyPost_ret (v := .tuple #[.string PK, .agg (arrV (encL F FN NX)), .int .i64 0]) (res_tct Tryz.results31 rfl rfl w_EEnc (Blk.setRow hO.drew) LZ.sz rfl) rfl ⟨rfl, by (try rw [hB]); exact Below.setRow hfar.drew (by omega) _⟩
end Go.Proofs.YtkoljgmapclhkaaGreatDoor

namespace Go.Proofs.YtkoljgmapclhkaaGreatDoor
open Go.RowKit

theorem eenc_zs : Tryz.prog.built 31 [] = some (arrV (zs 55)) := by kernel_rfl
set_option maxRecDepth 100000 in
set_option maxHeartbeats 8000000 in
theorem Encode_size (E b : List Int) (h1 : E.length = 55) (h3 : b.length = 16) (size : Int) (hs : size < 10 ∨ 32 < size) (w : World) :
    Calls Tryz.prog 31 #[.agg (arrV E), .agg (arrV b), .int .i64 size] w fun e w' => e = .returned (.tuple #[.string ⟨#[]⟩, .agg (arrV (zs 55)), .int .i64 10]) ∧ Below w.heap.size w w' := by
  have hz55 : ((List.toArray (Value.int .i64 0 :: Value.int .i64 0 :: Value.int .i64 0 :: Value.int .i64 0 :: Value.int .i64 0 :: Value.int .i64 0 :: Value.int .i64 0 :: Value.int .i64 0 :: Value.int .i64 0 :: Value.int .i64 0 :: Value.int .i64 0 :: Value.int .i64 0 :: Value.int .i64 0 :: Value.int .i64 0 :: Value.int .i64 0 :: Value.int .i64 0 :: Value.int .i64 0 :: Value.int .i64 0 :: Value.int .i64 0 :: Value.int .i64 0 :: Value.int .i64 0 :: Value.int .i64 0 :: Value.int .i64 0 :: Value.int .i64 0 :: Value.int .i64 0 :: Value.int .i64 0 :: Value.int .i64 0 :: Value.int .i64 0 :: Value.int .i64 0 :: Value.int .i64 0 :: Value.int .i64 0 :: Value.int .i64 0 :: Value.int .i64 0 :: Value.int .i64 0 :: Value.int .i64 0 :: Value.int .i64 0 :: Value.int .i64 0 :: Value.int .i64 0 :: Value.int .i64 0 :: Value.int .i64 0 :: Value.int .i64 0 :: Value.int .i64 0 :: Value.int .i64 0 :: Value.int .i64 0 :: Value.int .i64 0 :: Value.int .i64 0 :: Value.int .i64 0 :: Value.int .i64 0 :: Value.int .i64 0 :: Value.int .i64 0 :: Value.int .i64 0 :: Value.int .i64 0 :: Value.int .i64 0 :: Value.int .i64 0 :: Value.int .i64 0 :: [])) : Array Value).size = 55 := by rfl
  have LZ : Len (zs 55) 55 := Len.zs 55
  obtain ⟨B, hB⟩ : ∃ B, w.heap.size = B := ⟨_, rfl⟩
  have hfar := Below.refl B w
  have hsz : B ≤ w.heap.size := by omega
  by_cases hlt : size < 10
  all_goals
    (try have hlt2 : 32 < size := by omega)
    go_enter Tryz.func31, Tryz.ntmps31
    go_upto_region 1 with (fail)
    refine wp_gen (fun W => Blk W (B + 1 + 1) ((List.toArray (Value.int .i64 0 :: Value.int .i64 0 :: Value.int .i64 0 :: Value.int .i64 0 :: Value.int .i64 0 :: Value.int .i64 0 :: Value.int .i64 0 :: Value.int .i64 0 :: Value.int .i64 0 :: Value.int .i64 0 :: Value.int .i64 0 :: Value.int .i64 0 :: Value.int .i64 0 :: Value.int .i64 0 :: Value.int .i64 0 :: Value.int .i64 0 :: Value.int .i64 0 :: Value.int .i64 0 :: Value.int .i64 0 :: Value.int .i64 0 :: Value.int .i64 0 :: Value.int .i64 0 :: Value.int .i64 0 :: Value.int .i64 0 :: Value.int .i64 0 :: Value.int .i64 0 :: Value.int .i64 0 :: Value.int .i64 0 :: Value.int .i64 0 :: Value.int .i64 0 :: Value.int .i64 0 :: Value.int .i64 0 :: Value.int .i64 0 :: Value.int .i64 0 :: Value.int .i64 0 :: Value.int .i64 0 :: Value.int .i64 0 :: Value.int .i64 0 :: Value.int .i64 0 :: Value.int .i64 0 :: Value.int .i64 0 :: Value.int .i64 0 :: Value.int .i64 0 :: Value.int .i64 0 :: Value.int .i64 0 :: Value.int .i64 0 :: Value.int .i64 0 :: Value.int .i64 0 :: Value.int .i64 0 :: Value.int .i64 0 :: Value.int .i64 0 :: Value.int .i64 0 :: Value.int .i64 0 :: Value.int .i64 0 :: Value.int .i64 0 :: []))) 31 ∧ Below (B) w W ∧ B + 3 ≤ W.heap.size) ⟨bk_, bl_, sz_⟩ ?_
    clear hfar hsz
    rintro wa ⟨hO, hfar, hsz⟩
    go_upto_region 2 with (fail)
    go_wp2_with (first | (refine bd 31 rfl (by rfl) rfl eenc_zs ?_) | (refine st 31 rfl (by rfl) w_EEnc rfl rfl hO hz55 LZ.sz one_ ?_))
    exact bodyPost_ret (v := .tuple #[.string ⟨#[]⟩, .agg (arrV (zs 55)), .int .i64 10]) (res_tct Tryz.results31 rfl rfl w_EEnc (Blk.setRow hO) LZ.sz rfl) rfl ⟨rfl, by (try rw [hB]); exact Below.setRow hfar (by omega) _⟩
set_option maxRecDepth 100000 in
set_option maxHeartbeats 8000000 in
theorem Encode_arg (P L b : List Int) (last : Int) (h1 : P.length = 16) (h2 : L.length = 38) (h3 : b.length = 16) (size : Int) (hs0 : 10 ≤ size) (hs1 : size ≤ 32) (hno : ¬ (rightN P last L = true ∧ b.all sound16 = true)) (w : World) :
    Calls Tryz.prog 31 #[.agg (arrV (encL P last L)), .agg (arrV b), .int .i64 size] w fun e w' => e = .returned (.tuple #[.string ⟨#[]⟩, .agg (arrV (zs 55)), .int .i64 1]) ∧ Below w.heap.size w w' := by
  have LE := Len.mk (encL_len last h1 h2)
  have LB := Len.mk h3
  have hz55 : ((List.toArray (Value.int .i64 0 :: Value.int .i64 0 :: Value.int .i64 0 :: Value.int .i64 0 :: Value.int .i64 0 :: Value.int .i64 0 :: Value.int .i64 0 :: Value.int .i64 0 :: Value.int .i64 0 :: Value.int .i64 0 :: Value.int .i64 0 :: Value.int .i64 0 :: Value.int .i64 0 :: Value.int .i64 0 :: Value.int .i64 0 :: Value.int .i64 0 :: Value.int .i64 0 :: Value.int .i64 0 :: Value.int .i64 0 :: Value.int .i64 0 :: Value.int .i64 0 :: Value.int .i64 0 :: Value.int .i64 0 :: Value.int .i64 0 :: Value.int .i64 0 :: Value.int .i64 0 :: Value.int .i64 0 :: Value.int .i64 0 :: Value.int .i64 0 :: Value.int .i64 0 :: Value.int .i64 0 :: Value.int .i64 0 :: Value.int .i64 0 :: Value.int .i64 0 :: Value.int .i64 0 :: Value.int .i64 0 :: Value.int .i64 0 :: Value.int .i64 0 :: Value.int .i64 0 :: Value.int .i64 0 :: Value.int .i64 0 :: Value.int .i64 0 :: Value.int .i64 0 :: Value.int .i64 0 :: Value.int .i64 0 :: Value.int .i64 0 :: Value.int .i64 0 :: Value.int .i64 0 :: Value.int .i64 0 :: Value.int .i64 0 :: Value.int .i64 0 :: Value.int .i64 0 :: Value.int .i64 0 :: Value.int .i64 0 :: Value.int .i64 0 :: [])) : Array Value).size = 55 := by rfl
  have LZ : Len (zs 55) 55 := Len.zs 55
  have hev := fun v w h => every_any 54 sound16 b v w h (by omega) (fun _ _ => by kernel_rfl) (fun x _ w => esound_any x w)
  have her := fun w => NRight_any P L last h1 h2 w
  obtain ⟨E, hE⟩ : ∃ E, encL P last L = E := ⟨_, rfl⟩
  rw [hE] at LE ⊢
  simp only [hE] at her
  obtain ⟨r, hr⟩ : ∃ r, rightN P last L = r := ⟨_, rfl⟩
  obtain ⟨q, hq⟩ : ∃ q, b.all sound16 = q := ⟨_, rfl⟩
  rw [hr, hq] at hno
  simp only [hr] at her
  simp only [hq] at hev
  have HEV := Lib.hid hev
  have HER := Lib.hid her
  clear hev her hE hr hq
  obtain ⟨B, hB⟩ : ∃ B, w.heap.size = B := ⟨_, rfl⟩
  have hfar := Below.refl B w
  have hsz : B ≤ w.heap.size := by omega
  cases r with
  | false =>
    go_enter Tryz.func31, Tryz.ntmps31
    go_upto_region 1 with (fail)
    refine wp_gen (fun W => Blk W (B) (arrV E) 31 ∧ Blk W (B + 1) (arrV b) 26 ∧ Blk W (B + 1 + 1) ((List.toArray (Value.int .i64 0 :: Value.int .i64 0 :: Value.int .i64 0 :: Value.int .i64 0 :: Value.int .i64 0 :: Value.int .i64 0 :: Value.int .i64 0 :: Value.int .i64 0 :: Value.int .i64 0 :: Value.int .i64 0 :: Value.int .i64 0 :: Value.int .i64 0 :: Value.int .i64 0 :: Value.int .i64 0 :: Value.int .i64 0 :: Value.int .i64 0 :: Value.int .i64 0 :: Value.int .i64 0 :: Value.int .i64 0 :: Value.int .i64 0 :: Value.int .i64 0 :: Value.int .i64 0 :: Value.int .i64 0 :: Value.int .i64 0 :: Value.int .i64 0 :: Value.int .i64 0 :: Value.int .i64 0 :: Value.int .i64 0 :: Value.int .i64 0 :: Value.int .i64 0 :: Value.int .i64 0 :: Value.int .i64 0 :: Value.int .i64 0 :: Value.int .i64 0 :: Value.int .i64 0 :: Value.int .i64 0 :: Value.int .i64 0 :: Value.int .i64 0 :: Value.int .i64 0 :: Value.int .i64 0 :: Value.int .i64 0 :: Value.int .i64 0 :: Value.int .i64 0 :: Value.int .i64 0 :: Value.int .i64 0 :: Value.int .i64 0 :: Value.int .i64 0 :: Value.int .i64 0 :: Value.int .i64 0 :: Value.int .i64 0 :: Value.int .i64 0 :: Value.int .i64 0 :: Value.int .i64 0 :: Value.int .i64 0 :: Value.int .i64 0 :: []))) 31 ∧ Below (B) w W ∧ B + 3 ≤ W.heap.size) ⟨bk_, bk_, bk_, bl_, sz_⟩ ?_
    clear hfar hsz
    rintro wa ⟨hA, hV, hO, hfar, hsz⟩
    go_upto_region 3 with (fail)
    go_wp2_with (refine ld 31 rfl (by rfl) w_EEnc rfl hA LE.sz ?_)
    refine (HER.out _).mono ?_
    rintro e w2 ⟨rfl, hb2⟩
    replace hA := hA.newB hb2
    replace hV := hV.newB hb2
    replace hO := hO.newB hb2
    replace hfar := hfar.trans (hb2.mono (by omega))
    replace hsz := Nat.le_trans hsz hb2.size
    go_upto_region 4 with (fail)
    go_wp2_with (first | (refine bd 31 rfl (by rfl) rfl eenc_zs ?_) | (refine st 31 rfl (by rfl) w_EEnc rfl rfl hO hz55 LZ.sz one_ ?_))
    exact bodyPost_ret (v := .tuple #[.string ⟨#[]⟩, .agg (arrV (zs 55)), .int .i64 1]) (res_tct Tryz.results31 rfl rfl w_EEnc (Blk.setRow hO) LZ.sz rfl) rfl ⟨rfl, by (try rw [hB]); exact Below.setRow hfar (by omega) _⟩
  | true =>
    cases q with
    | true => exact absurd ⟨rfl, rfl⟩ hno
    | false =>
      go_enter Tryz.func31, Tryz.ntmps31
      go_upto_region 1 with (fail)
      refine wp_gen (fun W => Blk W (B) (arrV E) 31 ∧ Blk W (B + 1) (arrV b) 26 ∧ Blk W (B + 1 + 1) ((List.toArray (Value.int .i64 0 :: Value.int .i64 0 :: Value.int .i64 0 :: Value.int .i64 0 :: Value.int .i64 0 :: Value.int .i64 0 :: Value.int .i64 0 :: Value.int .i64 0 :: Value.int .i64 0 :: Value.int .i64 0 :: Value.int .i64 0 :: Value.int .i64 0 :: Value.int .i64 0 :: Value.int .i64 0 :: Value.int .i64 0 :: Value.int .i64 0 :: Value.int .i64 0 :: Value.int .i64 0 :: Value.int .i64 0 :: Value.int .i64 0 :: Value.int .i64 0 :: Value.int .i64 0 :: Value.int .i64 0 :: Value.int .i64 0 :: Value.int .i64 0 :: Value.int .i64 0 :: Value.int .i64 0 :: Value.int .i64 0 :: Value.int .i64 0 :: Value.int .i64 0 :: Value.int .i64 0 :: Value.int .i64 0 :: Value.int .i64 0 :: Value.int .i64 0 :: Value.int .i64 0 :: Value.int .i64 0 :: Value.int .i64 0 :: Value.int .i64 0 :: Value.int .i64 0 :: Value.int .i64 0 :: Value.int .i64 0 :: Value.int .i64 0 :: Value.int .i64 0 :: Value.int .i64 0 :: Value.int .i64 0 :: Value.int .i64 0 :: Value.int .i64 0 :: Value.int .i64 0 :: Value.int .i64 0 :: Value.int .i64 0 :: Value.int .i64 0 :: Value.int .i64 0 :: Value.int .i64 0 :: Value.int .i64 0 :: Value.int .i64 0 :: []))) 31 ∧ Below (B) w W ∧ B + 3 ≤ W.heap.size) ⟨bk_, bk_, bk_, bl_, sz_⟩ ?_
      clear hfar hsz
      rintro wa ⟨hA, hV, hO, hfar, hsz⟩
      go_upto_region 3 with (fail)
      go_wp2_with (refine ld 31 rfl (by rfl) w_EEnc rfl hA LE.sz ?_)
      refine (HER.out _).mono ?_
      rintro e w2 ⟨rfl, hb2⟩
      replace hA := hA.newB hb2
      replace hV := hV.newB hb2
      replace hO := hO.newB hb2
      replace hfar := hfar.trans (hb2.mono (by omega))
      replace hsz := Nat.le_trans hsz hb2.size
      have hsp := sl_part hV 0 16 (by rw [LB.out]; omega) (by omega)
      rw [List.drop_zero, List.take_of_length_le (by rw [LB.out]; omega)] at hsp
      go_wp2_with fail
      refine (HEV.out _ _ (sl_sliceI hsp h3)).mono ?_
      rintro e w' ⟨rfl, rfl⟩
      clear hsp
      go_upto_region 4 with (fail)
      go_wp2_with (first | (refine bd 31 rfl (by rfl) rfl eenc_zs ?_) | (refine st 31 rfl (by rfl) w_EEnc rfl rfl hO hz55 LZ.sz one_ ?_))
      exact bodyPost_ret (v := .tuple #[.string ⟨#[]⟩, .agg (arrV (zs 55)), .int .i64 1]) (res_tct Tryz.results31 rfl rfl w_EEnc (Blk.setRow hO) LZ.sz rfl) rfl ⟨rfl, by (try rw [hB]); exact Below.setRow hfar (by omega) _⟩
end Go.Proofs.YtkoljgmapclhkaaGreatDoor
