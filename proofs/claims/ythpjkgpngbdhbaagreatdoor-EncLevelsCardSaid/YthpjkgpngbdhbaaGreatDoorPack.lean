/- The walk of enc.packet. -/
import Derived.Test.YthpjkgpngbdhbaaGreatDoorHeld2
import Derived.Test.YthpjkgpngbdhbaaGreatDoorVect3
import Derived.Test.YthpjkgpngbdhbaaGreatDoorLPut
import Derived.Test.YthpjkgpngbdhbaaGreatDoorRangE3
set_option linter.unusedSimpArgs false
set_option linter.unusedVariables false
namespace Go.Proofs.YthpjkgpngbdhbaaGreatDoor
open Go.RowKit

theorem cnt_fits_row : ∀ b < 4, ∀ k < 9, (Sp.cntL (bandN b)).getD k 0 ≤ 2 ^ Lib.bitLen ((Sp.cntL (bandN b)).getD k 0 - 1) := by decide +kernel
theorem cnt_fits {b k : Nat} (hb : b < 4) (hk : k ≤ 8) : Sp.cnt (bandN b) k ≤ 2 ^ costB b k := by
  unfold costB Sp.vbits
  rw [Sp.cnt_row _ k (by omega)]
  exact cnt_fits_row b hb k (by omega)
theorem bandN_pos {b : Nat} (h : b < 4) : 1 ≤ bandN b := by
  have hb4 : b = 0 ∨ b = 1 ∨ b = 2 ∨ b = 3 := by omega
  rcases hb4 with rfl | rfl | rfl | rfl <;> decide
theorem blk_ne {W : World} {a b : Nat} {cs ds : Array Value} {s t : TypeId} (h : Blk W a cs s) (k : Blk W b ds t) (hst : s ≠ t) : a ≠ b := by
  rintro rfl
  have e := h.symm.trans k
  simp only [Option.some.injEq, Obj.cells.injEq] at e
  exact hst e.2.1
theorem row_ne {W : World} {b : Nat} {ds : Array Value} {e t : TypeId} {v : Value} {xs : List Value} (h : Row W e v xs) (k : Blk W b ds t) (het : e ≠ t) {i : Nat} (hi : v.ownBlock = some i) : i ≠ b := by
  rcases h.2 with ⟨rfl, _⟩ | ⟨g, cap, cur, rfl, _, hg, _⟩
  · simp [Value.ownBlock] at hi
  · obtain rfl : g = i := by simpa [Value.ownBlock] using hi
    exact blk_ne hg k het
theorem row_own {W : World} {e : TypeId} {v : Value} {xs : List Value} {B : Nat} (h : Row W e v xs) (ho : ∀ k, v.ownBlock = some k → B ≤ k) : OW W B W.heap.size e 1 v xs.length xs := by
  refine OW.mk0 ⟨h.1, ?_⟩
  rcases h.2 with hl | ⟨g, cap, cur, rfl, _, hg, rest⟩
  · exact .inl hl
  · exact .inr ⟨g, cap, cur, rfl, ho g rfl, hg, rest⟩
theorem own_row {W : World} {e : TypeId} {v : Value} {xs : List Value} {B hi : Nat} (h : OW W B hi e 1 v xs.length xs) : Row W e v xs := own_up h.1 (Nat.zero_le _)
/-- Memory while a packet is made. -/
structure PackW (w W : World) (B g kb : Nat) (was wv ks : List Int) (e : Sp.Enc) (v : Value) : Prop where
  bw : BandsW W
  a : Blk W B (arrV was) 23
  b : Blk W (B + 1) (arrV wv) 32
  k : Blk W kb (arrV ks) 23
  ec : Blk W g (encC e v) 147
  r : Row W 5 v (bytesV e.out)
  o : ∀ k, v.ownBlock = some k → B ≤ k
  gB : B ≤ g
  far : Below B w W
  sz : B + 2 ≤ W.heap.size
theorem PackW.newB {w W W' : World} {B g kb : Nat} {was wv ks : List Int} {e : Sp.Enc} {v : Value} (h : PackW w W B g kb was wv ks e v) (hb : Below W.heap.size W W') : PackW w W' B g kb was wv ks e v :=
  ⟨h.bw.newB hb, h.a.newB hb, h.b.newB hb, h.k.newB hb, h.ec.newB hb, h.r.keep (Kept.of_below (S := fun _ => False) hb) (fun _ _ h => h), h.o, h.gB, h.far.trans (hb.mono (by have := h.sz; omega)), Nat.le_trans h.sz hb.size⟩
theorem PackW.drew {w W : World} {B g kb : Nat} {was wv ks : List Int} {e : Sp.Enc} {v : Value} (h : PackW w W B g kb was wv ks e v) : PackW w W.drew B g kb was wv ks e v :=
  h.newB ((Below.refl _ _).drew)
theorem PackW.put {w W W' : World} {B g kb : Nat} {was wv ks : List Int} {e e' : Sp.Enc} {v v' : Value} (h : PackW w W B g kb was wv ks e v) (hB : 0 < B) (hk : Kept (EncS g v) W W') (he : Blk W' g (encC e' v') 147) (hr : Row W' 5 v' (bytesV e'.out)) (hf : ∀ k, v'.ownBlock = some k → v.ownBlock = some k ∨ W.heap.size ≤ k) : PackW w W' B g kb was wv ks e' v' := by
  have hn : ∀ {b : Nat} {cs : Array Value} {t : TypeId}, Blk W b cs t → 147 ≠ t → 5 ≠ t → ¬ EncS g v b := by
    intro b cs t hb h1 h2 hs
    rcases hs with rfl | hs
    · exact blk_ne h.ec hb h1 rfl
    · exact row_ne h.r hb h2 hs rfl
  have h0 : ¬ EncS g v 0 := by
    have hgB := h.gB
    rintro (h1 | h1)
    · omega
    · have := h.o _ h1; omega
  refine ⟨h.bw.keep hk h0, h.a.keep hk (hn h.a (by decide) (by decide)), h.b.keep hk (hn h.b (by decide) (by decide)), h.k.keep hk (hn h.k (by decide) (by decide)), he, hr, fun k hk => ?_, h.gB, h.far.trans (hk.below ?_ (by have := h.sz; omega)), Nat.le_trans h.sz hk.size⟩
  · rcases hf k hk with h1 | h1
    · exact h.o _ h1
    · have := h.sz; omega
  · intro i hi
    rcases hi with rfl | hi
    · exact h.gB
    · exact h.o _ hi
theorem PackW.give {w W : World} {B g kb : Nat} {was wv ks ls : List Int} {e : Sp.Enc} {v : Value} {cs : Array Value} (h : PackW w W B g kb was wv ks e v) {b : Nat} (hb : W.heap.size = b) (hs : cs.size = (arrV ls).size) : PackW w ((W.alloc (.cells cs 23)).setRow b (arrV ls)) B g b was wv ls e v := by
  subst hb
  have hb2 : Below W.heap.size W ((W.alloc (.cells cs 23)).setRow W.heap.size (arrV ls)) := Below.setRow (Below.alloc (Below.refl _ _) (Nat.le_refl _) _) (g := W.heap.size) (Nat.le_refl _) (arrV ls)
  exact { h.newB hb2 with k := (Blk.new W cs 23).setRow }
set_option maxRecDepth 100000 in
set_option maxHeartbeats 16000000 in
theorem packet_any (was wv : List Int) (h1 : LevelsOk was) (hw : WavesOk wv) (size : Nat) (hs0 : 10 ≤ size) (hs1 : size ≤ 32) (w : World) (hW : BandsW w) :
    Calls Tryz.prog 25 #[.agg (arrV was), .agg (arrV wv), .int .i64 size] w fun x w' => x = .returned (.tuple #[.string (packS size was wv), .int .i64 0]) ∧ Below w.heap.size w w' := by
  have LWAS := Len.mk h1.1
  have LWV := Len.mk hw.1
  have hlv := levelsL_ok wv
  have hLV := fun w hW => Levels_any wv hw w hW
  have hhok := fun n (hn : n ≤ 4) => encHead_ok (size := size) h1 hlv (n := n) hn
  have hhnx := fun n => encHead_next size was (levelsL wv) n
  have hhu := encHead_used (size := size) h1 hlv (n := 4) (by omega)
  have hld := fun b (hb : b < 4) => levD_bd h1 hlv hb
  have hh0 : encHead size was (levelsL wv) 0 = Sp.Enc.new size := rfl
  have hbok := fun n (hn : n ≤ 4) => encBands_ok (size := size) (w := wv) h1 (n := n) hn
  have hbnx := fun n => encBands_next (size := size) (was := was) (w := wv) n
  have hb0 : encBands size was wv 0 = encHead size was (levelsL wv) 4 := encBands_zero
  have hfit := pack_fits (w := wv) h1 hs0
  have hks := pulE_ok size was (levelsL wv)
  have hkse : pulE size was (levelsL wv) = pulses (levelsL wv) 33 [0, 0, 0, 0] (max (8 * (size : Int) - 40 - (encHead size was (levelsL wv) 4).used) 0) := rfl
  have hpk : packS size was wv = Sp.fitS (encBands size was wv 4).all size := rfl
  have LL := Len.mk hlv.1
  have LK := Len.mk hks.1
  obtain ⟨E, hE⟩ : ∃ E : Nat → Sp.Enc, (fun n => encHead size was (levelsL wv) n) = E := ⟨_, rfl⟩
  have hEn : ∀ n, encHead size was (levelsL wv) n = E n := fun n => congrFun hE n
  obtain ⟨F, hF⟩ : ∃ F : Nat → Sp.Enc, (fun n => encBands size was wv n) = F := ⟨_, rfl⟩
  have hFn : ∀ n, encBands size was wv n = F n := fun n => congrFun hF n
  obtain ⟨KS, hKS⟩ : ∃ K, pulE size was (levelsL wv) = K := ⟨_, rfl⟩
  obtain ⟨LV, hLVe⟩ : ∃ L, levelsL wv = L := ⟨_, rfl⟩
  obtain ⟨P, hP⟩ : ∃ P, packS size was wv = P := ⟨_, rfl⟩
  rw [hP] at hpk ⊢
  simp only [hKS] at hks hbnx LK hkse
  simp only [hLVe] at hlv hLV hhok hhnx hhu hld hh0 hb0 LL hEn hkse
  simp only [hEn] at hhok hhnx hhu hh0 hb0 hkse
  simp only [hFn] at hbok hbnx hb0 hfit hpk
  have HHOK := Lib.hid hhok
  have HHNX := Lib.hid hhnx
  have HH0 := Lib.hid hh0
  have HLD := Lib.hid hld
  have HBOK := Lib.hid hbok
  have HBNX := Lib.hid hbnx
  have HB0 := Lib.hid hb0
  have HFIT := Lib.hid hfit
  have HKS := Lib.hid hks
  have HPK := Lib.hid hpk
  have HLV := Lib.hid hLV
  have HLOK := Lib.hid hlv
  have HKSE := Lib.hid hkse
  have HH := Lib.hid hw
  have HHU := Lib.hid hhu
  clear hhok hhnx hh0 hld hbok hbnx hb0 hfit hks hpk hLV hlv hkse hw hhu hE hEn hF hFn hKS hLVe hP h1
  have h0 : 0 < w.heap.size := hW.lt
  obtain ⟨B, hB⟩ : ∃ B, w.heap.size = B := ⟨_, rfl⟩
  have hBW : Blk w 0 _ _ := hW
  rw [hB] at h0
  have hfar := Below.refl B w
  have hsz : B ≤ w.heap.size := by omega
  have hne := fun w => NewEnc_any (size : Int) (by omega) (by omega) w
  have HNE := Lib.hid hne
  clear hne
  have hsi0 : (10 : Int) ≤ size := by omega
  have hsi1 : (size : Int) ≤ 32 := by omega
  go_enter Tryz.func25, Tryz.ntmps25
  go_upto_region 1 with (fail)
  refine wp_gen (fun W => Blk W (0) (#[.int .i64 0, .int .i64 2, .int .i64 4, .int .i64 8, .int .i64 16]) 133 ∧ Blk W (B) (arrV was) 23 ∧ Blk W (B + 1) (arrV wv) 32 ∧ Below (B) w W ∧ B + 2 ≤ W.heap.size) ⟨bk_, bk_, bk_, bl_, sz_⟩ ?_
  clear hBW hfar hsz
  rintro wa ⟨hBW, hA, hV, hfar, hsz⟩
  go_wp2_with fail
  refine (HNE.out _).mono ?_
  rintro x wb ⟨g, hg, rfl, hEn, hb⟩
  have hgB : B ≤ g := by omega
  have hR0 := Row.nil wb 5
  have hP1 : PackW w wb B g B was wv was (E 0) (.slice none 0 0) := ⟨hBW.newB hb, hA.newB hb, hV.newB hb, hA.newB hb, by rw [HH0.out]; exact hEn, by rw [HH0.out]; exact hR0, by intro k hk; simp [Value.ownBlock] at hk, hgB, hfar.trans (hb.mono (by omega)), Nat.le_trans hsz hb.size⟩
  clear hR0 hEn hA hV hBW hfar hsz hb
  go_upto_region 4 with (fail)
  go_wp2_with (first | (refine ld 32 rfl (by rfl) w_Block rfl hP1.b LWV.sz ?_) | (refine (HLV.out _ hP1.bw).mono ?_))
  rintro x wc ⟨rfl, hb2⟩
  have hP2 := hP1.newB hb2
  clear hP1 hb2
  obtain ⟨lb, hlb⟩ : ∃ b, wc.heap.size = b := ⟨_, rfl⟩
  go_upto_region 5 with (refine st 23 rfl (by rfl) w_Four rfl rfl bk_ lz_ LL.sz one_ ?_)
  refine wp_gen (fun W => PackW w W B g lb was wv LV (E 0) (.slice none 0 0)) (hP2.give hlb (by rw [LL.sz]; rfl)) ?_
  clear hP2 hlb
  rintro wd hP3
  go_wp2_with (first | (refine ld 23 rfl (by rfl) w_Four rfl hP3.k LL.sz ?_))
  go_loopw [30] (fun iv wr => ∃ (i : Nat) (v : Value), i ≤ 4 ∧ iv = .int .i64 i ∧ PackW w wr B g lb was wv LV (E i) v) (fun iv _ => 4 - (intOf iv).toNat)
  case atStart => exact ⟨0, _, by omega, rfl, hP3⟩
  case round =>
    clear hP3
    obtain ⟨i, v, hi4, rfl, hP⟩ := hrel
    by_cases hlt : i < 4
    · have hlti : (i : Int) < 4 := by omega
      have hidx := fun w => run_index_arr 23 4 LV LL.out Tryz.underlying23 i hlt w
      have c0 := (hP.a.cell i).trans (arr_get (l := was) (by rw [LWAS.out]; omega))
      have hd := HLD.out i hlt
      obtain ⟨d, hde⟩ : ∃ d, LV.getD i 0 - was.getD i 0 = d := ⟨_, rfl⟩
      have hnx := HHNX.out i
      rw [hde] at hd hnx
      obtain ⟨x, hx⟩ : ∃ x, LV.getD i 0 = x := ⟨_, rfl⟩
      obtain ⟨y, hy⟩ : ∃ y, was.getD i 0 = y := ⟨_, rfl⟩
      rw [hx, hy] at hde
      simp only [hx] at hidx
      rw [hy] at c0
      have w1 : IntKind.i64.wrap (x - y) = d := by rw [hde]; exact IntWalk.i64_in _ (by omega)
      have hput := fun W (h : PackW w W B g lb was wv LV (E i) v) => LaplPut_any g (HHOK.out i (by omega)).1 (by omega) d (by omega) (by omega) v W h.ec h.r
      have HPUT := Lib.hid hput
      have HNX := Lib.hid hnx
      clear hput hnx hx hy hde
      go_wp2_with fail
      refine (HPUT.out _ hP).mono ?_
      rintro e2 w2 ⟨rfl, v2, hE2, hR2, hK2, hF2⟩
      rw [← HNX.out] at hE2 hR2
      have hP2 := hP.put h0 hK2 hE2 hR2 hF2
      clear hP hE2 hR2 hK2 hF2
      go_wp2_with fail
      go_roundw
      case rel => exact ⟨i + 1, v2, hlt, by go_num, hP2⟩
      case measure => simp [intOf]; omega
    · obtain rfl : i = 4 := by omega
      have hu0 := HHU.out
      have hused : ∀ W, Blk W g (encC (E 4) v) 147 → Calls Tryz.prog 68 #[.pointer (some ⟨g, 0, none⟩)] W fun e w' => e = .returned (.int .i64 (E 4).used) ∧ Below W.heap.size W w' := fun W h =>
        (EncUsed_any g (HHOK.out 4 (by omega)).1 (by omega) v W h).mono fun e w' ⟨he, hk⟩ => ⟨he, hk.below (fun _ h => h.elim) (Nat.le_refl _)⟩
      obtain ⟨U, hU⟩ : ∃ U, (E 4).used = U := ⟨_, rfl⟩
      have hkse := HKSE.out
      rw [hU] at hu0 hkse
      simp only [hU] at hused
      have hroom : ∀ w, Calls Tryz.prog 67 #[.int .i64 size, .int .i64 U] w fun e w' => e = .returned (.int .i64 (max (8 * (size : Int) - 40 - U) 0)) ∧ Below w.heap.size w w' := fun w =>
        (Room_any size (by omega) hs1 U hu0.1 (by omega) w).mono fun e w' ⟨he, hk⟩ => ⟨he, by subst hk; exact Below.refl _ _⟩
      obtain ⟨rm, hrm⟩ : ∃ x, max (8 * (size : Int) - 40 - U) 0 = x := ⟨_, rfl⟩
      rw [hrm] at hkse
      simp only [hrm] at hroom
      have hpul := fun W (h : BandsW W) => Pulses_any LV HLOK.out rm (by omega) (by omega) W h
      simp only [← hkse] at hpul
      have HUSED := Lib.hid hused
      have HROOM := Lib.hid hroom
      have HPUL := Lib.hid hpul
      clear hused hroom hpul hkse hrm hU
      have hgB2 := hP.gB
      have hO := hP.o
      obtain ⟨hBW, hA, hV, hL, hE, hR, _, _, hfar, hsz⟩ := hP
      have hBW2 : Blk wr 0 _ 133 := hBW
      have hRo := row_own hR hO
      obtain ⟨H, hH⟩ : ∃ H, wr.heap.size = H := ⟨_, rfl⟩
      have hlt1 := hL.lt
      have hlt2 := hE.lt
      have hlen : (bytesV (E 4).out).length = (bytesV (E 4).out).length := rfl
      rw [hH] at hRo hlt1 hlt2 hsz
      have hsz2 : H ≤ wr.heap.size := by omega
      have hBH : B + 2 ≤ H := hsz
      clear hsz hBW hR hH hlen
      have hsz := hsz2
      clear hsz2
      go_upto_region 10 with (fail)
      go_cut [13] from 30 to 48 (fun s13 wx => ∃ kb, s13 = .pointer (some ⟨kb, 0, none⟩) ∧ PackW w wx B g kb was wv KS (E 4) v)
      case first =>
        refine wp_region_held_drew (S := fun W => Blk W (0) (#[.int .i64 0, .int .i64 2, .int .i64 4, .int .i64 8, .int .i64 16]) 133 ∧ Blk W (B) (arrV was) 23 ∧ Blk W (B + 1) (arrV wv) 32 ∧ Blk W (lb) (arrV LV) 23 ∧ Blk W (g) (encC (E 4) v) 147 ∧ OW W (B) (H) (5) (1) (v) ((bytesV (E 4).out).length) (bytesV (E 4).out) ∧ Below (B) w W ∧ H ≤ W.heap.size) (by kernel_rfl) (⟨hBW2.drew, hA.drew, hV.drew, hL.drew, hE.drew, hRo.drew, hfar.drew, hsz⟩) (fun hH => ?_)
        have hH2 := hH
        obtain ⟨hBW2, hA, hV, hL, hE, hRo, hfar, hsz⟩ := hH2
        refine wpAnyH_take (i := 0) (oi := { dst := some 42, op := Op.load 23 (Operand.tmp 10), type := 23, pos := "enc.go:70", after := _, guard := none }) (v := .agg (arrV LV)) rfl (by kernel_rfl) (by kernel_rfl) (by kernel_rfl) (fun _ _ _ h => h) (yieldsIf_ld (by rfl) 23 rfl w_Four rfl (fun _ hS => hS.2.2.2.1) zz_) hH ?_
        try simp only [Act.put, List.setIfInBounds_toArray, List.set_cons_zero, List.set_cons_succ]
        refine wpAnyH_take (i := 1) (oi := { dst := some 43, op := Op.move (Operand.tmp 2), type := 3, pos := "enc.go:70", after := _, guard := none }) (v := _) rfl (by kernel_rfl) (by kernel_rfl) (by kernel_rfl) (fun _ _ _ h => h) (.inl ⟨by rfl, fun w hS => by (go_simp; try rfl)⟩) hH ?_
        try simp only [Act.put, List.setIfInBounds_toArray, List.set_cons_zero, List.set_cons_succ]
        refine wpAnyH_take (i := 2) (oi := { dst := some 44, op := Op.move (Operand.tmp 8), type := 110, pos := "enc.go:70", after := _, guard := none }) (v := _) rfl (by kernel_rfl) (by kernel_rfl) (by kernel_rfl) (fun _ _ _ h => h) (.inl ⟨by rfl, fun w hS => by (go_simp; try rfl)⟩) hH ?_
        try simp only [Act.put, List.setIfInBounds_toArray, List.set_cons_zero, List.set_cons_succ]
        refine wpAnyH_ready (rs := [3, 6]) (by kernel_rfl) (by simp) ?_
        refine AllReadyH.cons (o := { dst := some 45, op := Op.call { callee := Callee.value (Operand.func 68), args := #[Operand.tmp 44], argTypes := #[110] }, type := 3, pos := "enc.go:70", after := _, guard := none }) rfl (fun K hK => ?_) ?_
        · rw [if_pos (by rfl)]
          go_simp
          refine (HUSED.out _ bk_).mono ?_
          rintro r wq ⟨rfl, hb⟩
          have hbs := hb.size
          try simp only [World.size_alloc, World.size_setCell, World.size_drew, size_setRow] at hbs
          go_wp2_with fail
          refine hK.out _ _ ⟨bk_, bk_, bk_, bk_, bk_, ow_, bl_, Nat.le_trans (sz_) hb.size⟩ (fun hH2 => ?_)
          clear hH
          have hH := hH2
          obtain ⟨hBW2, hA, hV, hL, hE, hRo, hfar, hsz⟩ := hH2
          clear hK K
          try simp only [Act.put, List.setIfInBounds_toArray, List.set_cons_zero, List.set_cons_succ]
          refine wpAnyH_ready (rs := [4, 6]) (by kernel_rfl) (by simp) ?_
          refine AllReadyH.cons (o := { dst := some 46, op := Op.call { callee := Callee.value (Operand.func 67), args := #[Operand.tmp 43, Operand.tmp 45], argTypes := #[3, 3] }, type := 3, pos := "enc.go:70", after := _, guard := none }) rfl (fun K hK => ?_) ?_
          · rw [if_pos (by rfl)]
            go_simp
            refine (HROOM.out _).mono ?_
            rintro r wq ⟨rfl, hb⟩
            have hbs := hb.size
            try simp only [World.size_alloc, World.size_setCell, World.size_drew, size_setRow] at hbs
            go_wp2_with fail
            refine hK.out _ _ ⟨bk_, bk_, bk_, bk_, bk_, ow_, bl_, Nat.le_trans (sz_) hb.size⟩ (fun hH2 => ?_)
            clear hH
            have hH := hH2
            obtain ⟨hBW2, hA, hV, hL, hE, hRo, hfar, hsz⟩ := hH2
            clear hK K
            try simp only [Act.put, List.setIfInBounds_toArray, List.set_cons_zero, List.set_cons_succ]
            refine wpAnyH_ready (rs := [5, 6]) (by kernel_rfl) (by simp) ?_
            refine AllReadyH.cons (o := { dst := some 47, op := Op.call { callee := Callee.value (Operand.func 66), args := #[Operand.tmp 42, Operand.tmp 46], argTypes := #[23, 3] }, type := 23, pos := "enc.go:70", after := _, guard := none }) rfl (fun K hK => ?_) ?_
            · rw [if_pos (by rfl)]
              go_simp
              refine (HPUL.out _ bk_).mono ?_
              rintro r wq ⟨rfl, hb⟩
              have hbs := hb.size
              try simp only [World.size_alloc, World.size_setCell, World.size_drew, size_setRow] at hbs
              go_wp2_with fail
              refine hK.out _ _ ⟨bk_, bk_, bk_, bk_, bk_, ow_, bl_, Nat.le_trans (sz_) hb.size⟩ (fun hH2 => ?_)
              clear hH
              have hH := hH2
              obtain ⟨hBW2, hA, hV, hL, hE, hRo, hfar, hsz⟩ := hH2
              clear hK K
              try simp only [Act.put, List.setIfInBounds_toArray, List.set_cons_zero, List.set_cons_succ]
              refine wpAnyH_ready (rs := [6]) (by kernel_rfl) (by simp) ?_
              refine AllReadyH.cons (o := { dst := some 13, op := Op.alloc 23, type := 0, pos := "enc.go:70", after := _, guard := none }) rfl (fun K hK => ?_) AllReadyH.nil
              rw [if_pos (by rfl)]
              go_simp
              refine hK.out _ _ ⟨bk_, bk_, bk_, bk_, bk_, ow_, bl_, sz_⟩ (fun hH2 => ?_)
              clear hH
              have hH := hH2
              obtain ⟨hBW2, hA, hV, hL, hE, hRo, hfar, hsz⟩ := hH2
              clear hK K
              try simp only [Act.put, List.setIfInBounds_toArray, List.set_cons_zero, List.set_cons_succ]
              refine wpAnyH_ready (rs := [7]) (by kernel_rfl) (by simp) ?_
              refine AllReadyH.cons (o := { dst := none, op := Op.store 23 (Operand.tmp 13) (Operand.tmp 47), type := 0, pos := "enc.go:70", after := _, guard := none }) rfl (fun K hK => ?_) AllReadyH.nil
              rw [if_pos (by rfl)]
              refine wp_st 23 rfl w_Four rfl rfl bk_ zz_ zz_ one_ ?_
              refine hK.out _ _ ⟨bk_, bk_, bk_, bk_, bk_, ow_, bl_, sz_⟩ (fun hH2 => ?_)
              clear hH
              have hH := hH2
              obtain ⟨hBW2, hA, hV, hL, hE, hRo, hfar, hsz⟩ := hH2
              clear hK K
              try simp only [Act.put]
              refine wpAnyH_done (by kernel_rfl) ?_ _
              go_wp2_with fail
              go_meet
              case rel => exact ⟨_, rfl, by exact bk_, by exact bk_, by exact bk_, by exact bk_, by exact bk_, own_row ow_, hO, hgB2, by exact bl_, by exact sz_⟩
            refine AllReadyH.cons (o := { dst := some 13, op := Op.alloc 23, type := 0, pos := "enc.go:70", after := _, guard := none }) rfl (fun K hK => ?_) AllReadyH.nil
            rw [if_pos (by rfl)]
            go_simp
            refine hK.out _ _ ⟨bk_, bk_, bk_, bk_, bk_, ow_, bl_, sz_⟩ (fun hH2 => ?_)
            clear hH
            have hH := hH2
            obtain ⟨hBW2, hA, hV, hL, hE, hRo, hfar, hsz⟩ := hH2
            clear hK K
            try simp only [Act.put, List.setIfInBounds_toArray, List.set_cons_zero, List.set_cons_succ]
            refine wpAnyH_ready (rs := [5]) (by kernel_rfl) (by simp) ?_
            refine AllReadyH.cons (o := { dst := some 47, op := Op.call { callee := Callee.value (Operand.func 66), args := #[Operand.tmp 42, Operand.tmp 46], argTypes := #[23, 3] }, type := 23, pos := "enc.go:70", after := _, guard := none }) rfl (fun K hK => ?_) AllReadyH.nil
            rw [if_pos (by rfl)]
            go_simp
            refine (HPUL.out _ bk_).mono ?_
            rintro r wq ⟨rfl, hb⟩
            have hbs := hb.size
            try simp only [World.size_alloc, World.size_setCell, World.size_drew, size_setRow] at hbs
            go_wp2_with fail
            refine hK.out _ _ ⟨bk_, bk_, bk_, bk_, bk_, ow_, bl_, Nat.le_trans (sz_) hb.size⟩ (fun hH2 => ?_)
            clear hH
            have hH := hH2
            obtain ⟨hBW2, hA, hV, hL, hE, hRo, hfar, hsz⟩ := hH2
            clear hK K
            try simp only [Act.put, List.setIfInBounds_toArray, List.set_cons_zero, List.set_cons_succ]
            refine wpAnyH_ready (rs := [7]) (by kernel_rfl) (by simp) ?_
            refine AllReadyH.cons (o := { dst := none, op := Op.store 23 (Operand.tmp 13) (Operand.tmp 47), type := 0, pos := "enc.go:70", after := _, guard := none }) rfl (fun K hK => ?_) AllReadyH.nil
            rw [if_pos (by rfl)]
            refine wp_st 23 rfl w_Four rfl rfl bk_ zz_ zz_ one_ ?_
            refine hK.out _ _ ⟨bk_, bk_, bk_, bk_, bk_, ow_, bl_, sz_⟩ (fun hH2 => ?_)
            clear hH
            have hH := hH2
            obtain ⟨hBW2, hA, hV, hL, hE, hRo, hfar, hsz⟩ := hH2
            clear hK K
            try simp only [Act.put]
            refine wpAnyH_done (by kernel_rfl) ?_ _
            go_wp2_with fail
            go_meet
            case rel => exact ⟨_, rfl, by exact bk_, by exact bk_, by exact bk_, by exact bk_, by exact bk_, own_row ow_, hO, hgB2, by exact bl_, by exact sz_⟩
          refine AllReadyH.cons (o := { dst := some 13, op := Op.alloc 23, type := 0, pos := "enc.go:70", after := _, guard := none }) rfl (fun K hK => ?_) AllReadyH.nil
          rw [if_pos (by rfl)]
          go_simp
          refine hK.out _ _ ⟨bk_, bk_, bk_, bk_, bk_, ow_, bl_, sz_⟩ (fun hH2 => ?_)
          clear hH
          have hH := hH2
          obtain ⟨hBW2, hA, hV, hL, hE, hRo, hfar, hsz⟩ := hH2
          clear hK K
          try simp only [Act.put, List.setIfInBounds_toArray, List.set_cons_zero, List.set_cons_succ]
          refine wpAnyH_ready (rs := [4]) (by kernel_rfl) (by simp) ?_
          refine AllReadyH.cons (o := { dst := some 46, op := Op.call { callee := Callee.value (Operand.func 67), args := #[Operand.tmp 43, Operand.tmp 45], argTypes := #[3, 3] }, type := 3, pos := "enc.go:70", after := _, guard := none }) rfl (fun K hK => ?_) AllReadyH.nil
          rw [if_pos (by rfl)]
          go_simp
          refine (HROOM.out _).mono ?_
          rintro r wq ⟨rfl, hb⟩
          have hbs := hb.size
          try simp only [World.size_alloc, World.size_setCell, World.size_drew, size_setRow] at hbs
          go_wp2_with fail
          refine hK.out _ _ ⟨bk_, bk_, bk_, bk_, bk_, ow_, bl_, Nat.le_trans (sz_) hb.size⟩ (fun hH2 => ?_)
          clear hH
          have hH := hH2
          obtain ⟨hBW2, hA, hV, hL, hE, hRo, hfar, hsz⟩ := hH2
          clear hK K
          try simp only [Act.put, List.setIfInBounds_toArray, List.set_cons_zero, List.set_cons_succ]
          refine wpAnyH_ready (rs := [5]) (by kernel_rfl) (by simp) ?_
          refine AllReadyH.cons (o := { dst := some 47, op := Op.call { callee := Callee.value (Operand.func 66), args := #[Operand.tmp 42, Operand.tmp 46], argTypes := #[23, 3] }, type := 23, pos := "enc.go:70", after := _, guard := none }) rfl (fun K hK => ?_) AllReadyH.nil
          rw [if_pos (by rfl)]
          go_simp
          refine (HPUL.out _ bk_).mono ?_
          rintro r wq ⟨rfl, hb⟩
          have hbs := hb.size
          try simp only [World.size_alloc, World.size_setCell, World.size_drew, size_setRow] at hbs
          go_wp2_with fail
          refine hK.out _ _ ⟨bk_, bk_, bk_, bk_, bk_, ow_, bl_, Nat.le_trans (sz_) hb.size⟩ (fun hH2 => ?_)
          clear hH
          have hH := hH2
          obtain ⟨hBW2, hA, hV, hL, hE, hRo, hfar, hsz⟩ := hH2
          clear hK K
          try simp only [Act.put, List.setIfInBounds_toArray, List.set_cons_zero, List.set_cons_succ]
          refine wpAnyH_ready (rs := [7]) (by kernel_rfl) (by simp) ?_
          refine AllReadyH.cons (o := { dst := none, op := Op.store 23 (Operand.tmp 13) (Operand.tmp 47), type := 0, pos := "enc.go:70", after := _, guard := none }) rfl (fun K hK => ?_) AllReadyH.nil
          rw [if_pos (by rfl)]
          refine wp_st 23 rfl w_Four rfl rfl bk_ zz_ zz_ one_ ?_
          refine hK.out _ _ ⟨bk_, bk_, bk_, bk_, bk_, ow_, bl_, sz_⟩ (fun hH2 => ?_)
          clear hH
          have hH := hH2
          obtain ⟨hBW2, hA, hV, hL, hE, hRo, hfar, hsz⟩ := hH2
          clear hK K
          try simp only [Act.put]
          refine wpAnyH_done (by kernel_rfl) ?_ _
          go_wp2_with fail
          go_meet
          case rel => exact ⟨_, rfl, by exact bk_, by exact bk_, by exact bk_, by exact bk_, by exact bk_, own_row ow_, hO, hgB2, by exact bl_, by exact sz_⟩
        refine AllReadyH.cons (o := { dst := some 13, op := Op.alloc 23, type := 0, pos := "enc.go:70", after := _, guard := none }) rfl (fun K hK => ?_) AllReadyH.nil
        rw [if_pos (by rfl)]
        go_simp
        refine hK.out _ _ ⟨bk_, bk_, bk_, bk_, bk_, ow_, bl_, sz_⟩ (fun hH2 => ?_)
        clear hH
        have hH := hH2
        obtain ⟨hBW2, hA, hV, hL, hE, hRo, hfar, hsz⟩ := hH2
        clear hK K
        try simp only [Act.put, List.setIfInBounds_toArray, List.set_cons_zero, List.set_cons_succ]
        refine wpAnyH_ready (rs := [3]) (by kernel_rfl) (by simp) ?_
        refine AllReadyH.cons (o := { dst := some 45, op := Op.call { callee := Callee.value (Operand.func 68), args := #[Operand.tmp 44], argTypes := #[110] }, type := 3, pos := "enc.go:70", after := _, guard := none }) rfl (fun K hK => ?_) AllReadyH.nil
        rw [if_pos (by rfl)]
        go_simp
        refine (HUSED.out _ bk_).mono ?_
        rintro r wq ⟨rfl, hb⟩
        have hbs := hb.size
        try simp only [World.size_alloc, World.size_setCell, World.size_drew, size_setRow] at hbs
        go_wp2_with fail
        refine hK.out _ _ ⟨bk_, bk_, bk_, bk_, bk_, ow_, bl_, Nat.le_trans (sz_) hb.size⟩ (fun hH2 => ?_)
        clear hH
        have hH := hH2
        obtain ⟨hBW2, hA, hV, hL, hE, hRo, hfar, hsz⟩ := hH2
        clear hK K
        try simp only [Act.put, List.setIfInBounds_toArray, List.set_cons_zero, List.set_cons_succ]
        refine wpAnyH_ready (rs := [4]) (by kernel_rfl) (by simp) ?_
        refine AllReadyH.cons (o := { dst := some 46, op := Op.call { callee := Callee.value (Operand.func 67), args := #[Operand.tmp 43, Operand.tmp 45], argTypes := #[3, 3] }, type := 3, pos := "enc.go:70", after := _, guard := none }) rfl (fun K hK => ?_) AllReadyH.nil
        rw [if_pos (by rfl)]
        go_simp
        refine (HROOM.out _).mono ?_
        rintro r wq ⟨rfl, hb⟩
        have hbs := hb.size
        try simp only [World.size_alloc, World.size_setCell, World.size_drew, size_setRow] at hbs
        go_wp2_with fail
        refine hK.out _ _ ⟨bk_, bk_, bk_, bk_, bk_, ow_, bl_, Nat.le_trans (sz_) hb.size⟩ (fun hH2 => ?_)
        clear hH
        have hH := hH2
        obtain ⟨hBW2, hA, hV, hL, hE, hRo, hfar, hsz⟩ := hH2
        clear hK K
        try simp only [Act.put, List.setIfInBounds_toArray, List.set_cons_zero, List.set_cons_succ]
        refine wpAnyH_ready (rs := [5]) (by kernel_rfl) (by simp) ?_
        refine AllReadyH.cons (o := { dst := some 47, op := Op.call { callee := Callee.value (Operand.func 66), args := #[Operand.tmp 42, Operand.tmp 46], argTypes := #[23, 3] }, type := 23, pos := "enc.go:70", after := _, guard := none }) rfl (fun K hK => ?_) AllReadyH.nil
        rw [if_pos (by rfl)]
        go_simp
        refine (HPUL.out _ bk_).mono ?_
        rintro r wq ⟨rfl, hb⟩
        have hbs := hb.size
        try simp only [World.size_alloc, World.size_setCell, World.size_drew, size_setRow] at hbs
        go_wp2_with fail
        refine hK.out _ _ ⟨bk_, bk_, bk_, bk_, bk_, ow_, bl_, Nat.le_trans (sz_) hb.size⟩ (fun hH2 => ?_)
        clear hH
        have hH := hH2
        obtain ⟨hBW2, hA, hV, hL, hE, hRo, hfar, hsz⟩ := hH2
        clear hK K
        try simp only [Act.put, List.setIfInBounds_toArray, List.set_cons_zero, List.set_cons_succ]
        refine wpAnyH_ready (rs := [7]) (by kernel_rfl) (by simp) ?_
        refine AllReadyH.cons (o := { dst := none, op := Op.store 23 (Operand.tmp 13) (Operand.tmp 47), type := 0, pos := "enc.go:70", after := _, guard := none }) rfl (fun K hK => ?_) AllReadyH.nil
        rw [if_pos (by rfl)]
        refine wp_st 23 rfl w_Four rfl rfl bk_ zz_ zz_ one_ ?_
        refine hK.out _ _ ⟨bk_, bk_, bk_, bk_, bk_, ow_, bl_, sz_⟩ (fun hH2 => ?_)
        clear hH
        have hH := hH2
        obtain ⟨hBW2, hA, hV, hL, hE, hRo, hfar, hsz⟩ := hH2
        clear hK K
        try simp only [Act.put]
        refine wpAnyH_done (by kernel_rfl) ?_ _
        go_wp2_with fail
        go_meet
        case rel => exact ⟨_, rfl, by exact bk_, by exact bk_, by exact bk_, by exact bk_, by exact bk_, own_row ow_, hO, hgB2, by exact bl_, by exact sz_⟩
      case rest =>
        clear hBW2 hA hV hL hE hRo hfar hsz
        obtain ⟨kb, rfl, hP⟩ := hcut
        have hP0 : PackW w wc B g kb was wv KS (F 0) v := by rw [HB0.out]; exact hP
        clear hP
        go_wp2_with fail
        go_loopw [48] (fun iv wr => ∃ (n : Nat) (v : Value), n ≤ 4 ∧ iv = .int .i64 n ∧ PackW w wr B g kb was wv KS (F n) v) (fun iv _ => 4 - (intOf iv).toNat)
        case atStart => exact ⟨0, v, by omega, rfl, hP0⟩
        case round =>
          clear hP0
          obtain ⟨n, v, hn4, rfl, hP⟩ := hrel
          by_cases hlt : n < 4
          · have hlti : (n : Int) < 4 := by omega
            have hk8 := HKS.out.2 n hlt
            have ck := (hP.k.cell n).trans (arr_get (l := KS) (by rw [LK.out]; omega))
            have hnx := HBNX.out n
            obtain ⟨kn, hkn⟩ : ∃ k : Nat, KS.getD n 0 = k := ⟨(KS.getD n 0).toNat, by omega⟩
            have hck := arr_get (l := KS) (n := n) (by rw [LK.out]; omega)
            rw [hkn] at hk8 ck hck
            have HCK := Lib.hid hck
            clear hck
            have hk8n : kn ≤ 8 := by omega
            by_cases hz : kn = 0
            · subst hz
              have hF1 : F (n + 1) = F n := by rw [hnx, bandCel, if_pos (by rw [hkn]; rfl), puts_nil]
              have HF1 := Lib.hid hF1
              clear hnx hF1 hkn
              go_wp2_with fail
              go_roundw
              case rel => exact ⟨n + 1, v, hlt, by go_num, by rw [HF1.out]; exact hP⟩
              case measure => simp [intOf]; omega
            · have hkz : ((kn : Nat) : Int) ≠ 0 := by omega
              have hbc : bandCel wv KS n = Sp.bitF 3 (bandN1 wv KS n) (costB n kn) := by unfold bandCel; rw [if_neg (by rw [hkn]; exact hkz), hkn, Int.toNat_natCast]
              have hbn : bandN1 wv KS n = vnum (findL (heldL (bandW wv n)) kn) kn := by unfold bandN1; rw [hkn, Int.toNat_natCast]
              rw [hbc, hbn] at hnx
              have hN8 := bandN_bd hlt
              have hN1 := bandN_pos hlt
              have hbl := bandW_len HH.out.1 hlt
              have hband := fun W (h : PackW w W B g kb was wv KS (F n) v) => Band_any wv HH.out.1 n hlt W h.bw
              obtain ⟨C, hC⟩ : ∃ C, bandW wv n = C := ⟨_, rfl⟩
              rw [hC] at hbl hnx
              simp only [hC] at hband
              have hhl := heldL_len C
              have hhb := heldL_bd C
              have hheld := fun base v w h => held_any C (bandN n) hbl hN1 base v w h
              obtain ⟨D, hD⟩ : ∃ D, heldL C = D := ⟨_, rfl⟩
              rw [hD] at hhl hhb hnx
              simp only [hD] at hheld
              rw [hbl] at hhl
              have hfind := fun pp cap lo hi w h => SFind_any D hhb (bandN n) hhl hN1 hN8 kn hk8n pp cap lo hi w h
              have hfl := findL_len D kn
              rw [hhl] at hfl
              have hfok := findL_ok hhb (by omega) kn
              obtain ⟨Y, hY⟩ : ∃ Y, findL D kn = Y := ⟨_, rfl⟩
              rw [hY] at hfl hfok hnx
              simp only [hY] at hfind
              have hy8 : ∀ x ∈ Y, -8 ≤ x ∧ x ≤ 8 := fun x hx => by have := hfok.2 x hx; omega
              have hnum := fun pp cap lo hi w h => Number_any Y hy8 (bandN n) hfl hN1 hN8 kn hk8n hfok.1 pp cap lo hi w h
              have hvn := vnum_bits (y := Y) (by omega) hk8n hfok.1
              rw [hfl] at hvn
              have hcf := cnt_fits hlt hk8n
              obtain ⟨V, hV⟩ : ∃ V, vnum Y kn = V := ⟨_, rfl⟩
              rw [hV] at hvn hnx
              simp only [hV] at hnum
              have hc20 : costB n kn ≤ 20 := Sp.vbits_bd hN8 hk8n
              have hvb := fun w => VBits_any (bandN n) kn hN8 hk8n w
              have hcb : Sp.vbits (bandN n) kn = costB n kn := rfl
              simp only [hcb] at hvb
              obtain ⟨cb, hcbe⟩ : ∃ c, costB n kn = c := ⟨_, rfl⟩
              rw [hcbe] at hnx hcf hc20
              simp only [hcbe] at hvb
              have hV2 : V < 2 ^ cb := by
                have h1 : ((Sp.cnt (bandN n) kn : Nat) : Int) ≤ ((2 ^ cb : Nat) : Int) := by exact_mod_cast hcf
                have h2 : ((2 ^ cb : Nat) : Int) = (2 : Int) ^ cb := by norm_cast
                omega
              have hsize : ∀ W, BandsW W → Calls Tryz.prog 74 #[.int .i64 n] W fun e w' => e = .returned (.int .i64 (bandN n)) ∧ Below W.heap.size W w' := fun W h => (Size_any n hlt W h).mono fun e w' ⟨he, hk⟩ => ⟨he, hk.below (fun _ h => h.elim) (Nat.le_refl _)⟩
              have hbits := fun W (h : PackW w W B g kb was wv KS (F n) v) => EBits_any g (HBOK.out n (by omega)).1 (by omega) V cb (by omega) hvn.1 hV2 v W h.ec h.r
              have HBAND := Lib.hid hband
              have HHELD := Lib.hid hheld
              have HFIND := Lib.hid hfind
              have HNUM := Lib.hid hnum
              have HVB := Lib.hid hvb
              have HSIZE := Lib.hid hsize
              have HBITS := Lib.hid hbits
              have HNX := Lib.hid hnx
              have HFL := Lib.hid hfl
              have HHL := Lib.hid hhl
              have HBL := Lib.hid hbl
              clear hband hheld hfind hnum hvb hsize hbits hnx hfl hhl hbl hcf hV hY hD hC hbc hbn hhb hfok hy8 hvn hV2 hcb hcbe hkn
              have hP1 := hP.drew
              have hVv := hP.b
              have hKb := hP.k
              go_upto_region 15 with (fail)
              go_cut [15, 16] from 54 to 66 (fun s15 s16 wx => ∃ p4 c4 lo hi, s15 = .slice p4 (bandN n) c4 ∧ s16 = .int .i64 0 ∧ SL wx lo hi 1 p4 (bandN n) c4 (intsV Y) ∧ PackW w wx B g kb was wv KS (F n) v)
              case first =>
                refine wp_region_held_drew (S := fun W => Blk W (B + 1) (arrV wv) 32 ∧ Blk W (kb) (arrV KS) 23) (by kernel_rfl) ⟨hVv.drew, hKb.drew⟩ (fun hH => ?_)
                refine wpAnyH_take (i := 0) (oi := { dst := some 56, op := Op.load 32 (Operand.tmp 4), type := 32, pos := "enc.go:75", after := _, guard := none }) (v := .agg (arrV wv)) rfl (by kernel_rfl) (by kernel_rfl) (by kernel_rfl) (fun _ _ _ h => h) (yieldsIf_ld (by rfl) 32 rfl w_Block rfl (fun _ hS => hS.1) zz_) hH ?_
                try simp only [Act.put, List.setIfInBounds_toArray, List.set_cons_zero, List.set_cons_succ]
                refine wpAnyH_take (i := 1) (oi := { dst := some 57, op := Op.move (Operand.tmp 14), type := 3, pos := "enc.go:75", after := _, guard := none }) (v := _) rfl (by kernel_rfl) (by kernel_rfl) (by kernel_rfl) (fun _ _ _ h => h) (.inl ⟨by rfl, fun w hS => by (go_simp; try rfl)⟩) hH ?_
                try simp only [Act.put, List.setIfInBounds_toArray, List.set_cons_zero, List.set_cons_succ]
                refine wpAnyH_take (i := 4) (oi := { dst := some 60, op := Op.move (Operand.tmp 14), type := 3, pos := "enc.go:75", after := _, guard := none }) (v := _) rfl (by kernel_rfl) (by kernel_rfl) (by kernel_rfl) (fun _ _ _ h => h) (.inl ⟨by rfl, fun w hS => by (go_simp; try rfl)⟩) hH ?_
                try simp only [Act.put, List.setIfInBounds_toArray, List.set_cons_zero, List.set_cons_succ]
                refine wpAnyH_take (i := 5) (oi := { dst := some 61, op := Op.indexAddr 23 (Operand.tmp 13) (Operand.tmp 60), type := 0, pos := "enc.go:75", after := _, guard := none }) (v := _) rfl (by kernel_rfl) (by kernel_rfl) (by kernel_rfl) (fun _ _ _ h => h) (.inl ⟨by rfl, fun w hS => by (go_simp; try rfl)⟩) hH ?_
                try simp only [Act.put, List.setIfInBounds_toArray, List.set_cons_zero, List.set_cons_succ]
                refine wpAnyH_take (i := 6) (oi := { dst := some 62, op := Op.load 3 (Operand.tmp 61), type := 3, pos := "enc.go:75", after := _, guard := none }) (v := _) rfl (by kernel_rfl) (by kernel_rfl) (by kernel_rfl) (fun _ _ _ h => h) (.inl ⟨by rfl, fun w hS => by (have c := ((hS.2.cell n).trans HCK.out); go_simp; try rfl)⟩) hH ?_
                try simp only [Act.put, List.setIfInBounds_toArray, List.set_cons_zero, List.set_cons_succ]
                refine wpAnyH_ready (rs := [2]) (by kernel_rfl) (by simp) ?_
                refine AllReadyH.cons (o := { dst := some 58, op := Op.call { callee := Callee.value (Operand.func 52), args := #[Operand.tmp 56, Operand.tmp 57], argTypes := #[32, 3] }, type := 62, pos := "enc.go:75", after := _, guard := none }) rfl (fun K hK => ?_) AllReadyH.nil
                rw [if_pos (by rfl)]
                go_simp
                refine (HBAND.out _ hP1).mono ?_
                rintro e2 w2 ⟨v2, rfl, hv2, hb2⟩
                have hP2 := hP1.newB hb2
                go_wp2_with fail
                refine hK.out _ _ ⟨hP2.b, hP2.k⟩ (fun hH => ?_)
                clear hK K
                try simp only [Act.put, List.setIfInBounds_toArray, List.set_cons_zero, List.set_cons_succ]
                refine wpAnyH_ready (rs := [3]) (by kernel_rfl) (by simp) ?_
                refine AllReadyH.cons (o := { dst := some 59, op := Op.call { callee := Callee.value (Operand.func 70), args := #[Operand.tmp 58], argTypes := #[62] }, type := 62, pos := "enc.go:75", after := _, guard := none }) rfl (fun K hK => ?_) AllReadyH.nil
                rw [if_pos (by rfl)]
                go_simp
                refine (HHELD.out _ _ _ hv2).mono ?_
                rintro e3 w3 ⟨rfl, hv3, hb3⟩
                have hb3' := hb2.trans hb3
                have hP3 := hP1.newB hb3'
                obtain ⟨p3, c3, rfl, hs3⟩ := OW.sl hv3
                rw [HHL.out] at hs3
                go_wp2_with fail
                refine hK.out _ _ ⟨hP3.b, hP3.k⟩ (fun hH => ?_)
                clear hK K
                try simp only [Act.put, List.setIfInBounds_toArray, List.set_cons_zero, List.set_cons_succ]
                refine wpAnyH_ready (rs := [7]) (by kernel_rfl) (by simp) ?_
                refine AllReadyH.cons (o := { dst := some 63, op := Op.call { callee := Callee.value (Operand.func 69), args := #[Operand.tmp 59, Operand.tmp 62], argTypes := #[62, 3] }, type := 115, pos := "enc.go:75", after := _, guard := none }) rfl (fun K hK => ?_) AllReadyH.nil
                rw [if_pos (by rfl)]
                go_simp
                rw [HHL.out]
                refine (HFIND.out _ _ _ _ _ hs3).mono ?_
                rintro e4 w4 ⟨v4, rfl, hv4, hb4⟩
                have hP4 := hP3.newB hb4
                go_wp2_with fail
                refine hK.out _ _ ⟨hP4.b, hP4.k⟩ (fun hH => ?_)
                clear hK K
                try simp only [Act.put, List.setIfInBounds_toArray, List.set_cons_zero, List.set_cons_succ]
                refine wpAnyH_take (i := 8) (oi := { dst := some 55, op := Op.move (Operand.tmp 63), type := 115, pos := "enc.go:75", after := _, guard := none }) (v := _) rfl (by kernel_rfl) (by kernel_rfl) (by kernel_rfl) (fun _ _ _ h => h) (.inl ⟨by rfl, fun w hS => by (go_simp; try rfl)⟩) hH ?_
                try simp only [Act.put, List.setIfInBounds_toArray, List.set_cons_zero, List.set_cons_succ]
                refine wpAnyH_take (i := 9) (oi := { dst := some 64, op := Op.extract (Operand.tmp 55) 0, type := 62, pos := "enc.go:75", after := _, guard := none }) (v := _) rfl (by kernel_rfl) (by kernel_rfl) (by kernel_rfl) (fun _ _ _ h => h) (.inl ⟨by rfl, fun w hS => by (go_simp; try rfl)⟩) hH ?_
                try simp only [Act.put, List.setIfInBounds_toArray, List.set_cons_zero, List.set_cons_succ]
                refine wpAnyH_take (i := 10) (oi := { dst := some 65, op := Op.extract (Operand.tmp 55) 1, type := 37, pos := "enc.go:75", after := _, guard := none }) (v := _) rfl (by kernel_rfl) (by kernel_rfl) (by kernel_rfl) (fun _ _ _ h => h) (.inl ⟨by rfl, fun w hS => by (go_simp; try rfl)⟩) hH ?_
                try simp only [Act.put, List.setIfInBounds_toArray, List.set_cons_zero, List.set_cons_succ]
                refine wpAnyH_take (i := 11) (oi := { dst := some 15, op := Op.assign (Operand.tmp 64), type := 62, pos := "enc.go:75", after := _, guard := none }) (v := _) rfl (by kernel_rfl) (by kernel_rfl) (by kernel_rfl) (fun _ _ _ h => h) (.inl ⟨by rfl, fun w hS => by (go_simp; try rfl)⟩) hH ?_
                try simp only [Act.put, List.setIfInBounds_toArray, List.set_cons_zero, List.set_cons_succ]
                refine wpAnyH_take (i := 12) (oi := { dst := some 16, op := Op.assign (Operand.tmp 65), type := 37, pos := "enc.go:75", after := _, guard := none }) (v := _) rfl (by kernel_rfl) (by kernel_rfl) (by kernel_rfl) (fun _ _ _ h => h) (.inl ⟨by rfl, fun w hS => by (go_simp; try rfl)⟩) hH ?_
                try simp only [Act.put, List.setIfInBounds_toArray, List.set_cons_zero, List.set_cons_succ]
                refine wpAnyH_done (by kernel_rfl) ?_ _
                go_wp2_with fail
                obtain ⟨p4, c4, rfl, hs4⟩ := OW.sl hv4
                rw [HFL.out] at hs4 ⊢
                go_meet
                case rel => exact ⟨_, _, _, _, rfl, rfl, hs4, hP4⟩
              case rest =>
                clear hP hP1 hVv hKb
                obtain ⟨p4, c4, lo4, hi4, rfl, rfl, hs4, hP4⟩ := hcut
                go_wp2_with fail
                refine (HNUM.out _ _ _ _ _ hs4).mono ?_
                rintro e5 w5 ⟨rfl, hb5⟩
                have hP5 := hP4.newB hb5
                clear hP4 hs4 hb5
                have hKb := hP5.k
                go_upto_region 17 with (fail)
                have hP6 := hP5.drew
                refine wp_region_held_drew (S := fun W => Blk W (kb) (arrV KS) 23) (by kernel_rfl) (hKb.drew) (fun hH => ?_)
                refine wpAnyH_take (i := 0) (oi := { dst := some 71, op := Op.move (Operand.tmp 8), type := 110, pos := "enc.go:77", after := _, guard := none }) (v := _) rfl (by kernel_rfl) (by kernel_rfl) (by kernel_rfl) (fun _ _ _ h => h) (.inl ⟨by rfl, fun w hS => by (go_simp; try rfl)⟩) hH ?_
                try simp only [Act.put, List.setIfInBounds_toArray, List.set_cons_zero, List.set_cons_succ]
                refine wpAnyH_take (i := 1) (oi := { dst := some 72, op := Op.move (Operand.tmp 17), type := 3, pos := "enc.go:77", after := _, guard := none }) (v := _) rfl (by kernel_rfl) (by kernel_rfl) (by kernel_rfl) (fun _ _ _ h => h) (.inl ⟨by rfl, fun w hS => by (go_simp; try rfl)⟩) hH ?_
                try simp only [Act.put, List.setIfInBounds_toArray, List.set_cons_zero, List.set_cons_succ]
                refine wpAnyH_take (i := 2) (oi := { dst := some 73, op := Op.move (Operand.tmp 14), type := 3, pos := "enc.go:77", after := _, guard := none }) (v := _) rfl (by kernel_rfl) (by kernel_rfl) (by kernel_rfl) (fun _ _ _ h => h) (.inl ⟨by rfl, fun w hS => by (go_simp; try rfl)⟩) hH ?_
                try simp only [Act.put, List.setIfInBounds_toArray, List.set_cons_zero, List.set_cons_succ]
                refine wpAnyH_take (i := 4) (oi := { dst := some 75, op := Op.move (Operand.tmp 14), type := 3, pos := "enc.go:77", after := _, guard := none }) (v := _) rfl (by kernel_rfl) (by kernel_rfl) (by kernel_rfl) (fun _ _ _ h => h) (.inl ⟨by rfl, fun w hS => by (go_simp; try rfl)⟩) hH ?_
                try simp only [Act.put, List.setIfInBounds_toArray, List.set_cons_zero, List.set_cons_succ]
                refine wpAnyH_take (i := 5) (oi := { dst := some 76, op := Op.indexAddr 23 (Operand.tmp 13) (Operand.tmp 75), type := 0, pos := "enc.go:77", after := _, guard := none }) (v := _) rfl (by kernel_rfl) (by kernel_rfl) (by kernel_rfl) (fun _ _ _ h => h) (.inl ⟨by rfl, fun w hS => by (go_simp; try rfl)⟩) hH ?_
                try simp only [Act.put, List.setIfInBounds_toArray, List.set_cons_zero, List.set_cons_succ]
                refine wpAnyH_take (i := 6) (oi := { dst := some 77, op := Op.load 3 (Operand.tmp 76), type := 3, pos := "enc.go:77", after := _, guard := none }) (v := _) rfl (by kernel_rfl) (by kernel_rfl) (by kernel_rfl) (fun _ _ _ h => h) (.inl ⟨by rfl, fun w hS => by (have c := ((hS.cell n).trans HCK.out); go_simp; try rfl)⟩) hH ?_
                try simp only [Act.put, List.setIfInBounds_toArray, List.set_cons_zero, List.set_cons_succ]
                refine wpAnyH_ready (rs := [3]) (by kernel_rfl) (by simp) ?_
                refine AllReadyH.cons (o := { dst := some 74, op := Op.call { callee := Callee.value (Operand.func 74), args := #[Operand.tmp 73], argTypes := #[3] }, type := 3, pos := "enc.go:77", after := _, guard := none }) rfl (fun K hK => ?_) AllReadyH.nil
                rw [if_pos (by rfl)]
                go_simp
                refine (HSIZE.out _ hP6.bw).mono ?_
                rintro e6 w6 ⟨rfl, hb6⟩
                have hP7 := hP6.newB hb6
                go_wp2_with fail
                refine hK.out _ _ hP7.k (fun hH => ?_)
                clear hK K
                try simp only [Act.put, List.setIfInBounds_toArray, List.set_cons_zero, List.set_cons_succ]
                refine wpAnyH_ready (rs := [7]) (by kernel_rfl) (by simp) ?_
                refine AllReadyH.cons (o := { dst := some 78, op := Op.call { callee := Callee.value (Operand.func 73), args := #[Operand.tmp 74, Operand.tmp 77], argTypes := #[3, 3] }, type := 3, pos := "enc.go:77", after := _, guard := none }) rfl (fun K hK => ?_) AllReadyH.nil
                rw [if_pos (by rfl)]
                go_simp
                refine (HVB.out _).mono ?_
                rintro e7 w7 ⟨rfl, hb7⟩
                have hP8 := hP7.newB hb7
                go_wp2_with fail
                refine hK.out _ _ hP8.k (fun hH => ?_)
                clear hK K
                try simp only [Act.put, List.setIfInBounds_toArray, List.set_cons_zero, List.set_cons_succ]
                refine wpAnyH_ready (rs := [8]) (by kernel_rfl) (by simp) ?_
                refine AllReadyH.cons (o := { dst := some 79, op := Op.call { callee := Callee.value (Operand.func 72), args := #[Operand.tmp 71, Operand.tmp 72, Operand.tmp 78], argTypes := #[110, 3, 3] }, type := 37, pos := "enc.go:77", after := _, guard := none }) rfl (fun K hK => ?_) AllReadyH.nil
                rw [if_pos (by rfl)]
                go_simp
                refine (HBITS.out _ hP8).mono ?_
                rintro e8 w8 ⟨rfl, v8, hE8, hR8, hK8, hF8⟩
                rw [← HNX.out] at hE8 hR8
                have hP9 := hP8.put h0 hK8 hE8 hR8 hF8
                go_wp2_with fail
                refine hK.out _ _ hP9.k (fun hH => ?_)
                clear hK K
                try simp only [Act.put, List.setIfInBounds_toArray, List.set_cons_zero, List.set_cons_succ]
                refine wpAnyH_done (by kernel_rfl) ?_ _
                go_wp2_with fail
                go_roundw
                case rel => exact ⟨n + 1, v8, hlt, by go_num, hP9⟩
                case measure => simp [intOf]; omega
          · obtain rfl : n = 4 := by omega
            have hdn := fun W (h : PackW w W B g kb was wv KS (F 4) v) => EncDone_any g (HBOK.out 4 (by omega)).1 (by omega) size (HBOK.out 4 (by omega)).2.2 (by omega) v W h.ec h.r
            have hfo : Sp.fitOk (F 4).all size = true := Sp.fitOk_short HFIT.out
            simp only [hfo, ← HPK.out] at hdn
            have HDN := Lib.hid hdn
            clear hdn hfo
            go_wp2_with fail
            refine (HDN.out _ hP).mono ?_
            rintro e w2 ⟨rfl, hb2⟩
            go_wp2_with fail
            go_ret2
            refine ⟨rfl, ?_⟩
            rw [hB]
            exact hP.far.trans (hb2.mono (by have := hP.sz; omega))
end Go.Proofs.YthpjkgpngbdhbaaGreatDoor
