/- The walk of the document's Parts (spoolref13). -/
import Derived.Test.YtmfihaaiddolmaaGreatDoorLot12
import Derived.Test.YtmfihaaiddolmaaGreatDoorLot13
import Derived.Test.YtmfihaaiddolmaaGreatDoorLot11
import Derived.Test.YtmfihaaiddolmaaGreatDoorLot9
import Derived.Test.YtmfihaaiddolmaaGreatDoorLot14
set_option linter.unusedSimpArgs false
set_option linter.unusedVariables false
namespace Go.Proofs.YtmfihaaiddolmaaGreatDoor
open Go.RowKit

theorem w_RDec : Whole 87 4 := ⟨_, Tryz.underlying87, rfl, by kernel_rfl⟩
theorem rdec_one (d : Sp.Dec) : (rdecC d).all (·.oneCell') = true := by simp [rdecC, Value.oneCell']
theorem norm_pg (k : Nat) : ∀ d : Sp.Dec, (d.norm k).pos - (d.norm k).gone = d.pos - d.gone := by
  induction k with
  | zero => intro d; rfl
  | succ k ih =>
    intro d
    unfold Sp.Dec.norm
    split
    · rw [ih]; show d.pos + 1 - (d.gone + 1) = _; omega
    · rfl
theorem take_pg (d : Sp.Dec) (x y t : Int) : (d.take x y t).pos - (d.take x y t).gone = d.pos - d.gone := norm_pg 3 _
theorem new_pg (s : ByteArray) : (Sp.Dec.new s).pos - (Sp.Dec.new s).gone = 4 := rfl
theorem decN_pg (s : ByteArray) (k : Nat) : (decN s k).pos - (decN s k).gone = 4 := by
  induction k with
  | zero => exact new_pg s
  | succ k ih =>
    have e : decN s (k + 1) = ltakeD (decN s k) := rfl
    rw [e]; unfold ltakeD; rw [take_pg]; exact ih
theorem levsS_get {s : ByteArray} {ls : List Int} {b : Nat} (hb : b < 4) : (levsS s ls).getD b 0 = levAt s ls b := by
  unfold levsS; rw [List.getD_eq_getElem?_getD, List.getElem?_map, List.getElem?_range hb]; rfl
theorem off_next : ∀ b, b + 1 < 4 → offN (b + 1) = offN b + bandN b := by
  intro b hb
  have : b = 0 ∨ b = 1 ∨ b = 2 := by omega
  rcases this with rfl | rfl | rfl <;> rfl
theorem bands_next (d : Sp.Dec) (ls ks : List Int) (b : Nat) : bandsS d ls ks (b + 1) = (bandD (bandsS d ls ks b).1 b (ks.getD b 0).toNat, putL (bandsS d ls ks b).2 (offN b) (bandV (bandsS d ls ks b).1 b (ls.getD b 0).toNat (ks.getD b 0).toNat)) := rfl
theorem putL_past {l c : List Int} {o j : Nat} (ho : o ≤ l.length) (hj : o + c.length ≤ j) : (putL l o c).getD j 0 = l.getD j 0 := by
  unfold putL
  have h1 : (l.take o ++ c).length = o + c.length := by rw [List.length_append, List.length_take]; omega
  rw [List.getD_eq_getElem?_getD, List.getElem?_append_right (by omega), h1, List.getElem?_drop, List.getD_eq_getElem?_getD]
  congr 2; omega
theorem bands_tail {d : Sp.Dec} {c : Int} (hd : d.Ok c) {ls ks : List Int} (hl : LevelsOk ls) (hk : PulsesOk ks) (b : Nat) (hb : b < 4) : ∀ j, offN b ≤ j → (bandsS d ls ks b).2.getD j 0 = 0 := by
  induction b with
  | zero => intro j _; exact rep_getD 16 j
  | succ b ih =>
    intro j hj
    have h := bandsS_ok hd hl hk b (by omega)
    rw [off_next b hb] at hj
    rw [bands_next]
    show (putL _ _ _).getD j 0 = 0
    rw [putL_past (by rw [h.len]; have := off_fits b (by omega); omega) (by rw [bandV_len]; exact hj)]
    exact ih (by omega) j (by omega)
theorem putL_same {l : List Int} {o m : Nat} (hom : o + m ≤ l.length) (hz : ∀ j, o ≤ j → l.getD j 0 = 0) : putL l o (List.replicate m 0) = l := by
  unfold putL
  rw [List.length_replicate]
  apply List.ext_getElem?
  intro j
  have ht : (l.take o).length = o := by rw [List.length_take]; omega
  by_cases h1 : j < o
  · rw [List.append_assoc, List.getElem?_append_left (by omega), List.getElem?_take, if_pos h1]
  · by_cases h2 : j < o + m
    · rw [List.append_assoc, List.getElem?_append_right (by omega), ht, List.getElem?_append_left (by rw [List.length_replicate]; omega), List.getElem?_replicate, if_pos (by omega)]
      have h3 := hz j (by omega)
      rw [List.getD_eq_getElem?_getD, List.getElem?_eq_getElem (by omega)] at h3
      rw [List.getElem?_eq_getElem (by omega)]
      simp at h3; rw [h3]
    · rw [List.getElem?_append_right (by rw [List.length_append, ht, List.length_replicate]; omega), List.length_append, ht, List.length_replicate, List.getElem?_drop]
      congr 1; omega
theorem bands_zero {d : Sp.Dec} {c : Int} (hd : d.Ok c) {ls ks : List Int} (hl : LevelsOk ls) (hk : PulsesOk ks) {b : Nat} (hb : b < 4) (h0 : ks.getD b 0 = 0) : bandsS d ls ks (b + 1) = bandsS d ls ks b := by
  have h := bandsS_ok hd hl hk b (by omega)
  rw [bands_next, h0, Int.toNat_zero]
  have e1 : bandD (bandsS d ls ks b).1 b 0 = (bandsS d ls ks b).1 := by unfold bandD; rw [if_pos rfl]
  have e2 : bandV (bandsS d ls ks b).1 b (ls.getD b 0).toNat 0 = List.replicate (bandN b) 0 := by unfold bandV; rw [if_pos rfl]
  rw [e1, e2, putL_same (by rw [h.len]; exact off_fits b hb) (bands_tail hd hl hk b hb)]
/-- A band laid from the front on. -/
def putP (l c : List Int) (o j : Nat) : List Int := l.take o ++ c.take j ++ l.drop (o + j)
theorem putP_zero (l c : List Int) (o : Nat) : putP l c o 0 = l := by simp [putP]
theorem putP_all (l c : List Int) (o : Nat) : putP l c o c.length = putL l o c := by unfold putP putL; rw [List.take_length]
theorem putP_len {l c : List Int} {o j : Nat} (h : o + c.length ≤ l.length) (hj : j ≤ c.length) : (putP l c o j).length = l.length := by
  unfold putP; rw [List.length_append, List.length_append, List.length_take, List.length_take, List.length_drop]; omega
theorem putP_set {l c : List Int} {o j : Nat} (h : o + c.length ≤ l.length) (hj : j < c.length) : (putP l c o j).set (o + j) (c.getD j 0) = putP l c o (j + 1) := by
  unfold putP
  have h1 : (l.take o ++ c.take j).length = o + j := by rw [List.length_append, List.length_take, List.length_take]; omega
  have hd : l.drop (o + j) = l[o + j]'(by omega) :: l.drop (o + j + 1) := List.drop_eq_getElem_cons (by omega)
  have he : o + j - (o + j) = 0 := by omega
  have hx : c.getD j 0 = c[j] := by rw [List.getD_eq_getElem?_getD, List.getElem?_eq_getElem hj]; rfl
  have ht : c.take (j + 1) = c.take j ++ [c[j]] := by rw [List.take_add_one, List.getElem?_eq_getElem hj]; rfl
  rw [List.set_append, if_neg (by omega), h1, Nat.sub_self, hd, List.set_cons_zero, hx, ht, show o + (j + 1) = o + j + 1 by omega]
  simp only [List.append_assoc, List.singleton_append]
theorem row_rebase {W : World} {e : TypeId} {v : Value} {xs : List Value} {lo : Nat} (h : Row W e v xs) (ho : ∀ i, v.ownBlock = some i → lo ≤ i) : W.ownsRow lo e 1 v xs.length xs := by
  refine ⟨h.1, ?_⟩
  rcases h.2 with hn | ⟨g, cap, cur, rfl, hb, rest⟩
  · exact .inl hn
  · exact .inr ⟨g, cap, cur, rfl, ho g rfl, rest⟩
theorem sl_some {W : World} {lo hi n cap : Nat} {p : Option Addr} {xs : List Value} (h : SL W lo hi 1 p n cap xs) (hn : 1 ≤ n) : ∃ g f, p = some ⟨g, f, none⟩ := by
  obtain ⟨_, hc, _, _, h5, h6, _⟩ := h
  cases p with
  | none => have := h5 rfl; omega
  | some a => obtain ⟨g, f, s⟩ := a; have := (h6 _ rfl).1; simp only at this; subst this; exact ⟨g, f, rfl⟩
theorem dec_mono {d : Sp.Dec} {b c : Int} (h : d.Ok b) (hbc : b ≤ c) : d.Ok c := by
  obtain ⟨h1, h2, h3, h4, h5, h6, h7, h8⟩ := h
  exact ⟨h1, by omega, h3, h4, h5, h6, h7, by omega⟩
theorem bit_step {f n a m : Nat} {d : Sp.Dec} {x : Int} (hn : a < n) (hm : min (n - a) 8 = m) : Sp.Dec.bitF (f + 1) d (n - a) a x = Sp.Dec.bitF f (d.take (d.place (2 ^ m)) 1 (2 ^ m)) (n - (a + m)) (a + m) (x + d.place (2 ^ m) * 2 ^ a) := by
  rw [Sp.Dec.bitF_next _ _ _ _ _ (by omega), hm]
  by_cases h8 : n - a < 8
  · rw [show n - a - m = 0 by omega, show n - (a + m) = 0 by omega, Sp.Dec.bitF_zero, Sp.Dec.bitF_zero]
  · obtain rfl : m = 8 := by omega
    rw [show n - a - 8 = n - (a + 8) by omega]
theorem bit_grow {p x : Int} {a m : Nat} (h0 : 0 ≤ x) (h1 : x < 2 ^ a) (p0 : 0 ≤ p) (p1 : p < 2 ^ m) : 0 ≤ x + p * 2 ^ a ∧ x + p * 2 ^ a < 2 ^ (a + m) := by
  have hp : (0 : Int) < 2 ^ a := Int.pow_pos (by omega)
  have h2 : p * 2 ^ a ≤ (2 ^ m - 1) * 2 ^ a := Int.mul_le_mul_of_nonneg_right (by omega) (by omega)
  have h3 : 0 ≤ p * 2 ^ a := Int.mul_nonneg p0 (by omega)
  have h4 : (2 ^ m - 1) * 2 ^ a = (2 : Int) ^ (a + m) - 2 ^ a := by rw [Int.sub_mul, Int.one_mul, Int.pow_add, Int.mul_comm]
  omega
set_option maxRecDepth 100000 in
set_option maxHeartbeats 8000000 in
theorem RParts_any (ls : List Int) (hL : LevelsOk ls) (s : ByteArray) (hs0 : 10 ≤ s.size) (hs1 : s.size ≤ 32) (w : World) :
    Calls Tryz.prog 9 #[.agg (arrV ls), .string s] w fun e w' => e = .returned (.tuple #[.agg (arrV (levsS s ls)), .agg (arrV (wavS s ls))]) ∧ Below w.heap.size w w' := by
  obtain ⟨V, hV⟩ : ∃ V, levsS s ls = V := ⟨_, rfl⟩
  have hVok : LevelsOk V := by rw [← hV]; exact levsS_ok s ls
  have hVg : ∀ b, b < 4 → V.getD b 0 = levAt s ls b := fun b hb => by rw [← hV]; exact levsS_get hb
  obtain ⟨Wv, hWv⟩ : ∃ W, wavS s ls = W := ⟨_, rfl⟩
  rw [hV, hWv]
  have HV := Lib.hid hV
  have HWV := Lib.hid hWv
  have HVG := Lib.hid hVg
  have LV := Len.mk hVok.1
  clear hV hWv hVg
  obtain ⟨B, hB⟩ : ∃ B, w.heap.size = B := ⟨_, rfl⟩
  have hfar := Below.refl B w
  have hsz : B ≤ w.heap.size := by omega
  have LL := Len.mk hL.1
  have hnd := fun w => RNewDec_any s w
  obtain ⟨d0, hd0⟩ : ∃ d, Sp.Dec.new s = d := ⟨_, rfl⟩
  simp only [hd0] at hnd
  have HND := Lib.hid hnd
  have HD0 := Lib.hid hd0
  clear hnd hd0
  go_enter Tryz.func9, Tryz.ntmps9
  go_upto_region 1 with (fail)
  refine wp_gen (fun W => Blk W (B) (arrV ls) 23 ∧ Blk W (B + 1) (arrV (zs 4)) 23 ∧ Blk W (B + 1 + 1) (arrV (zs 16)) 22 ∧ Below (B) w W ∧ B + 3 ≤ W.heap.size) ⟨bk_, bk_, bk_, bl_, sz_⟩ ?_
  clear hfar hsz
  rintro w1 ⟨hA, hR1, hR2, hfar, hsz⟩
  go_wp2_with fail
  refine (HND.out _).mono ?_
  rintro e w2 ⟨rfl, hb2⟩
  replace hA := hA.newB hb2
  replace hR1 := hR1.newB hb2
  replace hR2 := hR2.newB hb2
  replace hfar := hfar.trans (hb2.mono (by omega))
  replace hsz := Nat.le_trans hsz hb2.size
  obtain ⟨g, hs_g⟩ : ∃ g, w2.heap.size = g := ⟨_, rfl⟩
  have hk_g : B + 3 ≤ g := by omega
  go_upto_region 2 with (first | (refine st 87 rfl (by rfl) w_RDec rfl rfl bk_ zz_ zz_ (rdec_one _) ?_) | (refine ld 87 rfl (by rfl) w_RDec rfl bk_ zz_ ?_))
  refine wp_gen (fun W => Blk W (B) (arrV ls) 23 ∧ Blk W (B + 1) (arrV (zs 4)) 23 ∧ Blk W (B + 1 + 1) (arrV (zs 16)) 22 ∧ Blk W (g) (rdecC d0) 87 ∧ Below (B) w W ∧ g + 1 ≤ W.heap.size) ⟨bk_, bk_, bk_, bk_, bl_, sz_⟩ ?_
  clear hA hR1 hR2 hfar hsz
  rintro w3 ⟨hA, hR1, hR2, hD, hfar, hsz⟩
  go_wp2_with fail
  go_loopw [7] (fun i wr => ∃ b : Nat, b ≤ 4 ∧ i = .int .i64 b ∧ Blk wr B (arrV (turnL V ls b)) 23 ∧ Blk wr (B + 1) (arrV (zs 4)) 23 ∧ Blk wr (B + 1 + 1) (arrV (zs 16)) 22 ∧ Blk wr g (rdecC (decN s b)) 87 ∧ Below B w wr ∧ g + 1 ≤ wr.heap.size) (fun i _ => 4 - (intOf i).toNat)
  case atStart => exact ⟨0, by omega, rfl, by rw [turnL_zero]; exact hA, hR1, hR2, by rw [show decN s 0 = d0 from HD0.out]; exact hD, hfar, hsz⟩
  case round =>
    clear hA hR1 hR2 hD hfar hsz
    obtain ⟨b, hb4, rfl, hA, hR1, hR2, hD, hfar, hsz⟩ := hrel
    by_cases hlt : b < 4
    · have hd := decN_ok s b
      obtain ⟨v, a, c, hv, hf, hc, hci, hD2, hv1, hv2⟩ := ltake_cell hd
      have hpl := fun w => RPlace_any hd 32768 (by omega) (by omega) w
      have hp := place_bd hd
      have hfi := fun w => RFind_any ((decN s b).place 32768) hp.1 hp.2 w
      rw [hf] at hfi
      have hce := fun w => RCell_any v hv1 hv2 w
      rw [hc] at hce
      have hta := fun w => RTake_any hd (by omega) hci w
      rw [← hD2] at hta
      have hnx : ltakeD (decN s b) = decN s (b + 1) := rfl
      rw [hnx] at hta
      have hlv := hL.get hlt
      have hset := turnL_set (k := b) LV.out LL.out hlt (HVG.out b hlt)
      have LT := turnL_len (k := b) LV.out LL.out (Nat.le_of_lt hlt)
      have hg := turnL_get (f := V) (o := ls) (k := b) LV.out hlt
      have hx : levAt s ls b = max (min (ls.getD b 0 + v) 20) 0 := by unfold levAt; rw [hv]
      obtain ⟨T, hT⟩ : ∃ T, turnL V ls b = T := ⟨_, rfl⟩
      rw [hT] at hset hA LT hg
      obtain ⟨lv, hlve⟩ : ∃ lv, ls.getD b 0 = lv := ⟨_, rfl⟩
      rw [hlve] at hlv hg hx
      rw [hx] at hset
      have c0 : wr.cell? ⟨B, b, none⟩ = some (.int .i64 lv) := by rw [hA.cell b, arr_get (by have := LT.out; omega), hg]
      obtain ⟨m1, hm1⟩ : ∃ m, max (lv + v) 0 = m := ⟨_, rfl⟩
      obtain ⟨m2, hm2⟩ : ∃ m, min m1 20 = m := ⟨_, rfl⟩
      have hm3 : max (min (lv + v) 20) 0 = m2 := by omega
      rw [hm3] at hset
      have hwv : IntKind.i64.wrap (lv + v) = lv + v := IntWalk.i64_in _ (by omega)
      obtain ⟨d1, hd1⟩ : ∃ d, decN s b = d := ⟨_, rfl⟩
      obtain ⟨d2, hd2⟩ : ∃ d, decN s (b + 1) = d := ⟨_, rfl⟩
      rw [hd1] at hD
      simp only [hd1] at hpl hfi hta
      simp only [hd2] at hta
      have HPL := Lib.hid hpl
      have HFI := Lib.hid hfi
      have HCE := Lib.hid hce
      have HTA := Lib.hid hta
      have HSET := Lib.hid hset
      have HD2 := Lib.hid hd2
      have HM3 := Lib.hid hm3
      have HG := Lib.hid hg
      have hbi : (b : Int) < 4 := by omega
      clear hd hv hf hc hci hD2 hpl hfi hce hta hnx hset hg hx hT hlve hd1 hd2 hm3
      go_wp2_with (first | (refine st 87 rfl (by rfl) w_RDec rfl rfl bk_ zz_ zz_ (rdec_one _) ?_) | (refine ld 87 rfl (by rfl) w_RDec rfl bk_ zz_ ?_))
      refine (HPL.out _).mono ?_
      rintro e w4 ⟨rfl, hb4'⟩
      replace hA := hA.newB hb4'
      replace hR1 := hR1.newB hb4'
      replace hR2 := hR2.newB hb4'
      replace hD := hD.newB hb4'
      replace hfar := hfar.trans (hb4'.mono (by omega))
      replace hsz := Nat.le_trans hsz hb4'.size
      go_wp2_with fail
      refine (HFI.out _).mono ?_
      rintro e w' ⟨rfl, rfl⟩
      go_upto_region 6 with (fail)
      go_cut [] from 31 to 37 (fun wx => Blk wx B (arrV T) 23 ∧ Blk wx (B + 1) (arrV (zs 4)) 23 ∧ Blk wx (B + 1 + 1) (arrV (zs 16)) 22 ∧ Blk wx g (rdecC d2) 87 ∧ Below B w wx ∧ g + 1 ≤ wx.heap.size)
      case first =>
        refine wp_region_held_drew (S := fun W => True) (by kernel_rfl) ⟨⟩ (fun hH => ?_)
        refine wpAnyH_take (i := 1) (oi := { dst := some 35, op := Op.move (Operand.tmp 8), type := 3, pos := "ref.go:34", after := _, guard := none }) (v := _) rfl (by kernel_rfl) (by kernel_rfl) (by kernel_rfl) (fun _ _ _ h => h) (.inl ⟨by rfl, fun w hS => by (go_simp; try rfl)⟩) hH ?_
        try simp only [Act.put, List.setIfInBounds_toArray, List.set_cons_zero, List.set_cons_succ]
        refine wpAnyH_ready (rs := [0, 2]) (by kernel_rfl) (by simp) ?_
        refine AllReadyH.cons (o := { dst := some 34, op := Op.load 87 (Operand.tmp 6), type := 87, pos := "ref.go:34", after := _, guard := none }) rfl (fun K hK => ?_) ?_
        · rw [if_pos (by rfl)]
          refine wp_ld 87 rfl w_RDec rfl bk_ zz_ ?_
          refine hK.out _ _ trivial (fun hH => ?_)
          clear hK K
          try simp only [Act.put, List.setIfInBounds_toArray, List.set_cons_zero, List.set_cons_succ]
          refine wpAnyH_ready (rs := [2]) (by kernel_rfl) (by simp) ?_
          refine AllReadyH.cons (o := { dst := some 36, op := Op.call { callee := Callee.value (Operand.func 47), args := #[Operand.tmp 35], argTypes := #[3] }, type := 93, pos := "ref.go:34", after := _, guard := none }) rfl (fun K hK => ?_) AllReadyH.nil
          rw [if_pos (by rfl)]
          go_simp
          refine (HCE.out _).mono ?_
          rintro r wq ⟨rfl, hb⟩
          have hbs := hb.size
          try simp only [World.size_alloc, World.size_setCell, World.size_drew, size_setRow] at hbs
          go_wp2_with fail
          refine hK.out _ _ trivial (fun hH => ?_)
          clear hK K
          try simp only [Act.put, List.setIfInBounds_toArray, List.set_cons_zero, List.set_cons_succ]
          refine wpAnyH_ready (rs := [3]) (by kernel_rfl) (by simp) ?_
          refine AllReadyH.cons (o := { dst := some 37, op := Op.call { callee := Callee.value (Operand.func 46), args := #[Operand.tmp 34, Operand.tmp 36], argTypes := #[87, 93] }, type := 87, pos := "ref.go:34", after := _, guard := none }) rfl (fun K hK => ?_) AllReadyH.nil
          rw [if_pos (by rfl)]
          go_simp
          refine (HTA.out _).mono ?_
          rintro r wq2 ⟨rfl, hb⟩
          have hbs := hb.size
          try simp only [World.size_alloc, World.size_setCell, World.size_drew, size_setRow] at hbs
          go_wp2_with fail
          refine hK.out _ _ trivial (fun hH => ?_)
          clear hK K
          try simp only [Act.put, List.setIfInBounds_toArray, List.set_cons_zero, List.set_cons_succ]
          refine wpAnyH_ready (rs := [4]) (by kernel_rfl) (by simp) ?_
          refine AllReadyH.cons (o := { dst := none, op := Op.store 87 (Operand.tmp 6) (Operand.tmp 37), type := 0, pos := "ref.go:34", after := _, guard := none }) rfl (fun K hK => ?_) AllReadyH.nil
          rw [if_pos (by rfl)]
          refine wp_st 87 rfl w_RDec rfl rfl bk_ zz_ zz_ (rdec_one _) ?_
          refine hK.out _ _ trivial (fun hH => ?_)
          clear hK K
          try simp only [Act.put]
          refine wpAnyH_done (by kernel_rfl) ?_ _
          go_wp2_with fail
          go_meet
          case rel => exact ⟨by exact bk_, by exact bk_, by exact bk_, by exact bk_, by exact bl_, by exact sz_⟩
        refine AllReadyH.cons (o := { dst := some 36, op := Op.call { callee := Callee.value (Operand.func 47), args := #[Operand.tmp 35], argTypes := #[3] }, type := 93, pos := "ref.go:34", after := _, guard := none }) rfl (fun K hK => ?_) AllReadyH.nil
        rw [if_pos (by rfl)]
        go_simp
        refine (HCE.out _).mono ?_
        rintro r wq ⟨rfl, hb⟩
        have hbs := hb.size
        try simp only [World.size_alloc, World.size_setCell, World.size_drew, size_setRow] at hbs
        go_wp2_with fail
        refine hK.out _ _ trivial (fun hH => ?_)
        clear hK K
        try simp only [Act.put, List.setIfInBounds_toArray, List.set_cons_zero, List.set_cons_succ]
        refine wpAnyH_ready (rs := [0]) (by kernel_rfl) (by simp) ?_
        refine AllReadyH.cons (o := { dst := some 34, op := Op.load 87 (Operand.tmp 6), type := 87, pos := "ref.go:34", after := _, guard := none }) rfl (fun K hK => ?_) AllReadyH.nil
        rw [if_pos (by rfl)]
        refine wp_ld 87 rfl w_RDec rfl bk_ zz_ ?_
        refine hK.out _ _ trivial (fun hH => ?_)
        clear hK K
        try simp only [Act.put, List.setIfInBounds_toArray, List.set_cons_zero, List.set_cons_succ]
        refine wpAnyH_ready (rs := [3]) (by kernel_rfl) (by simp) ?_
        refine AllReadyH.cons (o := { dst := some 37, op := Op.call { callee := Callee.value (Operand.func 46), args := #[Operand.tmp 34, Operand.tmp 36], argTypes := #[87, 93] }, type := 87, pos := "ref.go:34", after := _, guard := none }) rfl (fun K hK => ?_) AllReadyH.nil
        rw [if_pos (by rfl)]
        go_simp
        refine (HTA.out _).mono ?_
        rintro r wq2 ⟨rfl, hb⟩
        have hbs := hb.size
        try simp only [World.size_alloc, World.size_setCell, World.size_drew, size_setRow] at hbs
        go_wp2_with fail
        refine hK.out _ _ trivial (fun hH => ?_)
        clear hK K
        try simp only [Act.put, List.setIfInBounds_toArray, List.set_cons_zero, List.set_cons_succ]
        refine wpAnyH_ready (rs := [4]) (by kernel_rfl) (by simp) ?_
        refine AllReadyH.cons (o := { dst := none, op := Op.store 87 (Operand.tmp 6) (Operand.tmp 37), type := 0, pos := "ref.go:34", after := _, guard := none }) rfl (fun K hK => ?_) AllReadyH.nil
        rw [if_pos (by rfl)]
        refine wp_st 87 rfl w_RDec rfl rfl bk_ zz_ zz_ (rdec_one _) ?_
        refine hK.out _ _ trivial (fun hH => ?_)
        clear hK K
        try simp only [Act.put]
        refine wpAnyH_done (by kernel_rfl) ?_ _
        go_wp2_with fail
        go_meet
        case rel => exact ⟨by exact bk_, by exact bk_, by exact bk_, by exact bk_, by exact bl_, by exact sz_⟩
      case rest =>
        clear hA hR1 hR2 hD hfar hsz
        obtain ⟨hA, hR1, hR2, hD, hfar, hsz⟩ := hcut
        have c0 : wc.cell? ⟨B, b, none⟩ = some (.int .i64 lv) := by rw [hA.cell b, arr_get (by have := LT.out; omega), HG.out]
        have f0 := hA.frozen b
        go_wp2_with fail
        go_roundw
        case rel => exact ⟨b + 1, hlt, by go_num, by rw [← HSET.out]; exact bk_, by exact bk_, by exact bk_, by rw [HD2.out]; exact bk_, by exact bl_, by exact sz_⟩
        case measure => simp [intOf]; omega
    · have hbe : (b : Int) = 4 := by omega
      have hbn4 : b = 4 := by omega
      rw [hbn4, turnL_all LV.out LL.out] at hA
      rw [hbn4] at hD
      simp only [hbe]
      clear hbe hbn4 hb4 hlt b
      have hd := decN_ok s 4
      have hpg := decN_pg s 4
      have hub := used_bd hd
      have hus : 8 * ((decN s 4).pos - 4) + 32 - (Lib.bitLen (decN s 4).rng.toNat : Int) = (decN s 4).used := by unfold Sp.Dec.used; omega
      have hle := fun w => RLength_any (decN s 4).rng (by have := hd.rng0; omega) hd.rng1 w
      have hr0 := hd.rng0
      have hr1 := hd.rng1
      have hle32 := Lib.bitLen_le (decN s 4).rng.toNat 32 (by omega) (by omega)
      clear hr0 hr1
      have hbits : bitsS s = max (8 * (s.size : Int) - 40 - (decN s 4).used) 0 := rfl
      have hbs0 : 0 ≤ bitsS s ∧ bitsS s ≤ 1000000 := by rw [hbits]; omega
      have hpu := fun w => RPulses_any V hVok (bitsS s) hbs0.1 hbs0.2 w
      have hks : pulses V 33 [0, 0, 0, 0] (bitsS s) = pulS s ls := by unfold pulS; rw [HV.out]
      have hkok := pulS_ok s ls
      rw [hks] at hpu
      have hwv : Wv = (bandsS (decN s 4) V (pulS s ls) 4).2 := by rw [← HWV.out]; unfold wavS; rw [HV.out]
      obtain ⟨ks, hkse⟩ : ∃ k, pulS s ls = k := ⟨_, rfl⟩
      rw [hkse] at hkok hwv
      simp only [hkse] at hpu
      obtain ⟨d, hde⟩ : ∃ d, decN s 4 = d := ⟨_, rfl⟩
      rw [hde] at hd hpg hub hus hle32 hbits hwv hD
      simp only [hde] at hle
      obtain ⟨bl, hbl⟩ : ∃ n, Lib.bitLen d.rng.toNat = n := ⟨_, rfl⟩
      simp only [hbl] at hle hus hle32
      obtain ⟨bt, hbt⟩ : ∃ n, bitsS s = n := ⟨_, rfl⟩
      rw [hbt] at hbits
      simp only [hbt] at hpu
      obtain ⟨us, huse⟩ : ∃ n, d.used = n := ⟨_, rfl⟩
      rw [huse] at hub hus hbits
      have hpb := hd.pos1
      have hpb0 := hd.pos0
      have hc3 : ∀ W, Blk W g (rdecC d) 87 → W.cell? ⟨g, 3, none⟩ = some (.int .i64 d.pos) := fun W h => h.cell 3
      have hc2 : ∀ W, Blk W g (rdecC d) 87 → W.cell? ⟨g, 2, none⟩ = some (.int .i64 d.rng) := fun W h => h.cell 2
      have HC3 := Lib.hid hc3
      have HC2 := Lib.hid hc2
      have HPU := Lib.hid hpu
      have HLE := Lib.hid hle
      have HWV2 := Lib.hid hwv
      have HDO := Lib.hid hd
      have HKO := Lib.hid hkok
      obtain ⟨dp, hdp⟩ : ∃ n, d.pos = n := ⟨_, rfl⟩
      have HDP := Lib.hid hdp
      have hw1 : IntKind.i64.wrap (8 * (dp - 4)) = 8 * (dp - 4) := IntWalk.i64_in _ (by omega)
      have hw2 : IntKind.i64.wrap (dp - 4) = dp - 4 := IntWalk.i64_in _ (by omega)
      have hw3 : IntKind.i64.wrap (8 * (dp - 4) + 32) = 8 * (dp - 4) + 32 := IntWalk.i64_in _ (by omega)
      rw [hdp] at hus
      have hw4 : IntKind.i64.wrap us = us := IntWalk.i64_in _ (by omega)
      have LK := Len.mk hkok.1
      clear hle hpu hwv hd hkok hkse hde hbl hbt huse hks hpg hc2 hc3 hdp hpb hpb0
      go_upto_region 8 with (fail)
      go_cut [9] from 47 to 54 (fun s9 wx => s9 = .int .i64 us ∧ ∃ m, wx = wr.drewN m)
      case first =>
        refine wp_region_held_drew (S := fun W => Blk W (g) (rdecC d) 87) (by kernel_rfl) (hD.drew) (fun hH => ?_)
        refine wpAnyH_take (i := 0) (oi := { dst := some 47, op := Op.fieldAddr 87 (Operand.tmp 6) 3, type := 0, pos := "ref.go:37", after := _, guard := none }) (v := _) rfl (by kernel_rfl) (by kernel_rfl) (by kernel_rfl) (fun _ _ _ h => h) (.inl ⟨by rfl, fun w hS => by (go_simp; try rfl)⟩) hH ?_
        try simp only [Act.put, List.setIfInBounds_toArray, List.set_cons_zero, List.set_cons_succ]
        refine wpAnyH_take (i := 1) (oi := { dst := some 48, op := Op.load 3 (Operand.tmp 47), type := 3, pos := "ref.go:37", after := _, guard := none }) (v := _) rfl (by kernel_rfl) (by kernel_rfl) (by kernel_rfl) (fun _ _ _ h => h) (.inl ⟨by rfl, fun w hS => by (have c := (HDP.out ▸ HC3.out _ hS); go_simp; try rfl)⟩) hH ?_
        try simp only [Act.put, List.setIfInBounds_toArray, List.set_cons_zero, List.set_cons_succ]
        refine wpAnyH_take (i := 2) (oi := { dst := some 49, op := Op.binOp BinOp.sub 3 (Operand.tmp 48) (Operand.const (Value.int IntKind.i64 4)) 3, type := 3, pos := "ref.go:37", after := _, guard := none }) (v := _) rfl (by kernel_rfl) (by kernel_rfl) (by kernel_rfl) (fun _ _ _ h => h) (.inl ⟨by rfl, fun w hS => by (go_simp; try rfl)⟩) hH ?_
        try simp only [Act.put, List.setIfInBounds_toArray, List.set_cons_zero, List.set_cons_succ]
        refine wpAnyH_take (i := 3) (oi := { dst := some 50, op := Op.binOp BinOp.mul 3 (Operand.const (Value.int IntKind.i64 8)) (Operand.tmp 49) 3, type := 3, pos := "ref.go:37", after := _, guard := none }) (v := _) rfl (by kernel_rfl) (by kernel_rfl) (by kernel_rfl) (fun _ _ _ h => h) (.inl ⟨by rfl, fun w hS => by (go_simp; try rfl)⟩) hH ?_
        try simp only [Act.put, List.setIfInBounds_toArray, List.set_cons_zero, List.set_cons_succ]
        refine wpAnyH_take (i := 4) (oi := { dst := some 51, op := Op.binOp BinOp.add 3 (Operand.tmp 50) (Operand.const (Value.int IntKind.i64 32)) 3, type := 3, pos := "ref.go:37", after := _, guard := none }) (v := _) rfl (by kernel_rfl) (by kernel_rfl) (by kernel_rfl) (fun _ _ _ h => h) (.inl ⟨by rfl, fun w hS => by (go_simp; try rfl)⟩) hH ?_
        try simp only [Act.put, List.setIfInBounds_toArray, List.set_cons_zero, List.set_cons_succ]
        refine wpAnyH_take (i := 5) (oi := { dst := some 52, op := Op.fieldAddr 87 (Operand.tmp 6) 2, type := 0, pos := "ref.go:37", after := _, guard := none }) (v := _) rfl (by kernel_rfl) (by kernel_rfl) (by kernel_rfl) (fun _ _ _ h => h) (.inl ⟨by rfl, fun w hS => by (go_simp; try rfl)⟩) hH ?_
        try simp only [Act.put, List.setIfInBounds_toArray, List.set_cons_zero, List.set_cons_succ]
        refine wpAnyH_take (i := 6) (oi := { dst := some 53, op := Op.load 3 (Operand.tmp 52), type := 3, pos := "ref.go:37", after := _, guard := none }) (v := _) rfl (by kernel_rfl) (by kernel_rfl) (by kernel_rfl) (fun _ _ _ h => h) (.inl ⟨by rfl, fun w hS => by (have c := HC2.out _ hS; go_simp; try rfl)⟩) hH ?_
        try simp only [Act.put, List.setIfInBounds_toArray, List.set_cons_zero, List.set_cons_succ]
        refine wpAnyH_ready (rs := [7]) (by kernel_rfl) (by simp) ?_
        refine AllReadyH.cons (o := { dst := some 54, op := Op.call { callee := Callee.value (Operand.func 48), args := #[Operand.tmp 53], argTypes := #[3] }, type := 3, pos := "ref.go:37", after := _, guard := none }) rfl (fun K hK => ?_) AllReadyH.nil
        rw [if_pos (by rfl)]
        go_simp
        refine (HLE.out _).mono ?_
        rintro r wq ⟨rfl, rfl⟩
        go_wp2_with fail
        refine hK.out _ _ hH (fun hH => ?_)
        clear hK K
        try simp only [Act.put, List.setIfInBounds_toArray, List.set_cons_zero, List.set_cons_succ]
        refine wpAnyH_take (i := 8) (oi := { dst := some 55, op := Op.binOp BinOp.sub 3 (Operand.tmp 51) (Operand.tmp 54) 3, type := 3, pos := "ref.go:37", after := _, guard := none }) (v := _) rfl (by kernel_rfl) (by kernel_rfl) (by kernel_rfl) (fun _ _ _ h => h) (.inl ⟨by rfl, fun w hS => by (go_simp; try rfl)⟩) hH ?_
        try simp only [Act.put, List.setIfInBounds_toArray, List.set_cons_zero, List.set_cons_succ]
        refine wpAnyH_take (i := 9) (oi := { dst := some 9, op := Op.assign (Operand.tmp 55), type := 3, pos := "ref.go:37", after := _, guard := none }) (v := _) rfl (by kernel_rfl) (by kernel_rfl) (by kernel_rfl) (fun _ _ _ h => h) (.inl ⟨by rfl, fun w hS => by (go_simp; try rfl)⟩) hH ?_
        try simp only [Act.put, List.setIfInBounds_toArray, List.set_cons_zero, List.set_cons_succ]
        refine wpAnyH_done (by kernel_rfl) ?_ _
        go_wp2_with fail
        go_meet
        case rel => exact ⟨by first | rfl | (rw [hus]) | (simp [hus]), 1, rfl⟩
      case rest =>
        obtain ⟨rfl, m, rfl⟩ := hcut
        have hA9 : Blk (wr.drewN m) B (arrV V) 23 := hA
        have hR19 : Blk (wr.drewN m) (B + 1) (arrV (zs 4)) 23 := hR1
        have hR29 : Blk (wr.drewN m) (B + 1 + 1) (arrV (zs 16)) 22 := hR2
        have hD9 : Blk (wr.drewN m) g (rdecC d) 87 := hD
        have hfar9 : Below B w (wr.drewN m) := belowNN hfar m
        have hsz9 : g + 1 ≤ (wr.drewN m).heap.size := hsz
        obtain ⟨w9, hw9⟩ : ∃ W, wr.drewN m = W := ⟨_, rfl⟩
        rw [hw9] at hA9 hR19 hR29 hD9 hfar9 hsz9 ⊢
        clear hA hR1 hR2 hD hfar hsz hw9 HC3 HC2 HLE hus hw1 hw2 hw3
        have hA := hA9
        have hR1 := hR19
        have hR2 := hR29
        have hD := hD9
        have hfar := hfar9
        have hsz := hsz9
        clear hA9 hR19 hR29 hD9 hfar9 hsz9
        obtain ⟨bt2, hbt2⟩ : ∃ x, max (8 * (s.size : Int) - 40 - us) 0 = x := ⟨_, rfl⟩
        have hbt3 : bt = bt2 := by omega
        have hw5 : IntKind.i64.wrap (8 * (s.size : Int)) = 8 * (s.size : Int) := IntWalk.i64_in _ (by omega)
        have hw6 : IntKind.i64.wrap (8 * (s.size : Int) - 40) = 8 * (s.size : Int) - 40 := IntWalk.i64_in _ (by omega)
        have hw7 : IntKind.i64.wrap (8 * (s.size : Int) - 40 - us) = 8 * (s.size : Int) - 40 - us := IntWalk.i64_in _ (by omega)
        have HBT := Lib.hid hbits
        subst hbt3
        clear hbits
        go_upto_region 10 with (fail)
        go_wp2_with (refine ld 23 rfl (by rfl) w_Four rfl hA LV.sz ?_)
        refine (HPU.out _).mono ?_
        rintro e w10 ⟨rfl, hb10⟩
        replace hA := hA.newB hb10
        replace hR1 := hR1.newB hb10
        replace hR2 := hR2.newB hb10
        replace hD := hD.newB hb10
        replace hfar := hfar.trans (hb10.mono (by omega))
        replace hsz := Nat.le_trans hsz hb10.size
        obtain ⟨g2, hs_g2⟩ : ∃ g, w10.heap.size = g := ⟨_, rfl⟩
        have hk_g2 : g + 1 ≤ g2 := by omega
        go_upto_region 12 with (refine st 23 rfl (by rfl) w_Four rfl rfl bk_ lz_ lz_ one_ ?_)
        refine wp_gen (fun W => Blk W (B) (arrV V) 23 ∧ Blk W (B + 1) (arrV (zs 4)) 23 ∧ Blk W (B + 1 + 1) (arrV (zs 16)) 22 ∧ Blk W (g) (rdecC d) 87 ∧ Blk W (g2) (arrV ks) 23 ∧ Blk W (g2 + 1) (arrV (zs 16)) 22 ∧ Below (B) w W ∧ g2 + 2 ≤ W.heap.size) ⟨bk_, bk_, bk_, bk_, bk_, bk_, bl_, sz_⟩ ?_
        clear hA hR1 hR2 hD hfar hsz
        rintro w11 ⟨hA, hR1, hR2, hD, hKs, hW, hfar, hsz⟩
        have hnm := fun b (hb : b ≤ 4) => bandsS_ok HDO.out hVok HKO.out b hb
        have HBO := Lib.hid hnm
        clear hnm HPU HBT
        have hbd0 : bandsS d V ks 0 = (d, zs 16) := rfl
        go_wp2_with fail
        go_loopw [13] (fun i wr => ∃ b : Nat, b ≤ 4 ∧ i = .int .i64 b ∧ Blk wr B (arrV V) 23 ∧ Blk wr (B + 1) (arrV (zs 4)) 23 ∧ Blk wr (B + 1 + 1) (arrV (zs 16)) 22 ∧ Blk wr g (rdecC (bandsS d V ks b).1) 87 ∧ Blk wr g2 (arrV ks) 23 ∧ Blk wr (g2 + 1) (arrV (bandsS d V ks b).2) 22 ∧ Below B w wr ∧ g2 + 2 ≤ wr.heap.size) (fun i _ => 4 - (intOf i).toNat)
        case atStart => exact ⟨0, by omega, rfl, hA, hR1, hR2, by rw [hbd0]; exact hD, hKs, by rw [hbd0]; exact hW, hfar, hsz⟩
        case round =>
          clear hA hR1 hR2 hD hKs hW hfar hsz hbd0
          obtain ⟨b, hb4, rfl, hA, hR1, hR2, hD, hKs, hW, hfar, hsz⟩ := hrel
          by_cases hlt : b < 4
          · have hbi : (b : Int) < 4 := by omega
            have hbo := HBO.out b hb4
            have hk8 := HKO.out.2 b hlt
            have hlv := hVok.get hlt
            have hN8 := bandN_bd hlt
            have hON := off_fits b hlt
            obtain ⟨kn, hkn⟩ : ∃ kn : Nat, ks.getD b 0 = kn := ⟨(ks.getD b 0).toNat, by omega⟩
            obtain ⟨lev, hlev⟩ : ∃ l : Nat, V.getD b 0 = l := ⟨(V.getD b 0).toNat, by omega⟩
            rw [hkn] at hk8
            rw [hlev] at hlv
            have ck := (hKs.cell b).trans (by rw [arr_get (by have := LK.out; omega), hkn])
            have cl := (hA.cell b).trans (by rw [arr_get (by have := LV.out; omega), hlev])
            have hbou := fun w => RBounds_any b hlt w
            have hnext := bands_next d V ks b
            rw [hkn, hlev, Int.toNat_natCast, Int.toNat_natCast] at hnext
            obtain ⟨db, hdb⟩ : ∃ x, (bandsS d V ks b).1 = x := ⟨_, rfl⟩
            obtain ⟨wb, hwb⟩ : ∃ x, (bandsS d V ks b).2 = x := ⟨_, rfl⟩
            have hdok := hbo.dec
            have hwl := hbo.len
            rw [hdb] at hdok hnext hD
            rw [hwb] at hwl hnext hW
            have HBOU := Lib.hid hbou
            by_cases hk0 : kn = 0
            · subst hk0
              have hz := bands_zero HDO.out hVok HKO.out hlt hkn
              rw [hz, Prod.ext_iff] at hnext
              have e1 : (bandsS d V ks (b + 1)).1 = db := by rw [hz]; exact hdb
              have e2 : (bandsS d V ks (b + 1)).2 = wb := by rw [hz]; exact hwb
              have E1 := Lib.hid e1
              have E2 := Lib.hid e2
              clear hnext hz e1 e2 hbo hbou cl hdb hwb
              go_wp2_with fail
              refine (HBOU.out _).mono ?_
              rintro e wq ⟨rfl, hbq⟩
              replace hA := hA.newB hbq
              replace hR1 := hR1.newB hbq
              replace hR2 := hR2.newB hbq
              replace hD := hD.newB hbq
              replace hKs := hKs.newB hbq
              replace hW := hW.newB hbq
              replace hfar := hfar.trans (hbq.mono (by omega))
              replace hsz := Nat.le_trans hsz hbq.size
              have ck2 := (hKs.cell b).trans (by rw [arr_get (by have := LK.out; omega), hkn])
              go_wp2_with fail
              go_roundw
              case rel => exact ⟨b + 1, hlt, by go_num, hA, hR1, hR2, by rw [E1.out]; exact hD, hKs, by rw [E2.out]; exact hW, hfar, hsz⟩
              case measure => simp [intOf]; omega
            · have hkn0 : ¬ (kn : Int) = 0 := by omega
              have hv20 := Sp.vbits_bd (n := bandN b) (k := kn) hN8 (by omega)
              have hcp : 1 ≤ Sp.cnt (bandN b) kn := by rw [Sp.cnt_row _ kn (by omega)]; exact cnt_pos b hlt kn (by omega)
              have hcb := Sp.cnt_bd (n := bandN b) (k := kn) hN8 (by omega)
              have hco := fun w => RCost_any b kn hlt (by omega) w
              have hcn : costB b kn = Sp.vbits (bandN b) kn := rfl
              rw [hcn] at hco
              have hcnt := fun w => RCount_any (bandN b) kn hN8 (by omega) w
              have hbf := Sp.Dec.bitF_ok 3 (Sp.vbits (bandN b) kn) 0 0 hdok (by omega) (by decide) (by decide)
              have hV2 : bandV db b lev kn = fillL lev (Sp.vec (bandN b) kn ((Sp.Dec.bitF 3 db (Sp.vbits (bandN b) kn) 0 0).1 % (Sp.cnt (bandN b) kn : Nat))) := by unfold bandV; rw [if_neg hk0]
              have hD2 : bandD db b kn = (Sp.Dec.bitF 3 db (Sp.vbits (bandN b) kn) 0 0).2 := by unfold bandD; rw [if_neg hk0]
              rw [hV2, hD2] at hnext
              have HNX := Lib.hid hnext
              have HCO := Lib.hid hco
              have HCN := Lib.hid hcnt
              have HBF := Lib.hid hbf
              have hvo := fun (i : Int) (h0 : 0 ≤ i) (h1 : i < (Sp.cnt (bandN b) kn : Nat)) => Sp.vec_ok (bandN b) hN8 kn i (by omega) h0 (by rw [Sp.cntI_nat _ (by omega)]; exact h1)
              have hvl := fun i => Sp.vec_len (bandN b) kn i
              have hvec := fun i h0 h1 w => RVector_any (bandN b) kn i hN8 (by omega) h0 h1 w
              have hnb : 2 ≤ bandN b := by
                have : b = 0 ∨ b = 1 ∨ b = 2 ∨ b = 3 := by omega
                rcases this with rfl | rfl | rfl | rfl <;> decide
              obtain ⟨o, hoe⟩ : ∃ o, offN b = o := ⟨_, rfl⟩
              obtain ⟨n, hne⟩ : ∃ n, bandN b = n := ⟨_, rfl⟩
              obtain ⟨e0, hee⟩ : ∃ e, o + n = e := ⟨_, rfl⟩
              have HVO := Lib.hid hvo
              have HVL := Lib.hid hvl
              have HVEC := Lib.hid hvec
              clear hnext hco hcnt hbf hbo hbou hdb hwb hV2 hD2 hvo hvl hvec
              rw [hne] at hN8 hv20 hcp hcb hnb
              rw [hoe, hne] at hON
              simp only [hoe, hne, hee] at HBOU HNX HCO HCN HBF HVO HVL HVEC
              clear hoe hne
              have hdn : (e0 : Int) - (o : Int) = (n : Int) := by omega
              have hwn : IntKind.i64.wrap (n : Int) = (n : Int) := IntWalk.i64_in _ (by omega)
              go_wp2_with fail
              refine (HBOU.out _).mono ?_
              rintro e wq ⟨rfl, hbq⟩
              replace hA := hA.newB hbq
              replace hR1 := hR1.newB hbq
              replace hR2 := hR2.newB hbq
              replace hD := hD.newB hbq
              replace hKs := hKs.newB hbq
              replace hW := hW.newB hbq
              replace hfar := hfar.trans (hbq.mono (by omega))
              replace hsz := Nat.le_trans hsz hbq.size
              have ck2 := (hKs.cell b).trans (by rw [arr_get (by have := LK.out; omega), hkn])
              obtain ⟨vb, hvb⟩ : ∃ x, Sp.vbits n kn = x := ⟨_, rfl⟩
              rw [hvb] at hv20
              simp only [hvb] at HCO HBF HNX
              go_wp2_with (refine (HCO.out _).mono ?_)
              rintro e wq2 ⟨rfl, hbq2⟩
              replace hA := hA.newB hbq2
              replace hR1 := hR1.newB hbq2
              replace hR2 := hR2.newB hbq2
              replace hD := hD.newB hbq2
              replace hKs := hKs.newB hbq2
              replace hW := hW.newB hbq2
              replace hfar := hfar.trans (hbq2.mono (by omega))
              replace hsz := Nat.le_trans hsz hbq2.size
              go_wp2_with fail
              obtain ⟨R, hR⟩ : ∃ R, Sp.Dec.bitF 3 db vb 0 0 = R := ⟨_, rfl⟩
              have HR := Lib.hid hR
              clear hR
              go_loopw [17, 18] (fun xv av wr => ∃ (f a : Nat) (x : Int) (q : Sp.Dec), xv = .int .i64 x ∧ av = .int .i64 a ∧ f ≤ 3 ∧ a ≤ vb ∧ vb ≤ a + 8 * f ∧ 0 ≤ x ∧ x ≤ 1048576 ∧ Hid (x < 2 ^ a) ∧ q.Ok (4 + 3 * 4 + 9 * b + 9 - 3 * f) ∧ Hid (Sp.Dec.bitF f q (vb - a) a x = R) ∧ Blk wr B (arrV V) 23 ∧ Blk wr (B + 1) (arrV (zs 4)) 23 ∧ Blk wr (B + 1 + 1) (arrV (zs 16)) 22 ∧ Blk wr g (rdecC q) 87 ∧ Blk wr g2 (arrV ks) 23 ∧ Blk wr (g2 + 1) (arrV wb) 22 ∧ Below B w wr ∧ g2 + 2 ≤ wr.heap.size) (fun _ a _ => vb - (intOf a).toNat)
              case atStart => exact ⟨3, 0, 0, db, rfl, rfl, by omega, by omega, by omega, by omega, by omega, Lib.hid (by decide), dec_mono hdok (by omega), Lib.hid HR.out, by exact bk_, by exact bk_, by exact bk_, by exact bk_, by exact bk_, by exact bk_, by exact bl_, by exact sz_⟩
              case round =>
                clear hA hR1 hR2 hD hKs hW hfar hsz
                obtain ⟨f, a, x, q, rfl, rfl, hf3, hav, hvf, hx0, hx1, hxa, hq, hbq, hA, hR1, hR2, hD, hKs, hW, hfar, hsz⟩ := hrel
                by_cases hlt2 : a < vb
                · obtain ⟨f, rfl⟩ : ∃ j, f = j + 1 := ⟨f - 1, by omega⟩
                  obtain ⟨r, hr⟩ : ∃ r, vb - a = r := ⟨_, rfl⟩
                  obtain ⟨m, hm⟩ : ∃ m, min r 8 = m := ⟨_, rfl⟩
                  have hm1 : 1 ≤ m ∧ m ≤ 8 ∧ m ≤ r := by omega
                  have hri : (vb : Int) - (a : Int) = (r : Int) := by omega
                  have hmi : min (r : Int) 8 = (m : Int) := by omega
                  have hstep := bit_step (f := f) (d := q) (x := x) (m := m) hlt2 (by rw [hr]; exact hm)
                  rw [hbq.out] at hstep
                  obtain ⟨p0, p1⟩ := Sp.pow_bd m hm1.2.1
                  have hc := Sp.Dec.bit_cell hq m hm1.2.1
                  have hzb := Sp.Dec.place_bd hq p0 (by omega)
                  have hgrow := bit_grow (m := m) hx0 hxa.out hzb.1 hzb.2
                  have hpm := fun w => RPow_any m (by omega) w
                  have hpa := fun w => RPow_any a (by omega) w
                  have ha20 : (2 : Int) ^ a ≤ 2 ^ 19 := by exact_mod_cast (Nat.pow_le_pow_right (by omega : 0 < 2) (by omega))
                  have ha0 : (0 : Int) < 2 ^ a := Int.pow_pos (by omega)
                  have ham : (2 : Int) ^ (a + m) ≤ 2 ^ 20 := by exact_mod_cast (Nat.pow_le_pow_right (by omega : 0 < 2) (by omega))
                  have hpl := fun w => RPlace_any hq (2 ^ m) (by omega) (by omega) w
                  have hta := fun w => RTake_any hq (by omega) hc w
                  have hq3 := Sp.Dec.take_ok hq hc
                  obtain ⟨A, hAA⟩ : ∃ A, (2 : Int) ^ a = A := ⟨_, rfl⟩
                  obtain ⟨p, hp⟩ : ∃ p, (2 : Int) ^ m = p := ⟨_, rfl⟩
                  rw [hAA] at ha20 ha0 hgrow
                  rw [hAA, hp] at hstep
                  rw [hp] at p0 p1 hzb hgrow hq3
                  simp only [hAA] at hpa
                  simp only [hp] at hpm hpl hta
                  obtain ⟨z, hz⟩ : ∃ z, q.place p = z := ⟨_, rfl⟩
                  rw [hz] at hzb hstep hgrow hq3
                  simp only [hz] at hpl hta
                  obtain ⟨q', hq'⟩ : ∃ q', q.take z 1 p = q' := ⟨_, rfl⟩
                  rw [hq'] at hstep hq3
                  simp only [hq'] at hta
                  have hmul0 : 0 ≤ z * A := Int.mul_nonneg hzb.1 (by omega)
                  obtain ⟨y, hy⟩ : ∃ y, z * A = y := ⟨_, rfl⟩
                  rw [hy] at hgrow hmul0 hstep
                  have hyb : x + y ≤ 1048576 := by omega
                  have hwr1 : IntKind.i64.wrap y = y := IntWalk.i64_in _ (by omega)
                  have hwr2 : IntKind.i64.wrap (x + y) = x + y := IntWalk.i64_in _ (by omega)
                  have HGR := Lib.hid hgrow.2
                  have HST := Lib.hid hstep
                  have HPM := Lib.hid hpm
                  have HPA := Lib.hid hpa
                  have HPL := Lib.hid hpl
                  have HTA := Lib.hid hta
                  have HAM := Lib.hid ham
                  clear hpm hpa hpl hta hstep hgrow hxa hbq hc hq hq' hz hp hAA ham p0 p1 ha20 ha0
                  go_wp2_with fail
                  refine (HPM.out _).mono ?_
                  rintro e w' ⟨rfl, rfl⟩
                  go_wp2_with (refine ld 87 rfl (by rfl) w_RDec rfl hD zz_ ?_)
                  refine (HPL.out _).mono ?_
                  rintro e w20 ⟨rfl, hb20⟩
                  replace hA := hA.newB hb20
                  replace hR1 := hR1.newB hb20
                  replace hR2 := hR2.newB hb20
                  replace hD := hD.newB hb20
                  replace hKs := hKs.newB hb20
                  replace hW := hW.newB hb20
                  replace hfar := hfar.trans (hb20.mono (by omega))
                  replace hsz := Nat.le_trans hsz hb20.size
                  go_wp2_with (refine ld 87 rfl (by rfl) w_RDec rfl hD zz_ ?_)
                  refine (HTA.out _).mono ?_
                  rintro e w21 ⟨rfl, hb21⟩
                  replace hA := hA.newB hb21
                  replace hR1 := hR1.newB hb21
                  replace hR2 := hR2.newB hb21
                  replace hD := hD.newB hb21
                  replace hKs := hKs.newB hb21
                  replace hW := hW.newB hb21
                  replace hfar := hfar.trans (hb21.mono (by omega))
                  replace hsz := Nat.le_trans hsz hb21.size
                  go_wp2_with (refine st 87 rfl (by rfl) w_RDec rfl rfl bk_ zz_ zz_ (rdec_one _) ?_)
                  refine (HPA.out _).mono ?_
                  rintro e w' ⟨rfl, rfl⟩
                  go_wp2_with fail
                  go_roundw
                  case rel => exact ⟨f, a + m, x + y, q', rfl, by go_num, by omega, by omega, by omega, by omega, by omega, Lib.hid (HGR.out), dec_mono hq3 (by omega), Lib.hid HST.out.symm, by exact bk_, by exact bk_, by exact bk_, by exact bk_, by exact bk_, by exact bk_, by exact bl_, by exact sz_⟩
                  case measure => simp [intOf]; omega
                · obtain rfl : a = vb := by omega
                  have hRR := hbq.out
                  rw [Nat.sub_self, Sp.Dec.bitF_zero] at hRR
                  have hnx := HNX.out
                  rw [HR.out, ← hRR] at hnx
                  obtain ⟨C, hC⟩ : ∃ C, Sp.cnt n kn = C := ⟨_, rfl⟩
                  rw [hC] at hcp hcb hnx
                  have hcnt := HCN.out
                  simp only [hC] at hcnt
                  have hm0 := Int.emod_nonneg x (show (C : Int) ≠ 0 by omega)
                  have hm1 := Int.emod_lt_of_pos x (show (0 : Int) < C by omega)
                  have hzt : x.tmod (C : Int) = x % (C : Int) := Int.tmod_eq_emod_of_nonneg hx0
                  have hC0 : ¬ C = 0 := by omega
                  obtain ⟨z, hz⟩ : ∃ z, x % (C : Int) = z := ⟨_, rfl⟩
                  rw [hz] at hm0 hm1 hzt hnx
                  have hvec := fun w => HVEC.out z hm0 (by rw [hC]; exact hm1) w
                  have hvok := (HVO.out z hm0 (by rw [hC]; exact hm1)).2
                  have hvln := HVL.out z
                  obtain ⟨Vc, hVc⟩ : ∃ V, Sp.vec n kn z = V := ⟨_, rfl⟩
                  rw [hVc] at hvok hvln hnx
                  simp only [hVc] at hvec
                  have HVC := Lib.hid hvec
                  have HCNT := Lib.hid hcnt
                  have HNX2 := Lib.hid hnx
                  have HVOK := Lib.hid hvok
                  have ck3 := (hKs.cell b).trans (by rw [arr_get (by have := LK.out; omega), hkn])
                  clear hRR hnx hC hcnt hz hvec hVc hbq hvok HVEC HNX HCN HVO HVL HR
                  go_upto_region 26 with (fail)
                  go_cut [22] from 110 to 125 (fun s22 wx => Row wx 3 s22 (intsV Vc) ∧ Hid (∀ i, s22.ownBlock = some i → g2 + 2 ≤ i) ∧ Blk wx B (arrV V) 23 ∧ Blk wx (B + 1) (arrV (zs 4)) 23 ∧ Blk wx (B + 1 + 1) (arrV (zs 16)) 22 ∧ Blk wx g (rdecC q) 87 ∧ Blk wx g2 (arrV ks) 23 ∧ Blk wx (g2 + 1) (arrV wb) 22 ∧ Below B w wx ∧ g2 + 2 ≤ wx.heap.size)
                  case first =>
                    refine wp_region_held_drew (S := fun W => Blk W (B) (arrV V) 23 ∧ Blk W (B + 1) (arrV (zs 4)) 23 ∧ Blk W (B + 1 + 1) (arrV (zs 16)) 22 ∧ Blk W (g) (rdecC q) 87 ∧ Blk W (g2) (arrV ks) 23 ∧ Blk W (g2 + 1) (arrV wb) 22 ∧ Below (B) w W ∧ g2 + 2 ≤ W.heap.size) (by kernel_rfl) (⟨hA.drew, hR1.drew, hR2.drew, hD.drew, hKs.drew, hW.drew, hfar.drew, hsz⟩) (fun hH => ?_)
                    have hH2 := hH
                    obtain ⟨hA, hR1, hR2, hD, hKs, hW, hfar, hsz⟩ := hH2
                    refine wpAnyH_take (i := 0) (oi := { dst := some 110, op := Op.move (Operand.tmp 15), type := 3, pos := "ref.go:56", after := _, guard := none }) (v := _) rfl (by kernel_rfl) (by kernel_rfl) (by kernel_rfl) (fun _ _ _ h => h) (.inl ⟨by rfl, fun w hS => by (go_simp; try rfl)⟩) hH ?_
                    try simp only [Act.put, List.setIfInBounds_toArray, List.set_cons_zero, List.set_cons_succ]
                    refine wpAnyH_take (i := 1) (oi := { dst := some 111, op := Op.move (Operand.tmp 14), type := 3, pos := "ref.go:56", after := _, guard := none }) (v := _) rfl (by kernel_rfl) (by kernel_rfl) (by kernel_rfl) (fun _ _ _ h => h) (.inl ⟨by rfl, fun w hS => by (go_simp; try rfl)⟩) hH ?_
                    try simp only [Act.put, List.setIfInBounds_toArray, List.set_cons_zero, List.set_cons_succ]
                    refine wpAnyH_take (i := 2) (oi := { dst := some 112, op := Op.binOp BinOp.sub 3 (Operand.tmp 110) (Operand.tmp 111) 3, type := 3, pos := "ref.go:56", after := _, guard := none }) (v := _) rfl (by kernel_rfl) (by kernel_rfl) (by kernel_rfl) (fun _ _ _ h => h) (.inl ⟨by rfl, fun w hS => by (go_simp; try rfl)⟩) hH ?_
                    try simp only [Act.put, List.setIfInBounds_toArray, List.set_cons_zero, List.set_cons_succ]
                    refine wpAnyH_take (i := 3) (oi := { dst := some 113, op := Op.move (Operand.tmp 13), type := 3, pos := "ref.go:56", after := _, guard := none }) (v := _) rfl (by kernel_rfl) (by kernel_rfl) (by kernel_rfl) (fun _ _ _ h => h) (.inl ⟨by rfl, fun w hS => by (go_simp; try rfl)⟩) hH ?_
                    try simp only [Act.put, List.setIfInBounds_toArray, List.set_cons_zero, List.set_cons_succ]
                    refine wpAnyH_take (i := 4) (oi := { dst := some 114, op := Op.indexAddr 23 (Operand.tmp 11) (Operand.tmp 113), type := 0, pos := "ref.go:56", after := _, guard := none }) (v := _) rfl (by kernel_rfl) (by kernel_rfl) (by kernel_rfl) (fun _ _ _ h => h) (.inl ⟨by rfl, fun w hS => by (go_simp; try rfl)⟩) hH ?_
                    try simp only [Act.put, List.setIfInBounds_toArray, List.set_cons_zero, List.set_cons_succ]
                    refine wpAnyH_take (i := 5) (oi := { dst := some 115, op := Op.load 3 (Operand.tmp 114), type := 3, pos := "ref.go:56", after := _, guard := none }) (v := _) rfl (by kernel_rfl) (by kernel_rfl) (by kernel_rfl) (fun _ _ _ h => h) (.inl ⟨by rfl, fun w hS => by (have c := ((hS.2.2.2.2.1.cell b).trans (by rw [arr_get (by have := LK.out; omega), hkn])); go_simp; try rfl)⟩) hH ?_
                    try simp only [Act.put, List.setIfInBounds_toArray, List.set_cons_zero, List.set_cons_succ]
                    refine wpAnyH_take (i := 6) (oi := { dst := some 116, op := Op.move (Operand.tmp 17), type := 3, pos := "ref.go:56", after := _, guard := none }) (v := _) rfl (by kernel_rfl) (by kernel_rfl) (by kernel_rfl) (fun _ _ _ h => h) (.inl ⟨by rfl, fun w hS => by (go_simp; try rfl)⟩) hH ?_
                    try simp only [Act.put, List.setIfInBounds_toArray, List.set_cons_zero, List.set_cons_succ]
                    refine wpAnyH_take (i := 7) (oi := { dst := some 117, op := Op.move (Operand.tmp 15), type := 3, pos := "ref.go:56", after := _, guard := none }) (v := _) rfl (by kernel_rfl) (by kernel_rfl) (by kernel_rfl) (fun _ _ _ h => h) (.inl ⟨by rfl, fun w hS => by (go_simp; try rfl)⟩) hH ?_
                    try simp only [Act.put, List.setIfInBounds_toArray, List.set_cons_zero, List.set_cons_succ]
                    refine wpAnyH_take (i := 8) (oi := { dst := some 118, op := Op.move (Operand.tmp 14), type := 3, pos := "ref.go:56", after := _, guard := none }) (v := _) rfl (by kernel_rfl) (by kernel_rfl) (by kernel_rfl) (fun _ _ _ h => h) (.inl ⟨by rfl, fun w hS => by (go_simp; try rfl)⟩) hH ?_
                    try simp only [Act.put, List.setIfInBounds_toArray, List.set_cons_zero, List.set_cons_succ]
                    refine wpAnyH_take (i := 9) (oi := { dst := some 119, op := Op.binOp BinOp.sub 3 (Operand.tmp 117) (Operand.tmp 118) 3, type := 3, pos := "ref.go:56", after := _, guard := none }) (v := _) rfl (by kernel_rfl) (by kernel_rfl) (by kernel_rfl) (fun _ _ _ h => h) (.inl ⟨by rfl, fun w hS => by (go_simp; try rfl)⟩) hH ?_
                    try simp only [Act.put, List.setIfInBounds_toArray, List.set_cons_zero, List.set_cons_succ]
                    refine wpAnyH_take (i := 10) (oi := { dst := some 120, op := Op.move (Operand.tmp 13), type := 3, pos := "ref.go:56", after := _, guard := none }) (v := _) rfl (by kernel_rfl) (by kernel_rfl) (by kernel_rfl) (fun _ _ _ h => h) (.inl ⟨by rfl, fun w hS => by (go_simp; try rfl)⟩) hH ?_
                    try simp only [Act.put, List.setIfInBounds_toArray, List.set_cons_zero, List.set_cons_succ]
                    refine wpAnyH_take (i := 11) (oi := { dst := some 121, op := Op.indexAddr 23 (Operand.tmp 11) (Operand.tmp 120), type := 0, pos := "ref.go:56", after := _, guard := none }) (v := _) rfl (by kernel_rfl) (by kernel_rfl) (by kernel_rfl) (fun _ _ _ h => h) (.inl ⟨by rfl, fun w hS => by (go_simp; try rfl)⟩) hH ?_
                    try simp only [Act.put, List.setIfInBounds_toArray, List.set_cons_zero, List.set_cons_succ]
                    refine wpAnyH_take (i := 12) (oi := { dst := some 122, op := Op.load 3 (Operand.tmp 121), type := 3, pos := "ref.go:56", after := _, guard := none }) (v := _) rfl (by kernel_rfl) (by kernel_rfl) (by kernel_rfl) (fun _ _ _ h => h) (.inl ⟨by rfl, fun w hS => by (have c := ((hS.2.2.2.2.1.cell b).trans (by rw [arr_get (by have := LK.out; omega), hkn])); go_simp; try rfl)⟩) hH ?_
                    try simp only [Act.put, List.setIfInBounds_toArray, List.set_cons_zero, List.set_cons_succ]
                    refine wpAnyH_ready (rs := [13]) (by kernel_rfl) (by simp) ?_
                    refine AllReadyH.cons (o := { dst := some 123, op := Op.call { callee := Callee.value (Operand.func 54), args := #[Operand.tmp 119, Operand.tmp 122], argTypes := #[3, 3] }, type := 3, pos := "ref.go:56", after := _, guard := none }) rfl (fun K hK => ?_) AllReadyH.nil
                    rw [if_pos (by rfl)]
                    go_simp
                    refine (HCNT.out _).mono ?_
                    rintro r wq ⟨rfl, hb⟩
                    have hbs := hb.size
                    try simp only [World.size_alloc, World.size_setCell, World.size_drew, size_setRow] at hbs
                    go_wp2_with fail
                    refine hK.out _ _ ⟨bk_, bk_, bk_, bk_, bk_, bk_, bl_, Nat.le_trans (sz_) hb.size⟩ (fun hH2 => ?_)
                    clear hH
                    have hH := hH2
                    obtain ⟨hA, hR1, hR2, hD, hKs, hW, hfar, hsz⟩ := hH2
                    clear hK K
                    try simp only [Act.put, List.setIfInBounds_toArray, List.set_cons_zero, List.set_cons_succ]
                    refine wpAnyH_take (i := 14) (oi := { dst := some 124, op := Op.binOp BinOp.rem 3 (Operand.tmp 116) (Operand.tmp 123) 3, type := 3, pos := "ref.go:56", after := _, guard := none }) (v := _) rfl (by kernel_rfl) (by kernel_rfl) (by kernel_rfl) (fun _ _ _ h => h) (.inl ⟨by rfl, fun w hS => by (go_simp; try rfl)⟩) hH ?_
                    try simp only [Act.put, List.setIfInBounds_toArray, List.set_cons_zero, List.set_cons_succ]
                    refine wpAnyH_ready (rs := [15]) (by kernel_rfl) (by simp) ?_
                    refine AllReadyH.cons (o := { dst := some 125, op := Op.call { callee := Callee.value (Operand.func 53), args := #[Operand.tmp 112, Operand.tmp 115, Operand.tmp 124], argTypes := #[3, 3, 3] }, type := 83, pos := "ref.go:56", after := _, guard := none }) rfl (fun K hK => ?_) AllReadyH.nil
                    rw [if_pos (by rfl)]
                    go_simp
                    refine (HVC.out _).mono ?_
                    rintro r wq ⟨v5, rfl, hv5, hb, hown⟩
                    have hbs := hb.size
                    try simp only [World.size_alloc, World.size_setCell, World.size_drew, size_setRow] at hbs
                    go_wp2_with fail
                    refine hK.out _ _ ⟨bk_, bk_, bk_, bk_, bk_, bk_, bl_, Nat.le_trans (sz_) hb.size⟩ (fun hH2 => ?_)
                    clear hH
                    have hH := hH2
                    obtain ⟨hA, hR1, hR2, hD, hKs, hW, hfar, hsz⟩ := hH2
                    clear hK K
                    try simp only [Act.put, List.setIfInBounds_toArray, List.set_cons_zero, List.set_cons_succ]
                    refine wpAnyH_take (i := 16) (oi := { dst := some 22, op := Op.assign (Operand.tmp 125), type := 83, pos := "ref.go:56", after := _, guard := none }) (v := _) rfl (by kernel_rfl) (by kernel_rfl) (by kernel_rfl) (fun _ _ _ h => h) (.inl ⟨by rfl, fun w hS => by (go_simp; try rfl)⟩) hH ?_
                    try simp only [Act.put, List.setIfInBounds_toArray, List.set_cons_zero, List.set_cons_succ]
                    refine wpAnyH_done (by kernel_rfl) ?_ _
                    go_wp2_with fail
                    go_meet
                    case rel => exact ⟨by repeat' (first | (with_reducible assumption) | (with_reducible refine Row.drew ?_) | (with_reducible refine Row.drewN ?_ _) | (with_reducible refine Row.alloc ?_ _) | ((with_reducible refine Row.far ?_ _ ?ne _); case ne => (first | (with_reducible assumption) | (simp only []; assumption)))), Lib.hid (fun i hi => by have := hown.out i hi; omega), by exact bk_, by exact bk_, by exact bk_, by exact bk_, by exact bk_, by exact bk_, by exact bl_, by exact sz_⟩
                  case rest =>
                    clear hA hR1 hR2 hD hKs hW hfar hsz ck3
                    obtain ⟨hRow, hown, hA, hR1, hR2, hD, hKs, hW, hfar, hsz⟩ := hcut
                    have cl2 := (hA.cell b).trans (by rw [arr_get (by have := LV.out; omega), hlev])
                    have hfi := fun w v (hS : SliceI w v Vc) => RFill_any lev (by omega) Vc v w hS (by rw [hvln]; omega) HVOK.out
                    have hFl : (fillL lev Vc).length = n := by rw [fillL_len, hvln]
                    have hnx := HNX2.out
                    obtain ⟨Fl, hFle⟩ : ∃ F, fillL lev Vc = F := ⟨_, rfl⟩
                    rw [hFle] at hFl hnx
                    simp only [hFle] at hfi
                    have HFI := Lib.hid hfi
                    have HNX3 := Lib.hid hnx
                    have HFL := Lib.hid hFl
                    clear HNX2 hfi hnx hFle hFl
                    go_wp2_with fail
                    refine (HFI.out _ _ hRow.sliceI).mono ?_
                    rintro e wF ⟨vF, rfl, hRF, hbF, hownF⟩
                    have hsz0 := hsz
                    replace hA := hA.newB hbF
                    replace hR1 := hR1.newB hbF
                    replace hR2 := hR2.newB hbF
                    replace hD := hD.newB hbF
                    replace hKs := hKs.newB hbF
                    replace hW := hW.newB hbF
                    replace hfar := hfar.trans (hbF.mono (by omega))
                    replace hsz := Nat.le_trans hsz hbF.size
                    obtain ⟨pF, cF, rfl, hSF⟩ := SL.own (row_rebase hRF (lo := g2 + 2) (fun i hi => by have := hownF.out i hi; clear hsz; omega))
                    have hln : (intsV Fl).length = n := by rw [List.length_map, HFL.out]
                    rw [hln] at hSF ⊢
                    obtain ⟨gF, fF, rfl⟩ := sl_some hSF (by omega)
                    obtain ⟨hF, hFe⟩ : ∃ x, wF.heap.size = x := ⟨_, rfl⟩
                    rw [hFe] at hSF
                    have hsz2 : hF ≤ wF.heap.size := by omega
                    have hFg : g2 + 2 ≤ hF := by omega
                    have hncF : n ≤ cF := hSF.2.1
                    have hmxF : cF ≤ maxLen := hSF.2.2.1
                    clear hRow hown hRF hbF hownF hln hFe hsz hsz0
                    go_wp2_with fail
                    go_loopw [24] (fun i wr => ∃ j : Nat, j ≤ n ∧ i = .int .i64 (o + j : Nat) ∧ Blk wr B (arrV V) 23 ∧ Blk wr (B + 1) (arrV (zs 4)) 23 ∧ Blk wr (B + 1 + 1) (arrV (zs 16)) 22 ∧ Blk wr g (rdecC q) 87 ∧ Blk wr g2 (arrV ks) 23 ∧ Blk wr (g2 + 1) (arrV (putP wb Fl o j)) 22 ∧ SL wr (g2 + 2) hF 1 (some ⟨gF, fF, none⟩) n cF (intsV Fl) ∧ Below B w wr ∧ hF ≤ wr.heap.size) (fun i _ => o + n - (intOf i).toNat)
                    case atStart => exact ⟨0, by omega, rfl, hA, hR1, hR2, hD, hKs, by rw [putP_zero]; exact hW, hSF, hfar, hsz2⟩
                    case round =>
                      clear hA hR1 hR2 hD hKs hW hSF hfar hsz2
                      obtain ⟨j, hj, rfl, hA, hR1, hR2, hD, hKs, hW, hSF, hfar, hsz2⟩ := hrel
                      by_cases hlt3 : j < n
                      · have hlj : ((o + j : Nat) : Int) < (e0 : Int) := by omega
                        have hset := putP_set (l := wb) (c := Fl) (o := o) (j := j) (by rw [HFL.out, hwl]; exact hON) (by rw [HFL.out]; exact hlt3)
                        have hpl := putP_len (l := wb) (c := Fl) (o := o) (j := j) (by rw [HFL.out, hwl]; exact hON) (by rw [HFL.out]; omega)
                        rw [hwl] at hpl
                        obtain ⟨T, hT⟩ : ∃ T, putP wb Fl o j = T := ⟨_, rfl⟩
                        rw [hT] at hset hpl hW
                        obtain ⟨x, hx⟩ : ∃ x, Fl.getD j 0 = x := ⟨_, rfl⟩
                        rw [hx] at hset
                        have c1 := hSF.2.2.2.2.2.2 ⟨gF, fF, none⟩ rfl j _ (ints_get (by rw [HFL.out]; exact hlt3))
                        rw [hx] at c1
                        obtain ⟨i, hi⟩ : ∃ i, o + j = i := ⟨_, rfl⟩
                        rw [hi] at hlj hset
                        have c2 := (hW.cell i).trans (arr_get (l := T) (by omega))
                        have f2 := hW.frozen i
                        have hdi : (i : Int) - (o : Int) = (j : Int) := by omega
                        have hwj : IntKind.i64.wrap (j : Int) = (j : Int) := IntWalk.i64_in _ (by omega)
                        have hi16 : i < 16 := by omega
                        have HSET := Lib.hid hset
                        have HI := Lib.hid hi
                        have hgne : g2 + 1 ≠ gF := by have := (hSF.2.2.2.2.2.1 _ rfl).2.1; simp only at this; omega
                        rw [hi]
                        clear hset hT hx hi
                        go_wp2_with fail
                        go_roundw
                        case rel => exact ⟨j + 1, hlt3, by have := HI.out; go_num, by exact bk_, by exact bk_, by exact bk_, by exact bk_, by exact bk_, by rw [← HSET.out]; exact bk_, by exact sl_, by exact bl_, by exact sz_⟩
                        case measure => simp [intOf]; omega
                      · obtain rfl : j = n := by omega
                        have hpa := putP_all wb Fl o
                        rw [HFL.out] at hpa
                        rw [hpa] at hW
                        have hje : ((o + j : Nat) : Int) = (e0 : Int) := by omega
                        simp only [hje]
                        go_wp2_with fail
                        go_roundw
                        case rel => exact ⟨b + 1, hlt, by go_num, hA, hR1, hR2, by rw [HNX3.out]; exact hD, hKs, by rw [HNX3.out]; exact hW, hfar, by omega⟩
                        case measure => simp [intOf]; omega
          · obtain rfl : b = 4 := by omega
            have LW := Len.mk (HBO.out 4 (by omega)).len
            have hwv := HWV2.out
            rw [← hwv] at hW LW
            clear hwv HBO HWV2
            go_upto_region 32 with (fail)
            refine wp_region_held_drew (S := fun W => Blk W (B) (arrV V) 23 ∧ Blk W (g2) (arrV ks) 23 ∧ Blk W (g2 + 1) (arrV Wv) 22 ∧ Below (B) w W ∧ g2 + 2 ≤ W.heap.size) (by kernel_rfl) (⟨hA.drew, hKs.drew, hW.drew, hfar.drew, hsz⟩) (fun hH => ?_)
            have hH2 := hH
            obtain ⟨hA, hKs, hW, hfar, hsz⟩ := hH2
            refine wpAnyH_take (i := 0) (oi := { dst := some 145, op := Op.load 23 (Operand.tmp 2), type := 23, pos := "ref.go:62", after := _, guard := none }) (v := .agg (arrV V)) rfl (by kernel_rfl) (by kernel_rfl) (by kernel_rfl) (fun _ _ _ h => h) (yieldsIf_ld (by rfl) 23 rfl w_Four rfl (fun _ hS => hS.1) zz_) hH ?_
            try simp only [Act.put, List.setIfInBounds_toArray, List.set_cons_zero, List.set_cons_succ]
            refine wpAnyH_take (i := 1) (oi := { dst := some 146, op := Op.load 22 (Operand.tmp 12), type := 22, pos := "ref.go:62", after := _, guard := none }) (v := .agg (arrV Wv)) rfl (by kernel_rfl) (by kernel_rfl) (by kernel_rfl) (fun _ _ _ h => h) (yieldsIf_ld (by rfl) 22 rfl w_Sixteen rfl (fun _ hS => hS.2.2.1) zz_) hH ?_
            try simp only [Act.put, List.setIfInBounds_toArray, List.set_cons_zero, List.set_cons_succ]
            refine wpAnyH_ready (rs := [2]) (by kernel_rfl) (by simp) ?_
            refine AllReadyH.cons (o := { dst := none, op := Op.store 23 (Operand.tmp 4) (Operand.tmp 145), type := 0, pos := "ref.go:62", after := _, guard := none }) rfl (fun K hK => ?_) AllReadyH.nil
            rw [if_pos (by rfl)]
            refine wp_st 23 rfl w_Four rfl rfl bk_ zz_ zz_ one_ ?_
            refine hK.out _ _ ⟨bk_, bk_, bk_, bl_, sz_⟩ (fun hH2 => ?_)
            clear hH
            have hH := hH2
            obtain ⟨hA, hKs, hW, hfar, hsz⟩ := hH2
            clear hK K
            try simp only [Act.put]
            refine wpAnyH_ready (rs := [3]) (by kernel_rfl) (by simp) ?_
            refine AllReadyH.cons (o := { dst := none, op := Op.store 22 (Operand.tmp 5) (Operand.tmp 146), type := 0, pos := "ref.go:62", after := _, guard := none }) rfl (fun K hK => ?_) AllReadyH.nil
            rw [if_pos (by rfl)]
            refine wp_st 22 rfl w_Sixteen rfl rfl bk_ zz_ zz_ one_ ?_
            refine hK.out _ _ ⟨bk_, bk_, bk_, bl_, sz_⟩ (fun hH2 => ?_)
            clear hH
            have hH := hH2
            obtain ⟨hA, hKs, hW, hfar, hsz⟩ := hH2
            clear hK K
            try simp only [Act.put]
            refine wpAnyH_done (by kernel_rfl) ?_ _
            go_wp2_with fail
            exact bodyPost_ret (v := .tuple #[.agg (arrV V), .agg (arrV Wv)]) (res_cc Tryz.results9 rfl w_Four (by exact bk_) LV.sz rfl w_Sixteen (by exact bk_) LW.sz) rfl ⟨rfl, (by (try rw [hB]); exact bl_)⟩
end Go.Proofs.YtmfihaaiddolmaaGreatDoor
