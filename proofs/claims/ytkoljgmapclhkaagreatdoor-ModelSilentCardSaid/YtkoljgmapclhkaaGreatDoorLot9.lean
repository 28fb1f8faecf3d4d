/- The walk of shape.Find: pulses given to waves. The walks of vect.Pulses and vect.Number. The walk of enc.held: waves brought into their range, in the slice that they lie in. The walks of the range coder's reference (spoolref07). The walks of the range coder's reference (spoolref07): its beginning, what it has used, what a cell is; lengths and powers. The walks of the range coder's reference (spoolref07): what a cell is, the end. The walk of the range encoder's end. -/
import Derived.Test.YtkoljgmapclhkaaGreatDoorLot8
import Derived.Test.YtkoljgmapclhkaaGreatDoorLot7
import Derived.Test.YtkoljgmapclhkaaGreatDoorLot0
import Derived.Test.YtkoljgmapclhkaaGreatDoorShelf
import Derived.Test.YtkoljgmapclhkaaGreatDoorLot1
import Derived.WalkSmall
import Derived.Deep.RegionHeld3
set_option linter.unusedSimpArgs false
set_option linter.unusedVariables false
namespace Go.Proofs.YtkoljgmapclhkaaGreatDoor
open Go.RowKit

theorem made_zs (n : Nat) : madeCells #[.int .i64 0] n = arrV (zs n) := by
  apply Array.ext'
  have e : (fun x : Nat => ([Value.int IntKind.i64 0] : List Value)[x % 1]?.getD default) = fun _ => Value.int IntKind.i64 0 := by funext x; rw [Nat.mod_one]; rfl
  simp [madeCells, arrV, intsV, Go.Proofs.YtkoljgmapclhkaaGreatDoor.zs, e, List.map_const']
theorem turnF_get {f o : List Int} {n k : Nat} (h : f.length = n) (hk : k < n) : (turnF f o k).getD k 0 = o.getD k 0 := by
  unfold turnF
  have hl : (f.take k).length = k := by rw [List.length_take]; omega
  rw [List.getD_eq_getElem?_getD, List.getElem?_append_right (by omega), hl, Nat.sub_self, List.getElem?_drop, Nat.add_zero, ← List.getD_eq_getElem?_getD]
theorem turnF_same {f o : List Int} {n k : Nat} (h : f.length = n) (ho : o.length = n) (hk : k < n) (hx : f.getD k 0 = o.getD k 0) : turnF f o (k + 1) = turnF f o k := by
  rw [← turnF_set h ho hk rfl, hx, ← turnF_get (f := f) (o := o) h hk]
  have hlen := (turnF_len (k := k) h ho (Nat.le_of_lt hk)).out
  apply List.ext_getElem?
  intro j
  rw [List.getElem?_set]
  split
  · next e =>
    subst e
    rw [if_pos (by omega), List.getD_eq_getElem?_getD, List.getElem?_eq_getElem (by omega)]; rfl
  · rfl
/-- Memory while pulses are given. -/
structure FindW (w wr : World) (B gy g o n cap lo hi : Nat) (cl : List Int) (p : Puls) : Prop where
  c : Blk wr B #[.slice (some ⟨g, o, none⟩) n cap] 48
  s : SL wr lo hi 1 (some ⟨g, o, none⟩) n cap (intsV cl)
  y : Blk wr gy (arrV p.y) 3
  yc : Blk wr (gy + 1) #[.slice (some ⟨gy, 0, none⟩) n n] 48
  a : Blk wr (gy + 1 + 1) #[.int .i64 p.a] 3
  q : Blk wr (gy + 1 + 1 + 1) #[.int .i64 p.q] 3
  far : Below B w wr
  size : gy + 4 ≤ wr.heap.size
theorem FindW.newB {w wr w' : World} {B gy g o n cap lo hi : Nat} {c : List Int} {p : Puls} (h : FindW w wr B gy g o n cap lo hi c p) (hb : Below wr.heap.size wr w') (hB : B ≤ gy) : FindW w w' B gy g o n cap lo hi c p :=
  ⟨h.c.newB hb, h.s.newB hb, h.y.newB hb, h.yc.newB hb, h.a.newB hb, h.q.newB hb, h.far.trans (hb.mono (by have := h.size; omega)), Nat.le_trans h.size hb.size⟩
theorem FindW.drew {w wr : World} {B gy g o n cap lo hi : Nat} {c : List Int} {p : Puls} (h : FindW w wr B gy g o n cap lo hi c p) : FindW w wr.drew B gy g o n cap lo hi c p :=
  ⟨h.c.drew, h.s.drew, h.y.drew, h.yc.drew, h.a.drew, h.q.drew, h.far.drew, h.size⟩
theorem sbest_n (c y : List Int) (a q : Int) {n i : Nat} (h1 : 1 ≤ n) (hi : i ≤ n) : sbest c y a q i < n := by
  rcases Nat.eq_zero_or_pos i with rfl | h0
  · show 0 < n; omega
  · have := sbest_lt c y a q (n := i) h0; omega
theorem topV_bd {c : List Int} (hc : ∀ x ∈ c, -1048576 ≤ x ∧ x ≤ 1048576) {a : Int} (h0 : 0 ≤ a) (h1 : a ≤ 8388608) (i : Nat) : 0 ≤ topV c a i ∧ topV c a i ≤ 89060441849856 := by
  have h := absAt_bd hc i
  unfold topV
  have hm := abs_mul_bd (x := a + absAt c i) (y := a + absAt c i) (A := 9437184) (B := 9437184) (by decide) (by decide) (by omega) (by omega)
  have hn := Int.mul_nonneg (a := a + absAt c i) (b := a + absAt c i) (by omega) (by omega)
  exact ⟨hn, hm.2⟩
theorem botV_bd {y : List Int} (hy : ∀ x ∈ y, 0 ≤ x ∧ x ≤ 8) {q : Int} (h0 : 0 ≤ q) (h1 : q ≤ 100) (i : Nat) : 0 ≤ botV y q i ∧ botV y q i ≤ 200 := by
  unfold botV
  rw [List.getD_eq_getElem?_getD]
  cases h : y[i]? with
  | none => simp; omega
  | some x => have := hy x (List.mem_of_getElem? h); simp only [Option.getD_some]; omega
set_option maxRecDepth 100000 in
set_option maxHeartbeats 16000000 in
theorem SFind_any (c : List Int) (hc : ∀ x ∈ c, -1048576 ≤ x ∧ x ≤ 1048576) (n : Nat) (hn : c.length = n) (h1 : 1 ≤ n) (h8 : n ≤ 8) (k : Nat) (hk : k ≤ 8) (pp : Option Addr) (cap lo hi : Nat) (w : World) (hS : SL w lo hi 1 pp n cap (intsV c)) :
    Calls Tryz.prog 92 #[.slice pp n cap, .int .i64 k] w fun e w' => ∃ v, e = .returned (.tuple #[v, .int .i64 0]) ∧ Nums w' w.heap.size v (findL c k) ∧ Below w.heap.size w w' := by
  obtain ⟨g, o, rfl⟩ := sl_someE hS h1
  have hcap := hS.2.1
  have hcm := hS.2.2.1
  unfold maxLen at hcm
  have hhi := hS.2.2.2.1
  have hPO := fun t => fpul_ok hc (by omega) t
  have hri := fun W (h : SL W lo hi 1 (some ⟨g, o, none⟩) n cap (intsV c)) => shright_yes c hc (by omega) (by omega) k hk (.slice (some ⟨g, o, none⟩) c.length cap) W ⟨some ⟨g, o, none⟩, cap, rfl, by omega, by omega, fun j x hx => ⟨g, o, rfl, by
    have hj := (List.getElem?_eq_some_iff.1 hx).1
    have h2 := h.2.2.2.2.2.2 _ rfl j (.int .i64 x) (by rw [List.getElem?_map, hx]; rfl)
    exact h2⟩⟩
  rw [hn] at hri
  have hmk : ∀ w, (Instr.makeSlice 48 (.int .i64 (n : Int)) (.int .i64 (n : Int))).run Tryz.prog w = .ok (.slice (some ⟨w.heap.size, 0, none⟩) n n) (w.alloc (.cells (arrV (zs n)) 3)) := fun w => by
    have h := run_make_row' (P := Tryz.prog) 48 3 (.int .i64 0) 8 Tryz.underlying48 madeI rfl .i64 .i64 n (by omega) (by omega) w
    rw [h, ← made_zs]
  obtain ⟨FR, hFR⟩ : ∃ x, findL c k = x := ⟨_, rfl⟩
  rw [hFR]
  have HFR := Lib.hid hFR
  clear hFR
  have HPO := Lib.hid hPO
  have HRI := Lib.hid hri
  have HMK := Lib.hid hmk
  have HC := Lib.hid hc
  have HN := Lib.hid hn
  clear hPO hri hmk hc hn
  obtain ⟨B, hB⟩ : ∃ B, w.heap.size = B := ⟨_, rfl⟩
  rw [hB] at hhi
  have hfar := Below.refl B w
  have hsz : B ≤ w.heap.size := by omega
  go_enter Tryz.func92, Tryz.ntmps92
  go_upto_region 1 with (fail)
  refine wp_gen (fun W => SL W (lo) (hi) (1) (some ⟨g, o, none⟩) (n) (cap) (intsV c) ∧ Blk W (B) (#[.slice (some ⟨g, o, none⟩) n cap]) 48 ∧ Below (B) w W ∧ B + 1 ≤ W.heap.size) ⟨sl_, bk_, bl_, sz_⟩ ?_
  clear hS hfar hsz
  rintro w1 ⟨hS, hCc, hfar, hsz⟩
  have c0 := hCc.cell 0
  simp only [List.getElem?_toArray, List.getElem?_cons_zero] at c0
  go_wp2_with fail
  refine (HRI.out _ hS).mono ?_
  rintro e w' ⟨rfl, rfl⟩
  obtain ⟨gy, hgy⟩ : ∃ x, w1.heap.size = x := ⟨_, rfl⟩
  have hBy : B + 1 ≤ gy := by omega
  have hmk := HMK.out w1
  go_upto_region 5 with (fail)
  have hP0 : fpul c 0 = ⟨zs n, 0, 0⟩ := by rw [← HN.out]; rfl
  refine wp_gen (fun W => SL W (lo) (hi) (1) (some ⟨g, o, none⟩) (n) (cap) (intsV c) ∧ Blk W (B) (#[.slice (some ⟨g, o, none⟩) n cap]) 48 ∧ Blk W (gy) (arrV (zs n)) 3 ∧ Blk W (gy + 1) (#[.slice (some ⟨gy, 0, none⟩) n n]) 48 ∧ Blk W (gy + 1 + 1) (#[.int .i64 0]) 3 ∧ Blk W (gy + 1 + 1 + 1) (#[.int .i64 0]) 3 ∧ Below (B) w W ∧ gy + 4 ≤ W.heap.size) ⟨sl_, bk_, bk_, bk_, bk_, bk_, bl_, sz_⟩ ?_
  clear hS hCc hfar hsz
  rintro w2 ⟨hS, hCc, hY, hYc, hAa, hQ, hfar, hsz⟩
  have hF : FindW w w2 B gy g o n cap lo hi c (fpul c 0) := by rw [hP0]; exact ⟨hCc, hS, hY, hYc, hAa, hQ, hfar, hsz⟩
  clear c0 hmk hY hYc hAa hQ hCc hS hfar hsz hP0
  have hf1 := fun t (ht : t ≤ 8) j (hj : j < n) W (h : FindW w W B gy g o n cap lo hi c (fpul c t)) => Find1_any c HC.out g o cap lo hi (gy + 1 + 1) B (fpul c t).a (HPO.out t).a0 (by have := (HPO.out t).a1; omega) j (by rw [HN.out]; exact hj) W (by rw [HN.out]; exact h.s) h.a (by rw [HN.out]; exact h.c)
  have hf2 := fun t (ht : t ≤ 8) j (hj : j < n) W (h : FindW w W B gy g o n cap lo hi c (fpul c t)) => Find2_any (fpul c t).y (fun x hx => by have := (HPO.out t).nn x hx; omega) (gy + 1 + 1 + 1) gy (gy + 1) n (by rw [(HPO.out t).len, HN.out]) (fpul c t).q (HPO.out t).q0 (by have h1 := (HPO.out t).q1; have h2 : (t : Int) * t ≤ 8 * 8 := Int.mul_le_mul (by omega) (by omega) (by omega) (by omega); omega) j hj h8 W h.q h.yc h.y
  have HF1 := Lib.hid hf1
  have HF2 := Lib.hid hf2
  clear hf1 hf2
  go_wp2_with fail
  go_loopw [25] (fun i wr => ∃ t : Nat, t ≤ k ∧ i = .int .i64 t ∧ FindW w wr B gy g o n cap lo hi c (fpul c t)) (fun i _ => k - (intOf i).toNat)
  case atStart => exact ⟨0, by omega, rfl, hF⟩
  case round =>
    clear hF
    obtain ⟨t, ht, rfl, hF⟩ := hrel
    by_cases hlt : t < k
    · have hlti : (t : Int) < (k : Int) := by omega
      have c0 := hF.c.cell 0
      simp only [List.getElem?_toArray, List.getElem?_cons_zero] at c0
      have hP := HPO.out t
      have hn1 := HF1.out t (by omega)
      have hn2 := HF2.out t (by omega)
      have hnx : fpul c (t + 1) = ⟨(fpul c t).y.set (sbest c (fpul c t).y (fpul c t).a (fpul c t).q c.length) ((fpul c t).y.getD (sbest c (fpul c t).y (fpul c t).a (fpul c t).q c.length) 0 + 1), (fpul c t).a + absAt c (sbest c (fpul c t).y (fpul c t).a (fpul c t).q c.length), botV (fpul c t).y (fpul c t).q (sbest c (fpul c t).y (fpul c t).a (fpul c t).q c.length)⟩ := rfl
      rw [HN.out] at hnx
      obtain ⟨P, hPe⟩ : ∃ P, fpul c t = P := ⟨_, rfl⟩
      rw [hPe] at hP hnx hF
      simp only [hPe] at hn1 hn2
      obtain ⟨y, a, q⟩ := P
      simp only at hnx hn1 hn2
      have hy8 : ∀ x ∈ y, 0 ≤ x ∧ x ≤ 8 := fun x hx => by have := hP.nn x hx; omega
      have hq100 : q ≤ 100 := by
        have h1 := hP.q1
        have h2 : (t : Int) * t ≤ 8 * 8 := Int.mul_le_mul (by omega) (by omega) (by omega) (by omega)
        simp only at h1; omega
      have ha8 : a ≤ 8388608 := by have h1 := hP.a1; simp only at h1; omega
      have ha0 : 0 ≤ a := hP.a0
      have hq0 : 0 ≤ q := hP.q0
      have hyl : y.length = n := by have := hP.len; rw [HN.out] at this; exact this
      have HN1 := Lib.hid hn1
      have HN2 := Lib.hid hn2
      have HNX := Lib.hid hnx
      have hsn := fun i (hi : i ≤ n) => sbest_n c y a q h1 hi
      have hsx := fun i => sbest_next c y a q i
      have htb := fun i => topV_bd HC.out ha0 ha8 i
      have hbb := fun i => botV_bd hy8 hq0 hq100 i
      have HSN := Lib.hid hsn
      have HSX := Lib.hid hsx
      have HTB := Lib.hid htb
      have HBB := Lib.hid hbb
      have HY8 := Lib.hid hy8
      clear hn1 hn2 hnx hsn hsx htb hbb hP hPe hy8
      go_wp2_with fail
      go_loopw [11, 29] (fun bv iv wr => ∃ i : Nat, i ≤ n ∧ iv = .int .i64 i ∧ bv = .int .i64 (sbest c y a q i : Nat) ∧ FindW w wr B gy g o n cap lo hi c ⟨y, a, q⟩) (fun _ iv _ => n - (intOf iv).toNat)
      case atStart => exact ⟨0, by omega, rfl, rfl, hF⟩
      case round =>
        clear hF c0
        obtain ⟨i, hi2, rfl, rfl, hF⟩ := hrel
        have hbn := HSN.out i hi2
        by_cases hlt2 : i < n
        · have hlti2 : (i : Int) < (n : Int) := by omega
          have hsx := HSX.out i
          obtain ⟨b, hb⟩ : ∃ b, sbest c y a q i = b := ⟨_, rfl⟩
          rw [hb] at hbn hsx ⊢
          have t1 := HTB.out i
          have t2 := HTB.out b
          have b1 := HBB.out i
          have b2 := HBB.out b
          have m1 := HN1.out i hlt2
          have m2 := HN1.out b hbn
          have n1 := HN2.out i hlt2
          have n2 := HN2.out b hbn
          obtain ⟨T1, hT1⟩ : ∃ x, topV c a i = x := ⟨_, rfl⟩
          obtain ⟨T2, hT2⟩ : ∃ x, topV c a b = x := ⟨_, rfl⟩
          obtain ⟨B1, hB1⟩ : ∃ x, botV y q i = x := ⟨_, rfl⟩
          obtain ⟨B2, hB2⟩ : ∃ x, botV y q b = x := ⟨_, rfl⟩
          rw [hT1] at t1 hsx
          rw [hT2] at t2 hsx
          rw [hB1] at b1 hsx
          rw [hB2] at b2 hsx
          simp only [hT1] at m1
          simp only [hT2] at m2
          simp only [hB1] at n1
          simp only [hB2] at n2
          have p1 := abs_mul_bd (x := T1) (y := B2) (A := 89060441849856) (B := 200) (by decide) (by decide) (by omega) (by omega)
          have p2 := abs_mul_bd (x := T2) (y := B1) (A := 89060441849856) (B := 200) (by decide) (by decide) (by omega) (by omega)
          obtain ⟨X1, hX1⟩ : ∃ x, T1 * B2 = x := ⟨_, rfl⟩
          obtain ⟨X2, hX2⟩ : ∃ x, T2 * B1 = x := ⟨_, rfl⟩
          rw [hX1] at p1 hsx
          rw [hX2] at p2 hsx
          have w1 : IntKind.i64.wrap X1 = X1 := IntWalk.i64_in _ (by omega)
          have w2 : IntKind.i64.wrap X2 = X2 := IntWalk.i64_in _ (by omega)
          have M1 := Lib.hid m1
          have M2 := Lib.hid m2
          have N1 := Lib.hid n1
          have N2 := Lib.hid n2
          have HSX1 := Lib.hid hsx
          clear m1 m2 n1 n2 hsx hb hT1 hT2 hB1 hB2 p1 p2 t1 t2 b1 b2
          go_upto_region 13 with (fail)
          go_wp2_with (refine (M1.out _ hF).mono ?_)
          rintro e wa ⟨rfl, hba⟩
          replace hF := hF.newB hba (by omega)
          go_wp2_with (refine (N2.out _ hF).mono ?_)
          rintro e wb ⟨rfl, hbb⟩
          replace hF := hF.newB hbb (by omega)
          go_wp2_with (refine (M2.out _ hF).mono ?_)
          rintro e wc ⟨rfl, hbc⟩
          replace hF := hF.newB hbc (by omega)
          go_wp2_with (refine (N1.out _ hF).mono ?_)
          rintro e wd ⟨rfl, hbd⟩
          replace hF := hF.newB hbd (by omega)
          by_cases hgt : X2 < X1
          · have hs : sbest c y a q (i + 1) = i := by rw [HSX1.out, if_pos hgt]
            have HS := Lib.hid hs
            clear hs
            go_wp2_with fail
            go_roundw
            case rel => exact ⟨i + 1, by omega, by go_num, by rw [HS.out], hF⟩
            case measure => simp [intOf]; omega
          · have hs : sbest c y a q (i + 1) = b := by rw [HSX1.out, if_neg hgt]
            have HS := Lib.hid hs
            clear hs
            go_wp2_with fail
            go_roundw
            case rel => exact ⟨i + 1, by omega, by go_num, by rw [HS.out], hF⟩
            case measure => simp [intOf]; omega
        · obtain rfl : n = i := by omega
          obtain ⟨b, hb⟩ : ∃ b, sbest c y a q n = b := ⟨_, rfl⟩
          have hnx := HNX.out
          rw [hb] at hbn hnx ⊢
          obtain ⟨hCc, hS, hY, hYc, hAa, hQ, hfar, hsz⟩ := hF
          simp only at hY hAa hQ
          have hab := absAt_bd HC.out b
          have hmem : c.getD b 0 ∈ c := by rw [List.getD_eq_getElem?_getD, List.getElem?_eq_getElem (by rw [HN.out]; exact hbn)]; exact List.getElem_mem _
          have hxb := HC.out _ hmem
          have hssz := fun w => ssize_any (c.getD b 0) hxb.1 hxb.2 w
          have habe : max (c.getD b 0) (-(c.getD b 0)) = absAt c b := rfl
          simp only [habe] at hssz
          have hbb := HBB.out b
          have hq2 := fun W (h1 : Blk W (gy + 1 + 1 + 1) #[.int .i64 q] 3) (h2 : Blk W (gy + 1) #[.slice (some ⟨gy, 0, none⟩) n n] 48) (h3 : Blk W gy (arrV y) 3) => Find2_any y HY8.out (gy + 1 + 1 + 1) gy (gy + 1) n hyl q hq0 (by omega) b hbn h8 W h1 h2 h3
          have hymem : y.getD b 0 ∈ y := by rw [List.getD_eq_getElem?_getD, List.getElem?_eq_getElem (by omega)]; exact List.getElem_mem _
          have hyb := HY8.out _ hymem
          have cx := hS.2.2.2.2.2.2 _ rfl b _ (ints_get (k := .i64) (l := c) (by rw [HN.out]; exact hbn))
          obtain ⟨x, hx⟩ : ∃ x, c.getD b 0 = x := ⟨_, rfl⟩
          rw [hx] at cx
          simp only [hx] at hssz
          obtain ⟨ab, hae⟩ : ∃ x, absAt c b = x := ⟨_, rfl⟩
          rw [hae] at hab hnx
          simp only [hae] at hssz
          obtain ⟨bv, hbv⟩ : ∃ x, botV y q b = x := ⟨_, rfl⟩
          rw [hbv] at hbb hnx
          simp only [hbv] at hq2
          obtain ⟨yb, hybe⟩ : ∃ x, y.getD b 0 = x := ⟨_, rfl⟩
          rw [hybe] at hyb hnx
          have c1 := hAa.cell 0
          have c2 := hCc.cell 0
          simp only [List.getElem?_toArray, List.getElem?_cons_zero] at c1 c2
          have f1 := hAa.frozen 0
          have w1 : IntKind.i64.wrap (a + ab) = a + ab := IntWalk.i64_in _ (by omega)
          have hbni : (b : Int) < (n : Int) := by omega
          have HSSZ := Lib.hid hssz
          have HQ2 := Lib.hid hq2
          have HNX2 := Lib.hid hnx
          clear hb hssz hq2 hnx hx hae hbv habe hmem hxb hymem
          go_upto_region 16 with (fail)
          go_cut [] from 49 to 55 (fun wx => Blk wx B #[.slice (some ⟨g, o, none⟩) n cap] 48 ∧ SL wx lo hi 1 (some ⟨g, o, none⟩) n cap (intsV c) ∧ Blk wx gy (arrV y) 3 ∧ Blk wx (gy + 1) #[.slice (some ⟨gy, 0, none⟩) n n] 48 ∧ Blk wx (gy + 1 + 1) #[.int .i64 (a + ab)] 3 ∧ Blk wx (gy + 1 + 1 + 1) #[.int .i64 q] 3 ∧ Below B w wx ∧ gy + 4 ≤ wx.heap.size)
          case first =>
            refine wp_region_held_drew (S := fun W => True) (by kernel_rfl) ⟨⟩ (fun hH => ?_)
            refine tk 2 hH (y := yp) (k := ?_)
            refine wpAnyH_ready (rs := [0, 1]) (by kernel_rfl) (by simp) ?_
            refine rc (h := fun K hK => ?_) (r := ?_)
            · go_simp
              refine hK.out _ _ trivial (fun hH => ?_)
              clear hK K
              try simp only [Act.put, sa, List.set_cons_zero, List.set_cons_succ]
              refine wpAnyH_ready (rs := [1]) (by kernel_rfl) (by simp) ?_
              refine rc (h := fun K hK => ?_) (r := AllReadyH.nil)
              go_simp
              refine hK.out _ _ trivial (fun hH => ?_)
              clear hK K
              try simp only [Act.put, sa, List.set_cons_zero, List.set_cons_succ]
              refine tk 3 hH (y := yp) (k := ?_)
              refine wpAnyH_ready (rs := [4]) (by kernel_rfl) (by simp) ?_
              refine rc (h := fun K hK => ?_) (r := AllReadyH.nil)
              go_simp
              refine hK.out _ _ trivial (fun hH => ?_)
              clear hK K
              try simp only [Act.put, sa, List.set_cons_zero, List.set_cons_succ]
              refine wpAnyH_ready (rs := [5]) (by kernel_rfl) (by simp) ?_
              refine rc (h := fun K hK => ?_) (r := AllReadyH.nil)
              go_simp
              refine (HSSZ.out _).mono ?_
              rintro r wq ⟨rfl, rfl⟩
              go_wp2_with fail
              refine hK.out _ _ trivial (fun hH => ?_)
              clear hK K
              try simp only [Act.put, sa, List.set_cons_zero, List.set_cons_succ]
              refine tk 6 hH (y := yp) (k := ?_)
              refine wpAnyH_ready (rs := [7]) (by kernel_rfl) (by simp) ?_
              refine rc (h := fun K hK => ?_) (r := AllReadyH.nil)
              go_simp
              refine hK.out _ _ trivial (fun hH => ?_)
              clear hK K
              try simp only [Act.put]
              refine wpAnyH_done (by kernel_rfl) ?_ _
              go_wp2_with fail
              go_meet
              case rel => exact ⟨by exact bk_, by exact sl_, by exact bk_, by exact bk_, by exact bk_, by exact bk_, by exact bl_, by exact sz_⟩
            refine rc (h := fun K hK => ?_) (r := AllReadyH.nil)
            go_simp
            refine hK.out _ _ trivial (fun hH => ?_)
            clear hK K
            try simp only [Act.put, sa, List.set_cons_zero, List.set_cons_succ]
            refine tk 3 hH (y := yp) (k := ?_)
            refine wpAnyH_ready (rs := [0, 4]) (by kernel_rfl) (by simp) ?_
            refine rc (h := fun K hK => ?_) (r := ?_)
            · go_simp
              refine hK.out _ _ trivial (fun hH => ?_)
              clear hK K
              try simp only [Act.put, sa, List.set_cons_zero, List.set_cons_succ]
              refine wpAnyH_ready (rs := [4]) (by kernel_rfl) (by simp) ?_
              refine rc (h := fun K hK => ?_) (r := AllReadyH.nil)
              go_simp
              refine hK.out _ _ trivial (fun hH => ?_)
              clear hK K
              try simp only [Act.put, sa, List.set_cons_zero, List.set_cons_succ]
              refine wpAnyH_ready (rs := [5]) (by kernel_rfl) (by simp) ?_
              refine rc (h := fun K hK => ?_) (r := AllReadyH.nil)
              go_simp
              refine (HSSZ.out _).mono ?_
              rintro r wq ⟨rfl, rfl⟩
              go_wp2_with fail
              refine hK.out _ _ trivial (fun hH => ?_)
              clear hK K
              try simp only [Act.put, sa, List.set_cons_zero, List.set_cons_succ]
              refine tk 6 hH (y := yp) (k := ?_)
              refine wpAnyH_ready (rs := [7]) (by kernel_rfl) (by simp) ?_
              refine rc (h := fun K hK => ?_) (r := AllReadyH.nil)
              go_simp
              refine hK.out _ _ trivial (fun hH => ?_)
              clear hK K
              try simp only [Act.put]
              refine wpAnyH_done (by kernel_rfl) ?_ _
              go_wp2_with fail
              go_meet
              case rel => exact ⟨by exact bk_, by exact sl_, by exact bk_, by exact bk_, by exact bk_, by exact bk_, by exact bl_, by exact sz_⟩
            refine rc (h := fun K hK => ?_) (r := AllReadyH.nil)
            go_simp
            refine hK.out _ _ trivial (fun hH => ?_)
            clear hK K
            try simp only [Act.put, sa, List.set_cons_zero, List.set_cons_succ]
            refine wpAnyH_ready (rs := [0, 5]) (by kernel_rfl) (by simp) ?_
            refine rc (h := fun K hK => ?_) (r := ?_)
            · go_simp
              refine hK.out _ _ trivial (fun hH => ?_)
              clear hK K
              try simp only [Act.put, sa, List.set_cons_zero, List.set_cons_succ]
              refine wpAnyH_ready (rs := [5]) (by kernel_rfl) (by simp) ?_
              refine rc (h := fun K hK => ?_) (r := AllReadyH.nil)
              go_simp
              refine (HSSZ.out _).mono ?_
              rintro r wq ⟨rfl, rfl⟩
              go_wp2_with fail
              refine hK.out _ _ trivial (fun hH => ?_)
              clear hK K
              try simp only [Act.put, sa, List.set_cons_zero, List.set_cons_succ]
              refine tk 6 hH (y := yp) (k := ?_)
              refine wpAnyH_ready (rs := [7]) (by kernel_rfl) (by simp) ?_
              refine rc (h := fun K hK => ?_) (r := AllReadyH.nil)
              go_simp
              refine hK.out _ _ trivial (fun hH => ?_)
              clear hK K
              try simp only [Act.put]
              refine wpAnyH_done (by kernel_rfl) ?_ _
              go_wp2_with fail
              go_meet
              case rel => exact ⟨by exact bk_, by exact sl_, by exact bk_, by exact bk_, by exact bk_, by exact bk_, by exact bl_, by exact sz_⟩
            refine rc (h := fun K hK => ?_) (r := AllReadyH.nil)
            go_simp
            refine (HSSZ.out _).mono ?_
            rintro r wq ⟨rfl, rfl⟩
            go_wp2_with fail
            refine hK.out _ _ trivial (fun hH => ?_)
            clear hK K
            try simp only [Act.put, sa, List.set_cons_zero, List.set_cons_succ]
            refine wpAnyH_ready (rs := [0]) (by kernel_rfl) (by simp) ?_
            refine rc (h := fun K hK => ?_) (r := AllReadyH.nil)
            go_simp
            refine hK.out _ _ trivial (fun hH => ?_)
            clear hK K
            try simp only [Act.put, sa, List.set_cons_zero, List.set_cons_succ]
            refine tk 6 hH (y := yp) (k := ?_)
            refine wpAnyH_ready (rs := [7]) (by kernel_rfl) (by simp) ?_
            refine rc (h := fun K hK => ?_) (r := AllReadyH.nil)
            go_simp
            refine hK.out _ _ trivial (fun hH => ?_)
            clear hK K
            try simp only [Act.put]
            refine wpAnyH_done (by kernel_rfl) ?_ _
            go_wp2_with fail
            go_meet
            case rel => exact ⟨by exact bk_, by exact sl_, by exact bk_, by exact bk_, by exact bk_, by exact bk_, by exact bl_, by exact sz_⟩
          case rest =>
            clear hCc hS hY hYc hAa hQ hfar hsz c1 c2 f1 cx w1
            obtain ⟨hCc, hS, hY, hYc, hAa, hQ, hfar, hsz⟩ := hcut
            go_wp2_with fail
            refine (HQ2.out _ hQ hYc hY).mono ?_
            rintro e w5 ⟨rfl, hb5⟩
            replace hCc := hCc.newB hb5
            replace hS := hS.newB hb5
            replace hY := hY.newB hb5
            replace hYc := hYc.newB hb5
            replace hAa := hAa.newB hb5
            replace hQ := hQ.newB hb5
            replace hfar := hfar.trans (hb5.mono (by omega))
            replace hsz := Nat.le_trans hsz hb5.size
            have c1 := hQ.cell 0
            have c2 := hYc.cell 0
            simp only [List.getElem?_toArray, List.getElem?_cons_zero] at c1 c2
            have f1 := hQ.frozen 0
            have c3 := (hY.cell b).trans (arr_get (l := y) (by omega))
            rw [hybe] at c3
            have f3 := hY.frozen b
            go_wp2_with fail
            go_roundw
            case rel => exact ⟨t + 1, hlt, by go_num, by rw [HNX2.out]; exact ⟨by exact bk_, by exact sl_, by exact bk_, by exact bk_, by exact bk_, by exact bk_, by exact bl_, by exact sz_⟩⟩
            case measure => simp [intOf]; omega
    · obtain rfl : k = t := by omega
      have c0 := hF.c.cell 0
      simp only [List.getElem?_toArray, List.getElem?_cons_zero] at c0
      have hP := HPO.out k
      have hfl : findL c k = signL c (fpul c k).y := rfl
      obtain ⟨P, hPe⟩ : ∃ P, fpul c k = P := ⟨_, rfl⟩
      rw [hPe] at hP hF hfl
      obtain ⟨y, a, q⟩ := P
      simp only at hfl
      have hy8 : ∀ x ∈ y, 0 ≤ x ∧ x ≤ 8 := fun x hx => by have := hP.nn x hx; omega
      have hyl : y.length = n := by have := hP.len; rw [HN.out] at this; exact this
      have hsl : (signL c y).length = n := by rw [signL_len, HN.out]
      have hsg := fun i (hi : i < n) => signL_get c y (i := i) (by rw [HN.out]; exact hi)
      obtain ⟨F, hFe⟩ : ∃ F, signL c y = F := ⟨_, rfl⟩
      rw [hFe] at hsl hfl
      simp only [hFe] at hsg
      have hFF : F = FR := hfl.symm.trans HFR.out
      subst hFF
      have HSG := Lib.hid hsg
      have HY8 := Lib.hid hy8
      clear hsg hy8 hP hPe hFe hfl HFR HF1 HF2 HPO
      go_wp2_with fail
      go_loopw [68] (fun iv wr => ∃ i : Nat, i ≤ n ∧ iv = .int .i64 i ∧ FindW w wr B gy g o n cap lo hi c ⟨turnF F y i, a, q⟩) (fun iv _ => n - (intOf iv).toNat)
      case atStart => exact ⟨0, by omega, rfl, by rw [turnF_zero]; exact hF⟩
      case round =>
        clear hF c0
        obtain ⟨i, hi2, rfl, hF⟩ := hrel
        obtain ⟨hCc, hS, hY, hYc, hAa, hQ, hfar, hsz⟩ := hF
        simp only at hY hAa hQ
        have c2 := hYc.cell 0
        simp only [List.getElem?_toArray, List.getElem?_cons_zero] at c2
        by_cases hlt2 : i < n
        · have hlti2 : (i : Int) < (n : Int) := by omega
          have hsg := HSG.out i hlt2
          have LT := turnF_len (k := i) hsl hyl (Nat.le_of_lt hlt2)
          have hg := turnF_get (f := F) (o := y) (k := i) hsl hlt2
          have hset := turnF_set (k := i) hsl hyl hlt2 hsg
          have hsame := turnF_same (k := i) hsl hyl hlt2
          have hymem : y.getD i 0 ∈ y := by rw [List.getD_eq_getElem?_getD, List.getElem?_eq_getElem (by omega)]; exact List.getElem_mem _
          have hyb := HY8.out _ hymem
          have cx := hS.2.2.2.2.2.2 _ rfl i _ (ints_get (k := .i64) (l := c) (by rw [HN.out]; exact hlt2))
          obtain ⟨x, hx⟩ : ∃ x, c.getD i 0 = x := ⟨_, rfl⟩
          obtain ⟨T, hT⟩ : ∃ T, turnF F y i = T := ⟨_, rfl⟩
          obtain ⟨yi, hyi⟩ : ∃ x, y.getD i 0 = x := ⟨_, rfl⟩
          rw [hx] at cx hset hsg
          rw [hT] at hset hY LT hg hsame
          rw [hyi] at hset hg hyb hsg
          rw [hyi] at hsame
          have c3 := (hY.cell i).trans (arr_get (l := T) (by rw [LT.out]; exact hlt2))
          rw [hg] at c3
          have f3 := hY.frozen i
          have HSET := Lib.hid hset
          have HSAME := Lib.hid hsame
          have HSG1 := Lib.hid hsg
          clear hset hg hx hT hyi hymem hsame hsg
          by_cases hneg : x < 0
          · have hset2 : T.set i (-yi) = turnF F y (i + 1) := by have h := HSET.out; rwa [if_pos hneg] at h
            have HS2 := Lib.hid hset2
            have w1 : IntKind.i64.wrap (-yi) = -yi := IntWalk.i64_in _ (by omega)
            clear hset2
            go_upto_region 24 with (fail)
            refine wp_region_held_drew (S := fun W => True) (by kernel_rfl) ⟨⟩ (fun hH => ?_)
            refine tk 1 hH (y := yp) (k := ?_)
            refine tk 3 hH (y := yp) (k := ?_)
            refine wpAnyH_ready (rs := [0, 2]) (by kernel_rfl) (by simp) ?_
            refine rc (h := fun K hK => ?_) (r := ?_)
            · go_simp
              refine hK.out _ _ trivial (fun hH => ?_)
              clear hK K
              try simp only [Act.put, sa, List.set_cons_zero, List.set_cons_succ]
              refine wpAnyH_ready (rs := [2]) (by kernel_rfl) (by simp) ?_
              refine rc (h := fun K hK => ?_) (r := AllReadyH.nil)
              go_simp
              refine hK.out _ _ trivial (fun hH => ?_)
              clear hK K
              try simp only [Act.put, sa, List.set_cons_zero, List.set_cons_succ]
              refine tk 4 hH (y := yp) (k := ?_)
              refine wpAnyH_ready (rs := [5]) (by kernel_rfl) (by simp) ?_
              refine rc (h := fun K hK => ?_) (r := AllReadyH.nil)
              go_simp
              refine hK.out _ _ trivial (fun hH => ?_)
              clear hK K
              try simp only [Act.put, sa, List.set_cons_zero, List.set_cons_succ]
              refine tk 6 hH (y := yp) (k := ?_)
              refine tk 7 hH (y := yp) (k := ?_)
              refine wpAnyH_ready (rs := [8]) (by kernel_rfl) (by simp) ?_
              refine rc (h := fun K hK => ?_) (r := AllReadyH.nil)
              go_simp
              refine hK.out _ _ trivial (fun hH => ?_)
              clear hK K
              try simp only [Act.put]
              refine wpAnyH_done (by kernel_rfl) ?_ _
              go_wp2_with fail
              go_roundw
              case rel => exact ⟨i + 1, by omega, by go_num, ⟨by exact bk_, by exact sl_, by rw [← HS2.out]; exact bk_, by exact bk_, by exact bk_, by exact bk_, by exact bl_, by exact sz_⟩⟩
              case measure => simp [intOf]; omega
            refine rc (h := fun K hK => ?_) (r := AllReadyH.nil)
            go_simp
            refine hK.out _ _ trivial (fun hH => ?_)
            clear hK K
            try simp only [Act.put, sa, List.set_cons_zero, List.set_cons_succ]
            refine tk 4 hH (y := yp) (k := ?_)
            refine wpAnyH_ready (rs := [0, 5]) (by kernel_rfl) (by simp) ?_
            refine rc (h := fun K hK => ?_) (r := ?_)
            · go_simp
              refine hK.out _ _ trivial (fun hH => ?_)
              clear hK K
              try simp only [Act.put, sa, List.set_cons_zero, List.set_cons_succ]
              refine wpAnyH_ready (rs := [5]) (by kernel_rfl) (by simp) ?_
              refine rc (h := fun K hK => ?_) (r := AllReadyH.nil)
              go_simp
              refine hK.out _ _ trivial (fun hH => ?_)
              clear hK K
              try simp only [Act.put, sa, List.set_cons_zero, List.set_cons_succ]
              refine tk 6 hH (y := yp) (k := ?_)
              refine tk 7 hH (y := yp) (k := ?_)
              refine wpAnyH_ready (rs := [8]) (by kernel_rfl) (by simp) ?_
              refine rc (h := fun K hK => ?_) (r := AllReadyH.nil)
              go_simp
              refine hK.out _ _ trivial (fun hH => ?_)
              clear hK K
              try simp only [Act.put]
              refine wpAnyH_done (by kernel_rfl) ?_ _
              go_wp2_with fail
              go_roundw
              case rel => exact ⟨i + 1, by omega, by go_num, ⟨by exact bk_, by exact sl_, by rw [← HS2.out]; exact bk_, by exact bk_, by exact bk_, by exact bk_, by exact bl_, by exact sz_⟩⟩
              case measure => simp [intOf]; omega
            refine rc (h := fun K hK => ?_) (r := AllReadyH.nil)
            go_simp
            refine hK.out _ _ trivial (fun hH => ?_)
            clear hK K
            try simp only [Act.put, sa, List.set_cons_zero, List.set_cons_succ]
            refine tk 6 hH (y := yp) (k := ?_)
            refine wpAnyH_ready (rs := [0]) (by kernel_rfl) (by simp) ?_
            refine rc (h := fun K hK => ?_) (r := AllReadyH.nil)
            go_simp
            refine hK.out _ _ trivial (fun hH => ?_)
            clear hK K
            try simp only [Act.put, sa, List.set_cons_zero, List.set_cons_succ]
            refine tk 7 hH (y := yp) (k := ?_)
            refine wpAnyH_ready (rs := [8]) (by kernel_rfl) (by simp) ?_
            refine rc (h := fun K hK => ?_) (r := AllReadyH.nil)
            go_simp
            refine hK.out _ _ trivial (fun hH => ?_)
            clear hK K
            try simp only [Act.put]
            refine wpAnyH_done (by kernel_rfl) ?_ _
            go_wp2_with fail
            go_roundw
            case rel => exact ⟨i + 1, by omega, by go_num, ⟨by exact bk_, by exact sl_, by rw [← HS2.out]; exact bk_, by exact bk_, by exact bk_, by exact bk_, by exact bl_, by exact sz_⟩⟩
            case measure => simp [intOf]; omega
          · have hsame2 : turnF F y (i + 1) = T := HSAME.out (by have h := HSG1.out; rwa [if_neg hneg] at h)
            have HS2 := Lib.hid hsame2
            clear hsame2
            go_wp2_with fail
            go_roundw
            case rel => exact ⟨i + 1, by omega, by go_num, ⟨hCc, hS, by rw [HS2.out]; exact hY, hYc, hAa, hQ, hfar, hsz⟩⟩
            case measure => simp [intOf]; omega
        · obtain rfl : n = i := by omega
          rw [turnF_all hsl hyl] at hY
          go_wp2_with fail
          go_ret2
          refine ⟨_, rfl, ?_, by (try rw [hB]); exact hfar⟩
          unfold Nums
          rw [hsl]
          refine ⟨⟨by rw [List.length_map, hsl]; omega, .inr ⟨gy, n, arrV F, rfl, by (try rw [hB]); omega, hY, Nat.le_refl _, by unfold maxLen; omega, by rw [arr_size, hsl]; omega, ?_⟩⟩, fun j hj => by simp [Value.ownBlock] at hj; omega, Nat.le_refl _⟩
          rw [List.take_of_length_le (by simp [hsl])]
end Go.Proofs.YtkoljgmapclhkaaGreatDoor

namespace Go.Proofs.YtkoljgmapclhkaaGreatDoor
open Go.RowKit Go.Maps

theorem drop_one {y : List Int} {i : Nat} (h : i < y.length) : y.drop i = y.getD i 0 :: y.drop (i + 1) := by
  rw [List.drop_eq_getElem_cons h, List.getD_eq_getElem?_getD, List.getElem?_eq_getElem h]; rfl
theorem getD_in {y : List Int} {i : Nat} (h : i < y.length) : y.getD i 0 ∈ y := by rw [List.getD_eq_getElem?_getD, List.getElem?_eq_getElem h]; exact List.getElem_mem _
set_option maxRecDepth 100000 in
set_option maxHeartbeats 1600000 in
theorem VPulses_any (y : List Int) (hy : ∀ x ∈ y, -8 ≤ x ∧ x ≤ 8) (n : Nat) (hn : y.length = n) (h1 : 1 ≤ n) (h8 : n ≤ 8) (k : Nat) (hk : k ≤ 8) (hs : Sp.sizes y = k) (pp : Option Addr) (cap lo hi : Nat) (w : World) (hS : SL w lo hi 1 pp n cap (intsV y)) :
    Calls Tryz.prog 138 #[.slice pp n cap] w fun e w' => e = .returned (.int .i64 k) ∧ Below w.heap.size w w' := by
  obtain ⟨g, o, rfl⟩ := sl_someE hS h1
  have hcap := hS.2.1
  have hcm := hS.2.2.1
  unfold maxLen at hcm
  have h8i : (n : Int) ≤ 8 := by omega
  have HY := Lib.hid hy
  have HN := Lib.hid hn
  have hnx := fun i (hi : i < n) => show Sp.sizes (y.drop i) = _ from by rw [drop_one (by rw [HN.out]; exact hi), Sp.sizes_cons]
  have hnn := fun i => sizes_nn (y.drop i)
  have hs0 : (0 : Int) + Sp.sizes (y.drop 0) = k := by rw [List.drop_zero, hs]; omega
  have hsn : Sp.sizes (y.drop n) = 0 := by rw [← HN.out, List.drop_length]; rfl
  have HNX := Lib.hid hnx
  have HNN := Lib.hid hnn
  have HS0 := Lib.hid hs0
  have HSN := Lib.hid hsn
  clear hy hn hnx hnn hs0 hsn hs
  have hki : (k : Int) ≤ 8 := by omega
  go_enter Tryz.func138, Tryz.ntmps138
  go_wp2_with fail
  go_loopw [3, 11] (fun nv iv wr => ∃ (i : Nat) (m : Int), i ≤ n ∧ iv = .int .i64 i ∧ nv = .int .i64 m ∧ 0 ≤ m ∧ Hid (m + Sp.sizes (y.drop i) = k) ∧ w = wr) (fun _ iv _ => n - (intOf iv).toNat)
  case atStart => exact ⟨0, 0, by omega, rfl, rfl, by omega, HS0, rfl⟩
  case round =>
    obtain ⟨i, m, hi2, rfl, rfl, hm0, HM, rfl⟩ := hrel
    by_cases hlt : i < n
    · have hlti : (i : Int) < (n : Int) := by omega
      have hx := HY.out _ (getD_in (i := i) (by rw [HN.out]; exact hlt))
      have cx := sl_get hS i (by rw [HN.out]; exact hlt)
      have hm := HM.out
      have hnx := HNX.out i hlt
      have hnn := HNN.out (i + 1)
      rw [hnx] at hm
      have hv := fun w => vsize_any (y.getD i 0) (by omega) (by omega) w
      obtain ⟨x, hxe⟩ : ∃ x, y.getD i 0 = x := ⟨_, rfl⟩
      rw [hxe] at cx hm hx
      simp only [hxe] at hv
      obtain ⟨z, hz⟩ : ∃ z, Sp.sizes (y.drop (i + 1)) = z := ⟨_, rfl⟩
      rw [hz] at hnn hm
      obtain ⟨s, hse⟩ : ∃ s, max x (-x) = s := ⟨_, rfl⟩
      rw [hse] at hm
      simp only [hse] at hv
      have hs0 : 0 ≤ s := by omega
      have HV := Lib.hid hv
      have HM2 := Lib.hid (show m + s + z = k by omega)
      have w1 : IntKind.i64.wrap (m + s) = m + s := IntWalk.i64_in _ (by omega)
      have HZ := Lib.hid hz
      clear hv hm hnx hnn hxe hse hz HM
      go_wp2_with fail
      refine (HV.out _).mono ?_
      rintro e w' ⟨rfl, rfl⟩
      go_wp2_with fail
      go_roundw
      case rel => exact ⟨i + 1, m + s, by omega, by go_num, by go_num, by omega, Lib.hid (by rw [HZ.out]; exact HM2.out), by first | trivial | rfl⟩
      case measure => simp [intOf]; omega
    · obtain rfl : n = i := by omega
      have hm := HM.out
      rw [HSN.out] at hm
      obtain rfl : m = k := by omega
      have hmn : min (k : Int) 9 = k := by omega
      go_wp2_with fail
      go_ret
      exact ⟨by (try rw [hmn]); rfl, Below.refl _ _⟩
theorem vnum_cons (x : Int) (r : List Int) (k : Int) : vnum (x :: r) k = Sp.sumUp r.length k (x + k).toNat (-k) + vnum r (k - max x (-x)) := rfl
theorem sumUp_one (m : Nat) (k : Int) (j : Nat) (x : Int) : Sp.sumUp m k (j + 1) x = Sp.cntI m (k - max x (-x)) + Sp.sumUp m k j (x + 1) := rfl
set_option maxRecDepth 100000 in
set_option maxHeartbeats 3200000 in
theorem VNumber_any (y : List Int) (hy : ∀ x ∈ y, -8 ≤ x ∧ x ≤ 8) (n : Nat) (hn : y.length = n) (h1 : 1 ≤ n) (h8 : n ≤ 8) (k : Nat) (hk : k ≤ 8) (hs : Sp.sizes y = k) (pp : Option Addr) (cap lo hi : Nat) (w : World) (hS : SL w lo hi 1 pp n cap (intsV y)) :
    Calls Tryz.prog 95 #[.slice pp n cap] w fun e w' => e = .returned (.tuple #[.int .i64 (vnum y k), .int .i64 0]) ∧ Below w.heap.size w w' := by
  have hmm := @run_makeMap Tryz.prog
  have hP := VPulses_any y hy n hn h1 h8 k hk hs pp cap lo hi w hS
  obtain ⟨g, o, rfl⟩ := sl_someE hS h1
  have hcap := hS.2.1
  have hcm := hS.2.2.1
  unfold maxLen at hcm
  have hV := vnum_ok y (by omega) k hk hs
  have hV2 := Sp.cntI_bd (n := y.length) (k := (k : Int)) (by omega) (by omega)
  obtain ⟨V, hVe⟩ : ∃ V, vnum y k = V := ⟨_, rfl⟩
  rw [hVe] at hV ⊢
  have hVb : V ≤ 1000000 := by omega
  have HY := Lib.hid hy
  have HN := Lib.hid hn
  have hnx := fun i (hi : i < n) => drop_one (y := y) (i := i) (by rw [HN.out]; exact hi)
  have hsn : y.drop n = [] := by rw [← HN.out, List.drop_length]
  have HNX := Lib.hid hnx
  have HSN := Lib.hid hsn
  have HV0 : Hid ((0 : Int) + vnum (y.drop 0) k = V) := Lib.hid (by rw [List.drop_zero, hVe]; omega)
  have HS0 : Hid (Sp.sizes (y.drop 0) = (k : Int)) := Lib.hid (by rw [List.drop_zero]; exact hs)
  clear hy hn hnx hsn hVe hs hV hV2
  have hki : (k : Int) ≤ 8 := by omega
  go_enter Tryz.func95, Tryz.ntmps95
  go_wp2_with fail
  refine hP.mono ?_
  rintro e w1 ⟨rfl, hb1⟩
  have hO1 := World.ownsMap_made (H := Unit) w1 Tryz.prog 210 (plainElem Tryz.prog 3)
  have hb2 : Below w.heap.size w (w1.alloc (.map #[] 0)) := hb1.alloc hb1.size _
  have hmb : w.heap.size ≤ w1.heap.size := hb1.size
  obtain ⟨mb, hmbe⟩ : ∃ mb, w1.heap.size = mb := ⟨_, rfl⟩
  rw [hmbe] at hO1 hmb
  clear hP hb1
  go_wp2_with fail
  go_loopw [4, 6, 17] (fun kv nv iv wr => ∃ (i q N : Nat) (m : Int) (D : DataW Unit), i ≤ n ∧ iv = .int .i64 i ∧ nv = .int .i64 m ∧ kv = .int .i64 q ∧ q ≤ 8 ∧ 0 ≤ m ∧ m ≤ 1000000 ∧ Hid (m + vnum (y.drop i) q = V) ∧ Hid (Sp.sizes (y.drop i) = (q : Int)) ∧ N ≤ 17 * i * 100000000 ∧ OwnC wr mb N D ∧ Good D ∧ Below w.heap.size w wr) (fun _ _ iv _ => n - (intOf iv).toNat)
  case atStart => exact ⟨0, k, 0, 0, _, by omega, rfl, rfl, rfl, hk, by omega, by omega, HV0, HS0, Nat.le_refl _, hO1, good_empty, hb2⟩
  case round =>
    clear hO1 hb2
    obtain ⟨i, q, N, m, D, hi2, rfl, rfl, rfl, hq, hm0, hm1, HM, HSZ, hN, hO, hG, hb⟩ := hrel
    by_cases hlt : i < n
    · have hlti : (i : Int) < (n : Int) := by omega
      have hx := HY.out _ (getD_in (i := i) (by rw [HN.out]; exact hlt))
      have cx := sl_get (hS.newB hb) i (by rw [HN.out]; exact hlt)
      have hm := HM.out
      have hsz := HSZ.out
      have hnx := HNX.out i hlt
      rw [hnx] at hm hsz
      rw [Sp.sizes_cons] at hsz
      rw [vnum_cons, List.length_drop, HN.out] at hm
      have hnn := sizes_nn (y.drop (i + 1))
      have hv := fun w => vsize_any (y.getD i 0) (by omega) (by omega) w
      obtain ⟨x, hxe⟩ : ∃ x, y.getD i 0 = x := ⟨_, rfl⟩
      rw [hxe] at cx hm hx hsz
      simp only [hxe] at hv
      obtain ⟨z, hz⟩ : ∃ z, Sp.sizes (y.drop (i + 1)) = z := ⟨_, rfl⟩
      rw [hz] at hnn hsz
      obtain ⟨s, hse⟩ : ∃ s : Nat, max x (-x) = s := ⟨(max x (-x)).toNat, by omega⟩
      rw [hse] at hm hsz
      simp only [hse] at hv
      obtain ⟨p, hp⟩ : ∃ p : Nat, (q : Int) - s = p := ⟨((q : Int) - s).toNat, by omega⟩
      rw [hp] at hm
      have hrl : (y.drop (i + 1)).length ≤ 8 := by rw [List.length_drop, HN.out]; omega
      have hrn := vnum_ok (y.drop (i + 1)) hrl p (by omega) (by rw [hz]; omega)
      obtain ⟨R, hRe⟩ : ∃ R, vnum (y.drop (i + 1)) p = R := ⟨_, rfl⟩
      rw [hRe] at hm hrn
      have hr0 := hrn.1
      obtain ⟨d, hd⟩ : ∃ d, n - (i + 1) = d := ⟨_, rfl⟩
      rw [hd] at hm
      have hd7 : d ≤ 7 := by omega
      have hdi : (n : Int) - (i : Int) - 1 = (d : Int) := by omega
      have hxq : x ≤ (q : Int) ∧ -(q : Int) ≤ x := by omega
      have HV := Lib.hid hv
      have HM2 := Lib.hid hm
      have HR := Lib.hid hRe
      have HZ := Lib.hid (show Sp.sizes (y.drop (i + 1)) = (p : Int) by rw [hz]; omega)
      have HNN := Lib.hid (fun j x => sumUp_nn (m := d) (k := (q : Int)) (by omega) (by omega) j x)
      have hq8 : (q : Int) ≤ 8 := by omega
      have hT : (10 : Nat) ^ d ≤ 100000000 := Nat.le_trans (Nat.pow_le_pow_right (by omega) (show d ≤ 8 by omega)) (Nat.le_of_eq (by rfl))
      clear hv hm hnx hnn hxe hz hRe hrn hrl HM HSZ hsz
      go_wp2_with fail
      go_loopw [6, 9] (fun nv zv wr => ∃ (j N2 : Nat) (m2 z : Int) (D2 : DataW Unit), nv = .int .i64 m2 ∧ zv = .int .i64 z ∧ z + j = x ∧ -(q : Int) ≤ z ∧ 0 ≤ m2 ∧ m2 ≤ 1000000 ∧ Hid (m2 + (Sp.sumUp d q j z + R) = V) ∧ N2 ≤ (17 * i + (16 - j)) * 100000000 ∧ OwnC wr mb N2 D2 ∧ Good D2 ∧ Below w.heap.size w wr) (fun _ zv _ => (9 - intOf zv).toNat)
      case atStart =>
        have hN' : N ≤ (17 * i + (16 - (x + q).toNat)) * 100000000 := Nat.le_trans hN (Nat.mul_le_mul_right _ (by omega))
        exact ⟨(x + q).toNat, N, m, -(q : Int), D, rfl, rfl, by omega, by omega, hm0, hm1, HM2, hN', hO, hG, hb⟩
      case round =>
        clear hO hG hb hN cx
        obtain ⟨j, N2, m2, z, D2, rfl, rfl, hzj, hzq, hm20, hm21, HM3, hN2, hO, hG, hb⟩ := hrel
        by_cases hlt2 : z < x
        · obtain ⟨j, rfl⟩ : ∃ i, j = i + 1 := ⟨j - 1, by omega⟩
          obtain ⟨sz, hsz⟩ : ∃ t : Nat, max z (-z) = t := ⟨(max z (-z)).toNat, by omega⟩
          obtain ⟨pz, hpz⟩ : ∃ t : Nat, (q : Int) - sz = t := ⟨((q : Int) - sz).toNat, by omega⟩
          have hm3 := HM3.out
          have hnn := HNN.out j (z + 1)
          rw [sumUp_one, hsz, hpz, Sp.cntI_nat d (by omega)] at hm3
          have hvz := fun w => vsize_any z (by omega) (by omega) w
          simp only [hsz] at hvz
          have hof := fun N D w => of_any d (by omega) pz (by omega) mb N D w
          obtain ⟨c, hc⟩ : ∃ c, Sp.cnt d pz = c := ⟨_, rfl⟩
          rw [hc] at hm3
          simp only [hc] at hof
          obtain ⟨u, hu⟩ : ∃ u, Sp.sumUp d q j (z + 1) = u := ⟨_, rfl⟩
          rw [hu] at hm3 hnn
          have w1 : IntKind.i64.wrap (m2 + (c : Int)) = m2 + c := IntWalk.i64_in _ (by omega)
          have hmc : m2 + (c : Int) ≤ 1000000 := by omega
          have HU := Lib.hid hu
          have HM4 := Lib.hid (show m2 + c + (u + R) = V by omega)
          have HVZ := Lib.hid hvz
          have HOF := Lib.hid hof
          clear hm3 hnn hvz hof hu hc HM3 hsz
          go_wp2_with fail
          refine (HVZ.out _).mono ?_
          rintro e w2 ⟨rfl, rfl⟩
          go_wp2_with fail
          refine (HOF.out N2 D2 _ hO hG (by omega)).mono ?_
          rintro e w3 ⟨rfl, N3, D3, hN3, hO3, hG3, hK3⟩
          have hb3 : Below w.heap.size w w3 := hb.trans (hK3.below (fun g hg => by rw [hg]; exact hmb) hb.size)
          go_wp2_with fail
          go_roundw
          case rel =>
            refine ⟨j, N3, m2 + c, z + 1, D3, by go_num, by go_num, by omega, by omega, by omega, hmc, Lib.hid (by rw [HU.out]; exact HM4.out), ?_, hO3, hG3, hb3⟩
            refine Nat.le_trans hN3 (Nat.le_trans (Nat.add_le_add hN2 hT) ?_)
            rw [show (17 * i + (16 - (j + 1))) * 100000000 + 100000000 = (17 * i + (16 - (j + 1)) + 1) * 100000000 from (Nat.succ_mul _ _).symm]
            exact Nat.mul_le_mul_right _ (by omega)
          case measure => simp [intOf]; omega
        · obtain rfl : x = z := by omega
          obtain rfl : j = 0 := by omega
          have hm3 := HM3.out
          have hm4 : m2 + R = V := by simp only [Sp.sumUp] at hm3; omega
          have HM4 := Lib.hid hm4
          clear hm3 hm4 HM3
          go_wp2_with fail
          refine (HV.out _).mono ?_
          rintro e w2 ⟨rfl, rfl⟩
          go_wp2_with fail
          go_roundw
          case rel =>
            exact ⟨i + 1, p, N2, m2, D2, by omega, by go_num, rfl, by rw [← hp], by omega, hm20, hm21, Lib.hid (by rw [HR.out]; exact HM4.out), HZ, Nat.le_trans hN2 (Nat.mul_le_mul_right _ (by omega)), hO, hG, hb⟩
          case measure => simp [intOf]; omega
    · obtain rfl : n = i := by omega
      have hm := HM.out
      rw [HSN.out] at hm
      obtain rfl : m = V := by simp only [vnum] at hm; omega
      go_wp2_with fail
      go_ret2
      exact ⟨rfl, hb⟩
end Go.Proofs.YtkoljgmapclhkaaGreatDoor

namespace Go.Proofs.YtkoljgmapclhkaaGreatDoor
open Go.RowKit

theorem Nums.at {W : World} {base : Nat} {v : Value} {l : List Int} (h : Nums W base v l) (h1 : 1 ≤ l.length) : ∃ g cap cur, v = .slice (some ⟨g, 0, none⟩) l.length cap ∧ base ≤ g ∧ Blk W g cur 3 ∧ l.length ≤ cap ∧ cap ≤ maxLen ∧ cur.size = cap ∧ cur.toList.take l.length = intsV l := by
  rcases h.1.2 with ⟨_, h0⟩ | ⟨g, cap, cur, rfl, hb, hg, h3, h4, h5, h6⟩
  · omega
  · exact ⟨g, cap, cur, rfl, hb, hg, h3, h4, by omega, by rwa [Nat.mul_one] at h6⟩
theorem Nums.of {W : World} {base g cap : Nat} {cur : Array Value} {l : List Int} (hb : base ≤ g) (hg : Blk W g cur 3) (h3 : l.length ≤ cap) (h4 : cap ≤ maxLen) (h5 : cur.size = cap) (h6 : cur.toList.take l.length = intsV l) : Nums W base (.slice (some ⟨g, 0, none⟩) l.length cap) l :=
  ⟨⟨by rw [List.length_map]; omega, .inr ⟨g, cap, cur, rfl, hb, hg, h3, h4, by omega, by rw [Nat.mul_one]; exact h6⟩⟩, fun k hk => by
    obtain rfl : g = k := by simpa [Value.ownBlock] using hk
    exact hg.lt, Nat.le_refl _⟩
theorem heldL_get (c : List Int) {i : Nat} (h : i < c.length) : (heldL c).getD i 0 = max (min (c.getD i 0) 1048576) (-1048576) := by
  unfold heldL
  rw [List.getD_eq_getElem?_getD, List.getElem?_map, List.getElem?_eq_getElem h, List.getD_eq_getElem?_getD, List.getElem?_eq_getElem h]; rfl
theorem cur_get {cur : Array Value} {l : List Int} (h6 : cur.toList.take l.length = intsV l) {i : Nat} (hi : i < l.length) : cur[i]? = some (.int .i64 (l.getD i 0)) := by
  have h := congrArg (fun x : List Value => x[i]?) h6
  simp only [List.getElem?_take, if_pos hi] at h
  rw [← Array.getElem?_toList, h]
  exact ints_get hi
theorem cur_set {cur : Array Value} {l : List Int} (h6 : cur.toList.take l.length = intsV l) {i : Nat} (x : Int) : (cur.setIfInBounds i (.int .i64 x)).toList.take (l.set i x).length = intsV (l.set i x) := by
  rw [Array.toList_setIfInBounds, List.length_set, List.take_set, h6]
  exact ints_set l i x

set_option maxRecDepth 100000 in
set_option maxHeartbeats 1600000 in
theorem held_any (c : List Int) (n : Nat) (hn : c.length = n) (h1 : 1 ≤ n) (base : Nat) (v : Value) (w : World) (hN : Nums w base v c) :
    Calls Tryz.prog 93 #[v] w fun e w' => e = .returned v ∧ Nums w' base v (heldL c) ∧ Below base w w' := by
  obtain ⟨g, cap, cur, rfl, hbg, hg, h3, h4, h5, h6⟩ := hN.at (by omega)
  have hh := heldL_len c
  obtain ⟨F, hF⟩ : ∃ F, heldL c = F := ⟨_, rfl⟩
  have hget := fun i (hi : i < c.length) => heldL_get c hi
  simp only [hF] at hget
  rw [hF] at hh ⊢
  rw [hn] at hh h3 ⊢
  simp only [hn] at hget
  have HG := Lib.hid hget
  have HH := Lib.hid hh
  have HN := Lib.hid hn
  have hcm := h4
  unfold maxLen at hcm
  have hbs : base ≤ w.heap.size := by have := hg.lt; omega
  have hb0 := Below.refl base w
  have hT0 : Hid (cur.toList.take (turnF F c 0).length = intsV (turnF F c 0)) := Lib.hid (by rw [turnF_zero]; exact h6)
  clear hget hh hF hn hN h6
  go_enter Tryz.func93, Tryz.ntmps93
  go_wp2_with fail
  go_loopw [7] (fun iv wr => ∃ (i : Nat) (cu : Array Value), i ≤ n ∧ iv = .int .i64 i ∧ Blk wr g cu 3 ∧ cu.size = cap ∧ Hid (cu.toList.take (turnF F c i).length = intsV (turnF F c i)) ∧ Below base w wr) (fun iv _ => n - (intOf iv).toNat)
  case atStart => exact ⟨0, cur, by omega, rfl, hg, h5, hT0, hb0⟩
  case round =>
    clear hg hb0 h5 hT0
    obtain ⟨i, cu, hi2, rfl, hg, h5, HT, hb⟩ := hrel
    by_cases hlt : i < n
    · have hlti : (i : Int) < (n : Int) := by omega
      have LT := turnF_len (k := i) HH.out HN.out (Nat.le_of_lt hlt)
      have hx := turnF_get (f := F) (o := c) (k := i) HH.out hlt
      have hset := turnF_set (k := i) HH.out HN.out hlt (HG.out i hlt)
      obtain ⟨T, hTe⟩ : ∃ T, turnF F c i = T := ⟨_, rfl⟩
      have ht := HT.out
      rw [hTe] at LT hx hset ht
      have cx := (hg.cell i).trans (cur_get ht (by rw [LT.out]; exact hlt))
      rw [hx] at cx
      have hsz : i < cu.size := by omega
      have hcs := cur_set ht (i := i) (max (min (c.getD i 0) 1048576) (-1048576))
      rw [hset] at hcs
      have f3 := hg.frozen i
      obtain ⟨x, hxe⟩ : ∃ x, c.getD i 0 = x := ⟨_, rfl⟩
      rw [hxe] at cx hcs
      obtain ⟨z, hz⟩ : ∃ z, max (min x 1048576) (-1048576) = z := ⟨_, rfl⟩
      rw [hz] at hcs
      have HZ := Lib.hid hz
      have HCS := Lib.hid hcs
      have HG2 := hg.set i (.int .i64 z)
      clear hcs hz hset hx ht hxe hTe HT LT
      go_wp2_with fail
      rw [HZ.out]
      go_roundw
      case rel => exact ⟨i + 1, cu.setIfInBounds i (.int .i64 z), hlt, by go_num, HG2, by rw [Array.size_setIfInBounds]; exact h5, HCS, by exact bl_⟩
      case measure => simp [intOf]; omega
    · obtain rfl : n = i := by omega
      have ht := HT.out
      rw [turnF_all HH.out HN.out] at ht
      have hl := HH.out
      go_wp2_with fail
      go_ret
      refine ⟨rfl, ?_, hb⟩
      have h := Nums.of (base := base) hbg hg (by omega) h4 h5 ht
      rw [hl] at h
      exact h
end Go.Proofs.YtkoljgmapclhkaaGreatDoor

namespace Go.Proofs.YtkoljgmapclhkaaGreatDoor
open Go.RowKit

theorem infoI64 : (Tryz.prog.info? 3).map (fun i => (i.zero, i.size, i.bytes)) = some (some (.int .i64 0), 1, 8) := by kernel_rfl

end Go.Proofs.YtkoljgmapclhkaaGreatDoor

namespace Go.Proofs.YtkoljgmapclhkaaGreatDoor
open Go.RowKit

theorem Row.lit (w : World) (e : TypeId) (l : List Value) (B : Nat) (hB : B = w.heap.size) (hn : l.length ≤ maxLen) : Row (w.alloc (.cells l.toArray e)) e (.slice (some ⟨B, 0, none⟩) l.length l.length) l := by
  subst hB
  have h := World.ownsRow_lit (base := 0) (e := e) (size := 1) w l.toArray l.length (Nat.zero_le _) hn (by simp)
  simpa using Row.mk h
theorem belowN {B : Nat} {a w : World} (h : Below B a w) (n : Nat) : Below B a (w.drewN n) := ⟨h.os, h.tape, h.output, h.size, h.block⟩

end Go.Proofs.YtkoljgmapclhkaaGreatDoor

namespace Go.Proofs.YtkoljgmapclhkaaGreatDoor
open Go.RowKit

theorem Row.cap {W : World} {e : TypeId} {o : Option Addr} {n cap : Nat} {xs : List Value} (h : Row W e (.slice o n cap) xs) : n ≤ cap ∧ cap ≤ 9223372036854775807 := by
  rcases h.2 with ⟨he, _⟩ | ⟨g, cap', cur, he, hb, hg, hc, hm, hs, ht⟩
  · cases he; omega
  · cases he; simp only [maxLen] at hm; omega
theorem Row.pop {W : World} {e : TypeId} {g n cap : Nat} {xs : List Value} {x : Value} (hn : xs.length = n) (h : Row W e (.slice (some ⟨g, 0, none⟩) (n + 1) cap) (xs ++ [x])) : Row W e (.slice (some ⟨g, 0, none⟩) n cap) xs := by
  unfold Row at h ⊢
  rw [List.length_append, List.length_singleton, hn] at h
  rw [hn]
  exact ownsRow_pop (by omega) h
theorem Row.str {W : World} {v : Value} {l : List Int} (h : Row W 5 v (bytesV l)) : (convert 66 9 v).run Tryz.prog W = .ok (.string (strOfNums l)) W := by
  have h' := h
  rcases h.2 with ⟨rfl, h0⟩ | ⟨g, cap, cur, rfl, _⟩
  · obtain rfl : l = [] := by simpa using h0
    exact run_convert_bytes_nil W 66 5 Tryz.underlying66 Tryz.underlying5 0 0 9 Tryz.underlying9
  · refine run_convert_bytes_arg W 66 5 Tryz.underlying66 Tryz.underlying5 g 0 _ cap l (by simp) (fun i hi => ?_) 9 Tryz.underlying9
    rw [Nat.zero_add, h'.cellAt (by simp) i (by simpa using hi), bytes_get (by simpa using hi)]

end Go.Proofs.YtkoljgmapclhkaaGreatDoor

namespace Go.Proofs.YtkoljgmapclhkaaGreatDoor
open Go.RowKit

def DoneS (g : Nat) (e : Sp.Enc) (v : Value) (w w' : World) : Prop := Blk w' g (encC e v) 177 ∧ Row w' 5 v (bytesV e.out) ∧ Below w.heap.size w w'
theorem DoneS.drew {g : Nat} {e : Sp.Enc} {v : Value} {w w' : World} (h : DoneS g e v w w') : DoneS g e v w w'.drew := ⟨h.1.drew, h.2.1.drew, h.2.2.drew⟩
theorem DoneS.alloc {g : Nat} {e : Sp.Enc} {v : Value} {w w' : World} (h : DoneS g e v w w') (o : Obj) : DoneS g e v w (w'.alloc o) := ⟨h.1.alloc _, h.2.1.alloc _, Below.alloc h.2.2 h.2.2.size _⟩
theorem convert4 (W : World) (a b c d : Int) :
    (convert 66 9 (.slice (some ⟨W.heap.size, 0, none⟩) 4 4)).run Tryz.prog (W.alloc (.cells #[.int .u8 a, .int .u8 b, .int .u8 c, .int .u8 d] 5)).drew = .ok (.string (strOfNums [a, b, c, d])) (W.alloc (.cells #[.int .u8 a, .int .u8 b, .int .u8 c, .int .u8 d] 5)).drew :=
  Row.str (l := [a, b, c, d]) (Row.lit W 5 (bytesV [a, b, c, d]) W.heap.size rfl (by simp [maxLen])).drew

set_option maxRecDepth 100000 in
set_option maxHeartbeats 1600000 in
theorem EncDone_any (g : Nat) {b : Int} {e : Sp.Enc} (hd : e.Ok b) (hb : b ≤ 1000000000) (n : Nat) (hn : e.size = n) (hn1 : n ≤ 4096) (v : Value) (w : World) (hB : Blk w g (encC e v) 177) (hR : Row w 5 v (bytesV e.out)) :
    Calls Tryz.prog 99 #[.pointer (some ⟨g, 0, none⟩)] w fun x w' => x = .returned (.tuple #[.string (Sp.fitS e.all n), .int .i64 (if Sp.fitOk e.all n then 0 else 5)]) ∧ Below w.heap.size w w' := by
  have hS0 : DoneS g e v w w := ⟨hB, hR, Below.refl _ _⟩
  have hS1 := hS0.drew
  have hall := Sp.Enc.all_bytes hd.bytes
  obtain ⟨A, hA⟩ : ∃ A, e.all = A := ⟨_, rfl⟩
  have hAlen : (A.length : Int) ≤ 1000000010 := by rw [← hA, Sp.Enc.all_length]; have := hd.len; omega
  rw [hA] at hall ⊢
  have hw8 : ∀ x : Int, IntKind.u8.wrap x = x % 256 := fun x => rfl
  have hA2 : strOfNums e.out ++ strOfNums [IntKind.u8.wrap (e.low / 16777216), IntKind.u8.wrap (e.low / 65536), IntKind.u8.wrap (e.low / 256), IntKind.u8.wrap e.low] = strOfNums A := by
    simp only [hw8]; rw [Sp.strOfNums_append, ← hA]; rfl
  have hA3 : ¬ 9223372036854775807 < (strOfNums e.out).size + (strOfNums [IntKind.u8.wrap (e.low / 16777216), IntKind.u8.wrap (e.low / 65536), IntKind.u8.wrap (e.low / 256), IntKind.u8.wrap e.low]).size := by
    rw [strOfNums_size, strOfNums_size]; have := hd.len; simp only [List.length_cons, List.length_nil]; omega
  have HA2 := Lib.hid hA2
  clear hA2 hw8
  clear hA
  obtain ⟨TS, hTS⟩ : ∃ TS : ByteArray, ⟨(Lib.trimRightB (strOfNums A).data.toList 0).toArray⟩ = TS := ⟨_, rfl⟩
  have htrim : ∀ w, Calls Tryz.prog 141 #[.string (strOfNums A), .string ⟨#[0]⟩] w fun e w' => e = .returned (.string TS) ∧ w = w' := by
    intro w
    refine (Tryz.strings_TrimRight_one _ 0 (by decide) _ (by rw [strOfNums_size]; omega)).mono ?_
    rintro e w' ⟨rfl, rfl⟩
    exact ⟨by rw [hTS], rfl⟩
  obtain ⟨N, hN⟩ : ∃ N, TS.size = N := ⟨_, rfl⟩
  have hN2 : (Sp.trimZ A).length = N := by rw [← hN, ← hTS, Sp.trimText_size hall]
  have hNA : N ≤ A.length := by rw [← hN2]; exact Sp.trimZ_len A
  have hl : ∀ w', DoneS g e v w w' → w'.cell? ⟨g, 1, none⟩ = some (.int .u64 e.low) := fun w' h => (h.1.cell 1).trans rfl
  have ho : ∀ w', DoneS g e v w w' → w'.cell? ⟨g, 3, none⟩ = some v := fun w' h => (h.1.cell 3).trans rfl
  have hz : ∀ w', DoneS g e v w w' → w'.cell? ⟨g, 0, none⟩ = some (.int .i64 n) := fun w' h => (h.1.cell 0).trans (by rw [← hn]; rfl)
  have hc : ∀ w', DoneS g e v w w' → (convert 66 9 v).run Tryz.prog w' = .ok (.string (strOfNums e.out)) w' := fun w' h => h.2.1.str
  have hl0 := hd.low0
  have hl1 := hd.low1
  clear hd hB hR
  go_enter Tryz.func99, Tryz.ntmps99
  go_wp2_with fail
  refine wp_region_noPanic ?_
  refine wp_region_held_drew (S := fun w' => DoneS g e v w w') (by kernel_rfl) hS1 (fun hHeld => ?_)
  refine wpAnyH_take (i := 0) (oi := Oper.mk _ _ _ _ _ _) (v := ?_) rfl (by kernel_rfl) (by kernel_rfl) (by kernel_rfl) (fun _ _ _ h => h) (Or.inl ⟨by rfl, ?_⟩) (by assumption) ?_
  rotate_left
  · intro w' hSw
    (try dsimp only at hSw)
    go_simp
    (try with_reducible rfl)
  simp only [Act.put, sa, List.set_cons_zero, List.set_cons_succ]
  refine wpAnyH_take (i := 1) (oi := Oper.mk _ _ _ _ _ _) (v := ?_) rfl (by kernel_rfl) (by kernel_rfl) (by kernel_rfl) (fun _ _ _ h => h) (Or.inl ⟨by rfl, ?_⟩) (by assumption) ?_
  rotate_left
  · intro w' hSw
    (try dsimp only at hSw)
    go_simp
    (try with_reducible rfl)
  simp only [Act.put, sa, List.set_cons_zero, List.set_cons_succ]
  refine wpAnyH_take (i := 2) (oi := Oper.mk _ _ _ _ _ _) (v := ?_) rfl (by kernel_rfl) (by kernel_rfl) (by kernel_rfl) (fun _ _ _ h => h) (Or.inl ⟨by rfl, ?_⟩) (by assumption) ?_
  rotate_left
  · intro w' hSw
    (try dsimp only at hSw)
    go_simp
    (try with_reducible rfl)
  simp only [Act.put, sa, List.set_cons_zero, List.set_cons_succ]
  refine wpAnyH_take (i := 3) (oi := Oper.mk _ _ _ _ _ _) (v := ?_) rfl (by kernel_rfl) (by kernel_rfl) (by kernel_rfl) (fun _ _ _ h => h) (Or.inl ⟨by rfl, ?_⟩) (by assumption) ?_
  rotate_left
  · intro w' hSw
    (try dsimp only at hSw)
    go_simp
    (try with_reducible rfl)
  simp only [Act.put, sa, List.set_cons_zero, List.set_cons_succ]
  refine wpAnyH_take (i := 4) (oi := Oper.mk _ _ _ _ _ _) (v := ?_) rfl (by kernel_rfl) (by kernel_rfl) (by kernel_rfl) (fun _ _ _ h => h) (Or.inl ⟨by rfl, ?_⟩) (by assumption) ?_
  rotate_left
  · intro w' hSw
    (try dsimp only at hSw)
    go_simp
    (try with_reducible rfl)
  simp only [Act.put, sa, List.set_cons_zero, List.set_cons_succ]
  refine wpAnyH_take (i := 5) (oi := Oper.mk _ _ _ _ _ _) (v := ?_) rfl (by kernel_rfl) (by kernel_rfl) (by kernel_rfl) (fun _ _ _ h => h) (Or.inl ⟨by rfl, ?_⟩) (by assumption) ?_
  rotate_left
  · intro w' hSw
    (try dsimp only at hSw)
    go_simp
    (try with_reducible rfl)
  simp only [Act.put, sa, List.set_cons_zero, List.set_cons_succ]
  refine wpAnyH_take (i := 6) (oi := Oper.mk _ _ _ _ _ _) (v := ?_) rfl (by kernel_rfl) (by kernel_rfl) (by kernel_rfl) (fun _ _ _ h => h) (Or.inl ⟨by rfl, ?_⟩) (by assumption) ?_
  rotate_left
  · intro w' hSw
    (try dsimp only at hSw)
    go_simp
    (try with_reducible rfl)
  simp only [Act.put, sa, List.set_cons_zero, List.set_cons_succ]
  refine wpAnyH_take (i := 7) (oi := Oper.mk _ _ _ _ _ _) (v := ?_) rfl (by kernel_rfl) (by kernel_rfl) (by kernel_rfl) (fun _ _ _ h => h) (Or.inl ⟨by rfl, ?_⟩) (by assumption) ?_
  rotate_left
  · intro w' hSw
    (try dsimp only at hSw)
    go_simp
    (try with_reducible rfl)
  simp only [Act.put, sa, List.set_cons_zero, List.set_cons_succ]
  refine wpAnyH_take (i := 8) (oi := Oper.mk _ _ _ _ _ _) (v := ?_) rfl (by kernel_rfl) (by kernel_rfl) (by kernel_rfl) (fun _ _ _ h => h) (Or.inl ⟨by rfl, ?_⟩) (by assumption) ?_
  rotate_left
  · intro w' hSw
    (try dsimp only at hSw)
    go_simp
    (try with_reducible rfl)
  simp only [Act.put, sa, List.set_cons_zero, List.set_cons_succ]
  refine wpAnyH_take (i := 9) (oi := Oper.mk _ _ _ _ _ _) (v := ?_) rfl (by kernel_rfl) (by kernel_rfl) (by kernel_rfl) (fun _ _ _ h => h) (Or.inl ⟨by rfl, ?_⟩) (by assumption) ?_
  rotate_left
  · intro w' hSw
    (try dsimp only at hSw)
    go_simp
    (try with_reducible rfl)
  simp only [Act.put, sa, List.set_cons_zero, List.set_cons_succ]
  refine wpAnyH_take (i := 10) (oi := Oper.mk _ _ _ _ _ _) (v := ?_) rfl (by kernel_rfl) (by kernel_rfl) (by kernel_rfl) (fun _ _ _ h => h) (Or.inl ⟨by rfl, ?_⟩) (by assumption) ?_
  rotate_left
  · intro w' hSw
    (try dsimp only at hSw)
    go_simp
    (try with_reducible rfl)
  simp only [Act.put, sa, List.set_cons_zero, List.set_cons_succ]
  refine wpAnyH_take (i := 11) (oi := Oper.mk _ _ _ _ _ _) (v := ?_) rfl (by kernel_rfl) (by kernel_rfl) (by kernel_rfl) (fun _ _ _ h => h) (Or.inl ⟨by rfl, ?_⟩) (by assumption) ?_
  rotate_left
  · intro w' hSw
    (try dsimp only at hSw)
    go_simp
    (try with_reducible rfl)
  simp only [Act.put, sa, List.set_cons_zero, List.set_cons_succ]
  refine wpAnyH_take (i := 12) (oi := Oper.mk _ _ _ _ _ _) (v := ?_) rfl (by kernel_rfl) (by kernel_rfl) (by kernel_rfl) (fun _ _ _ h => h) (Or.inl ⟨by rfl, ?_⟩) (by assumption) ?_
  rotate_left
  · intro w' hSw
    (try dsimp only at hSw)
    go_simp
    (try with_reducible rfl)
  simp only [Act.put, sa, List.set_cons_zero, List.set_cons_succ]
  refine wpAnyH_take (i := 13) (oi := Oper.mk _ _ _ _ _ _) (v := ?_) rfl (by kernel_rfl) (by kernel_rfl) (by kernel_rfl) (fun _ _ _ h => h) (Or.inl ⟨by rfl, ?_⟩) (by assumption) ?_
  rotate_left
  · intro w' hSw
    (try dsimp only at hSw)
    go_simp
    (try with_reducible rfl)
  simp only [Act.put, sa, List.set_cons_zero, List.set_cons_succ]
  refine wpAnyH_take (i := 14) (oi := Oper.mk _ _ _ _ _ _) (v := ?_) rfl (by kernel_rfl) (by kernel_rfl) (by kernel_rfl) (fun _ _ _ h => h) (Or.inl ⟨by rfl, ?_⟩) (by assumption) ?_
  rotate_left
  · intro w' hSw
    (try dsimp only at hSw)
    go_simp
    (try with_reducible rfl)
  simp only [Act.put, sa, List.set_cons_zero, List.set_cons_succ]
  refine wpAnyH_take (i := 15) (oi := Oper.mk _ _ _ _ _ _) (v := ?_) rfl (by kernel_rfl) (by kernel_rfl) (by kernel_rfl) (fun _ _ _ h => h) (Or.inl ⟨by rfl, ?_⟩) (by assumption) ?_
  rotate_left
  · intro w' hSw
    (try dsimp only at hSw)
    go_simp
    (try with_reducible rfl)
  simp only [Act.put, sa, List.set_cons_zero, List.set_cons_succ]
  refine wpAnyH_take (i := 16) (oi := Oper.mk _ _ _ _ _ _) (v := ?_) rfl (by kernel_rfl) (by kernel_rfl) (by kernel_rfl) (fun _ _ _ h => h) (Or.inl ⟨by rfl, ?_⟩) (by assumption) ?_
  rotate_left
  · intro w' hSw
    (try dsimp only at hSw)
    go_simp
    (try with_reducible rfl)
  simp only [Act.put, sa, List.set_cons_zero, List.set_cons_succ]
  refine wpAnyH_take (i := 17) (oi := Oper.mk _ _ _ _ _ _) (v := ?_) rfl (by kernel_rfl) (by kernel_rfl) (by kernel_rfl) (fun _ _ _ h => h) (Or.inl ⟨by rfl, ?_⟩) (by assumption) ?_
  rotate_left
  · intro w' hSw
    (try dsimp only at hSw)
    go_simp
    (try with_reducible rfl)
  simp only [Act.put, sa, List.set_cons_zero, List.set_cons_succ]
  refine wpAnyH_take (i := 18) (oi := Oper.mk _ _ _ _ _ _) (v := ?_) rfl (by kernel_rfl) (by kernel_rfl) (by kernel_rfl) (fun _ _ _ h => h) (Or.inl ⟨by rfl, ?_⟩) (by assumption) ?_
  rotate_left
  · intro w' hSw
    (try dsimp only at hSw)
    go_simp
    (try with_reducible rfl)
  simp only [Act.put, sa, List.set_cons_zero, List.set_cons_succ]
  refine wpAnyH_take (i := 19) (oi := Oper.mk _ _ _ _ _ _) (v := ?_) rfl (by kernel_rfl) (by kernel_rfl) (by kernel_rfl) (fun _ _ _ h => h) (Or.inl ⟨by rfl, ?_⟩) (by assumption) ?_
  rotate_left
  · intro w' hSw
    (try dsimp only at hSw)
    go_simp
    (try with_reducible rfl)
  simp only [Act.put, sa, List.set_cons_zero, List.set_cons_succ]
  refine wpAnyH_take (i := 20) (oi := Oper.mk _ _ _ _ _ _) (v := ?_) rfl (by kernel_rfl) (by kernel_rfl) (by kernel_rfl) (fun _ _ _ h => h) (Or.inl ⟨by rfl, ?_⟩) (by assumption) ?_
  rotate_left
  · intro w' hSw
    (try dsimp only at hSw)
    go_simp
    (try with_reducible rfl)
  simp only [Act.put, sa, List.set_cons_zero, List.set_cons_succ]
  refine wpAnyH_take (i := 21) (oi := Oper.mk _ _ _ _ _ _) (v := ?_) rfl (by kernel_rfl) (by kernel_rfl) (by kernel_rfl) (fun _ _ _ h => h) (Or.inl ⟨by rfl, ?_⟩) (by assumption) ?_
  rotate_left
  · intro w' hSw
    (try dsimp only at hSw)
    go_simp
    (try with_reducible rfl)
  simp only [Act.put, sa, List.set_cons_zero, List.set_cons_succ]
  refine wpAnyH_take (i := 22) (oi := Oper.mk _ _ _ _ _ _) (v := ?_) rfl (by kernel_rfl) (by kernel_rfl) (by kernel_rfl) (fun _ _ _ h => h) (Or.inl ⟨by rfl, ?_⟩) (by assumption) ?_
  rotate_left
  · intro w' hSw
    (try dsimp only at hSw)
    go_simp
    (try with_reducible rfl)
  simp only [Act.put, sa, List.set_cons_zero, List.set_cons_succ]
  refine wpAnyH_take (i := 23) (oi := Oper.mk _ _ _ _ _ _) (v := ?_) rfl (by kernel_rfl) (by kernel_rfl) (by kernel_rfl) (fun _ _ _ h => h) (Or.inl ⟨by rfl, ?_⟩) (by assumption) ?_
  rotate_left
  · intro w' hSw
    (try dsimp only at hSw)
    go_simp
    (try with_reducible rfl)
  simp only [Act.put, sa, List.set_cons_zero, List.set_cons_succ]
  refine wpAnyH_take (i := 24) (oi := Oper.mk _ _ _ _ _ _) (v := ?_) rfl (by kernel_rfl) (by kernel_rfl) (by kernel_rfl) (fun _ _ _ h => h) (Or.inl ⟨by rfl, ?_⟩) (by assumption) ?_
  rotate_left
  · intro w' hSw
    (try dsimp only at hSw)
    go_simp
    (try with_reducible rfl)
  simp only [Act.put, sa, List.set_cons_zero, List.set_cons_succ]
  refine wpAnyH_take (i := 25) (oi := Oper.mk _ _ _ _ _ _) (v := ?_) rfl (by kernel_rfl) (by kernel_rfl) (by kernel_rfl) (fun _ _ _ h => h) (Or.inl ⟨by rfl, ?_⟩) (by assumption) ?_
  rotate_left
  · intro w' hSw
    (try dsimp only at hSw)
    go_simp
    (try with_reducible rfl)
  simp only [Act.put, sa, List.set_cons_zero, List.set_cons_succ]
  refine wpAnyH_take (i := 26) (oi := Oper.mk _ _ _ _ _ _) (v := ?_) rfl (by kernel_rfl) (by kernel_rfl) (by kernel_rfl) (fun _ _ _ h => h) (Or.inl ⟨by rfl, ?_⟩) (by assumption) ?_
  rotate_left
  · intro w' hSw
    (try dsimp only at hSw)
    go_simp
    (try with_reducible rfl)
  simp only [Act.put, sa, List.set_cons_zero, List.set_cons_succ]
  refine wpAnyH_take (i := 27) (oi := Oper.mk _ _ _ _ _ _) (v := ?_) rfl (by kernel_rfl) (by kernel_rfl) (by kernel_rfl) (fun _ _ _ h => h) (Or.inl ⟨by rfl, ?_⟩) (by assumption) ?_
  rotate_left
  · intro w' hSw
    (try dsimp only at hSw)
    go_simp
    (try with_reducible rfl)
  simp only [Act.put, sa, List.set_cons_zero, List.set_cons_succ]
  have h4 := convert4 w
  have hS2 : ∀ o, DoneS g e v w (w.alloc o).drew := fun o => (hS0.alloc o).drew
  refine wpAnyH_ready (rs := [28]) (by kernel_rfl) (by simp) ?_
  refine AllReadyH.cons (o := Oper.mk _ _ _ _ _ _) rfl (fun K hK => ?_) AllReadyH.nil
  go_simp
  refine hK.out _ _ (hS2 _) (fun hHeld => ?_)
  clear hK K
  refine wpAnyH_ready (rs := [29]) (by kernel_rfl) (by simp) ?_
  refine AllReadyH.cons (o := Oper.mk _ _ _ _ _ _) rfl (fun K hK => ?_) AllReadyH.nil
  go_simp
  refine hK.out _ _ (hS2 _) (fun hHeld => ?_)
  clear hK K
  refine wpAnyH_take (i := 30) (oi := Oper.mk _ _ _ _ _ _) (v := ?_) rfl (by kernel_rfl) (by kernel_rfl) (by kernel_rfl) (fun _ _ _ h => h) (Or.inl ⟨by rfl, ?_⟩) (by assumption) ?_
  rotate_left
  · intro w' hSw
    (try dsimp only at hSw)
    go_simp
    (try with_reducible rfl)
  simp only [Act.put, sa, List.set_cons_zero, List.set_cons_succ]
  refine wpAnyH_take (i := 31) (oi := Oper.mk _ _ _ _ _ _) (v := ?_) rfl (by kernel_rfl) (by kernel_rfl) (by kernel_rfl) (fun _ _ _ h => h) (Or.inl ⟨by rfl, ?_⟩) (by assumption) ?_
  rotate_left
  · intro w' hSw
    (try dsimp only at hSw)
    go_simp
    (try with_reducible rfl)
  simp only [Act.put, sa, List.set_cons_zero, List.set_cons_succ]
  refine wpAnyH_done (by kernel_rfl) (NoPanic.normal ?_) _
  rw [HA2.out]
  have hz0 := hz _ (hS2 (.cells #[.int .u8 (IntKind.u8.wrap (e.low / 16777216)), .int .u8 (IntKind.u8.wrap (e.low / 65536)), .int .u8 (IntKind.u8.wrap (e.low / 256)), .int .u8 (IntKind.u8.wrap e.low)] 5))
  have hb0 := (hS2 (.cells #[.int .u8 (IntKind.u8.wrap (e.low / 16777216)), .int .u8 (IntKind.u8.wrap (e.low / 65536)), .int .u8 (IntKind.u8.wrap (e.low / 256)), .int .u8 (IntKind.u8.wrap e.low)] 5)).2.2
  generalize (w.alloc (.cells #[.int .u8 (IntKind.u8.wrap (e.low / 16777216)), .int .u8 (IntKind.u8.wrap (e.low / 65536)), .int .u8 (IntKind.u8.wrap (e.low / 256)), .int .u8 (IntKind.u8.wrap e.low)] 5)).drew = w2 at hz0 hb0 ⊢
  clear hHeld hS2 h4 hc hz ho hl hA3 HA2 hS1 hS0
  by_cases hfit : N ≤ n
  · have hrep : ∀ w, Calls Tryz.prog 142 #[.string ⟨#[0]⟩, .int .i64 ((n : Int) - N)] w fun e w' => e = .returned (.string ⟨(Lib.repeatL [0] (n - N)).toArray⟩) ∧ Below w.heap.size w w' := by
      intro w
      have h := Tryz.strings_Repeat ⟨#[0]⟩ (n - N) w (by omega) (by simp [ByteArray.size]; omega)
      rw [show ((n - N : Nat) : Int) = (n : Int) - N from by omega] at h
      exact h
    have hsz : ¬ 9223372036854775807 < TS.size + (⟨(Lib.repeatL [0] (n - N)).toArray⟩ : ByteArray).size := by
      rw [hN]; simp only [ByteArray.size, List.size_toArray, Lib.repeatL_length]; simp; omega
    have hfin : TS ++ ⟨(Lib.repeatL [0] (n - N)).toArray⟩ = Sp.fitS A n := by
      rw [← hTS, ← hN2]; exact Sp.fitS_text hall (by omega)
    have hok : Sp.fitOk A n = true := by rw [Sp.fitOk, decide_eq_true (by omega)]
    go_wp2_with (first | (go_at_call 141; refine (htrim _).mono ?_; rintro e w' ⟨rfl, rfl⟩) | (go_at_call 142; refine (hrep _).mono ?_; rintro e w' ⟨rfl, hrb⟩))
    all_goals
      go_ret2
      exact ⟨rfl, hb0.trans (hrb.mono (by have := hb0.size; omega))⟩
  · have hok : Sp.fitOk A n = false := by rw [Sp.fitOk, decide_eq_false (by omega)]
    have hno : Sp.fitS A n = ⟨#[]⟩ := Sp.fitS_no (by omega)
    go_wp2_with (first | (go_at_call 141; refine (htrim _).mono ?_; rintro e w' ⟨rfl, rfl⟩))
    all_goals
      go_ret2
      exact ⟨rfl, hb0⟩
end Go.Proofs.YtkoljgmapclhkaaGreatDoor
