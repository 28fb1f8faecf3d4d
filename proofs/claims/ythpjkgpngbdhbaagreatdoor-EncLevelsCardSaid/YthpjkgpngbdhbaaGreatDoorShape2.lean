/- The walk of shape.Find: pulses given to waves. -/
import Derived.Test.YthpjkgpngbdhbaaGreatDoorShape
import Derived.Test.YthpjkgpngbdhbaaGreatDoorLot7
set_option linter.unusedSimpArgs false
set_option linter.unusedVariables false
namespace Go.Proofs.YthpjkgpngbdhbaaGreatDoor
open Go.RowKit

theorem made_zs (n : Nat) : madeCells #[.int .i64 0] n = arrV (zs n) := by
  apply Array.ext'
  have e : (fun x : Nat => ([Value.int IntKind.i64 0] : List Value)[x % 1]?.getD default) = fun _ => Value.int IntKind.i64 0 := by funext x; rw [Nat.mod_one]; rfl
  simp [madeCells, arrV, intsV, Go.Proofs.YthpjkgpngbdhbaaGreatDoor.zs, e, List.map_const']
theorem turnF_get {f o : List Int} {n k : Nat} (h : f.length = n) (hk : k < n) : (turnF f o k).getD k 0 = o.getD k 0 := by
  unfold turnF
  have hl : (f.take k).length = k := by rw [List.length_take]; omega
  rw [List.getD_eq_getElem?_getD, List.getElem?_append_right (by omega), hl, Nat.sub_self, List.getElem?_drop, Nat.add_zero, ← List.getD_eq_getElem?_getD]
theorem turnF_same {f o : List Int} {n k : Nat} (h : f.length = n) (ho : o.length = n) (hk : k < n) (hx : f.getD k 0 = o.getD k 0) : turnF f o (k + 1) = turnF f o k := by
  rw [← turnF_set h ho hk rfl, hx, ← turnF_get (f := f) (o := o) h hk]
  have hlen := (turnF_len (k := k) h ho (Nat.le_of_lt hk)).out
  apply List.ext_getElem?
  intro j
  rw [List.getElem?_set]
  split
  · next e =>
    subst e
    rw [if_pos (by omega), List.getD_eq_getElem?_getD, List.getElem?_eq_getElem (by omega)]; rfl
  · rfl
/-- Memory while pulses are given. -/
structure FindW (w wr : World) (B gy g o n cap lo hi : Nat) (cl : List Int) (p : Puls) : Prop where
  c : Blk wr B #[.slice (some ⟨g, o, none⟩) n cap] 62
  s : SL wr lo hi 1 (some ⟨g, o, none⟩) n cap (intsV cl)
  y : Blk wr gy (arrV p.y) 3
  yc : Blk wr (gy + 1) #[.slice (some ⟨gy, 0, none⟩) n n] 62
  a : Blk wr (gy + 1 + 1) #[.int .i64 p.a] 3
  q : Blk wr (gy + 1 + 1 + 1) #[.int .i64 p.q] 3
  far : Below B w wr
  size : gy + 4 ≤ wr.heap.size
theorem FindW.newB {w wr w' : World} {B gy g o n cap lo hi : Nat} {c : List Int} {p : Puls} (h : FindW w wr B gy g o n cap lo hi c p) (hb : Below wr.heap.size wr w') (hB : B ≤ gy) : FindW w w' B gy g o n cap lo hi c p :=
  ⟨h.c.newB hb, h.s.newB hb, h.y.newB hb, h.yc.newB hb, h.a.newB hb, h.q.newB hb, h.far.trans (hb.mono (by have := h.size; omega)), Nat.le_trans h.size hb.size⟩
theorem FindW.drew {w wr : World} {B gy g o n cap lo hi : Nat} {c : List Int} {p : Puls} (h : FindW w wr B gy g o n cap lo hi c p) : FindW w wr.drew B gy g o n cap lo hi c p :=
  ⟨h.c.drew, h.s.drew, h.y.drew, h.yc.drew, h.a.drew, h.q.drew, h.far.drew, h.size⟩
theorem sbest_n (c y : List Int) (a q : Int) {n i : Nat} (h1 : 1 ≤ n) (hi : i ≤ n) : sbest c y a q i < n := by
  rcases Nat.eq_zero_or_pos i with rfl | h0
  · show 0 < n; omega
  · have := sbest_lt c y a q (n := i) h0; omega
theorem topV_bd {c : List Int} (hc : ∀ x ∈ c, -1048576 ≤ x ∧ x ≤ 1048576) {a : Int} (h0 : 0 ≤ a) (h1 : a ≤ 8388608) (i : Nat) : 0 ≤ topV c a i ∧ topV c a i ≤ 89060441849856 := by
  have h := absAt_bd hc i
  unfold topV
  have hm := abs_mul_bd (x := a + absAt c i) (y := a + absAt c i) (A := 9437184) (B := 9437184) (by decide) (by decide) (by omega) (by omega)
  have hn := Int.mul_nonneg (a := a + absAt c i) (b := a + absAt c i) (by omega) (by omega)
  exact ⟨hn, hm.2⟩
theorem botV_bd {y : List Int} (hy : ∀ x ∈ y, 0 ≤ x ∧ x ≤ 8) {q : Int} (h0 : 0 ≤ q) (h1 : q ≤ 100) (i : Nat) : 0 ≤ botV y q i ∧ botV y q i ≤ 200 := by
  unfold botV
  rw [List.getD_eq_getElem?_getD]
  cases h : y[i]? with
  | none => simp; omega
  | some x => have := hy x (List.mem_of_getElem? h); simp only [Option.getD_some]; omega
set_option maxRecDepth 100000 in
set_option maxHeartbeats 16000000 in
theorem SFind_any (c : List Int) (hc : ∀ x ∈ c, -1048576 ≤ x ∧ x ≤ 1048576) (n : Nat) (hn : c.length = n) (h1 : 1 ≤ n) (h8 : n ≤ 8) (k : Nat) (hk : k ≤ 8) (pp : Option Addr) (cap lo hi : Nat) (w : World) (hS : SL w lo hi 1 pp n cap (intsV c)) :
    Calls Tryz.prog 69 #[.slice pp n cap, .int .i64 k] w fun e w' => ∃ v, e = .returned (.tuple #[v, .int .i64 0]) ∧ Nums w' w.heap.size v (findL c k) ∧ Below w.heap.size w w' := by
  obtain ⟨g, o, rfl⟩ := sl_someE hS h1
  have hcap := hS.2.1
  have hcm := hS.2.2.1
  unfold maxLen at hcm
  have hhi := hS.2.2.2.1
  have hPO := fun t => fpul_ok hc (by omega) t
  have hri := fun W (h : SL W lo hi 1 (some ⟨g, o, none⟩) n cap (intsV c)) => shright_yes c hc (by omega) (by omega) k hk (.slice (some ⟨g, o, none⟩) c.length cap) W ⟨some ⟨g, o, none⟩, cap, rfl, by omega, by omega, fun j x hx => ⟨g, o, rfl, by
    have hj := (List.getElem?_eq_some_iff.1 hx).1
    have h2 := h.2.2.2.2.2.2 _ rfl j (.int .i64 x) (by rw [List.getElem?_map, hx]; rfl)
    exact h2⟩⟩
  rw [hn] at hri
  have hmk : ∀ w, (Instr.makeSlice 62 (.int .i64 (n : Int)) (.int .i64 (n : Int))).run Tryz.prog w = .ok (.slice (some ⟨w.heap.size, 0, none⟩) n n) (w.alloc (.cells (arrV (zs n)) 3)) := fun w => by
    have h := run_make_row' (P := Tryz.prog) 62 3 (.int .i64 0) 8 Tryz.underlying62 madeI rfl .i64 .i64 n (by omega) (by omega) w
    rw [h, ← made_zs]
  obtain ⟨FR, hFR⟩ : ∃ x, findL c k = x := ⟨_, rfl⟩
  rw [hFR]
  have HFR := Lib.hid hFR
  clear hFR
  have HPO := Lib.hid hPO
  have HRI := Lib.hid hri
  have HMK := Lib.hid hmk
  have HC := Lib.hid hc
  have HN := Lib.hid hn
  clear hPO hri hmk hc hn
  obtain ⟨B, hB⟩ : ∃ B, w.heap.size = B := ⟨_, rfl⟩
  rw [hB] at hhi
  have hfar := Below.refl B w
  have hsz : B ≤ w.heap.size := by omega
  go_enter Tryz.func69, Tryz.ntmps69
  go_upto_region 1 with (fail)
  refine wp_gen (fun W => SL W (lo) (hi) (1) (some ⟨g, o, none⟩) (n) (cap) (intsV c) ∧ Blk W (B) (#[.slice (some ⟨g, o, none⟩) n cap]) 62 ∧ Below (B) w W ∧ B + 1 ≤ W.heap.size) ⟨sl_, bk_, bl_, sz_⟩ ?_
  clear hS hfar hsz
  rintro w1 ⟨hS, hCc, hfar, hsz⟩
  have c0 := hCc.cell 0
  simp only [List.getElem?_toArray, List.getElem?_cons_zero] at c0
  go_wp2_with fail
  refine (HRI.out _ hS).mono ?_
  rintro e w' ⟨rfl, rfl⟩
  obtain ⟨gy, hgy⟩ : ∃ x, w1.heap.size = x := ⟨_, rfl⟩
  have hBy : B + 1 ≤ gy := by omega
  have hmk := HMK.out w1
  go_upto_region 5 with (fail)
  have hP0 : fpul c 0 = ⟨zs n, 0, 0⟩ := by rw [← HN.out]; rfl
  refine wp_gen (fun W => SL W (lo) (hi) (1) (some ⟨g, o, none⟩) (n) (cap) (intsV c) ∧ Blk W (B) (#[.slice (some ⟨g, o, none⟩) n cap]) 62 ∧ Blk W (gy) (arrV (zs n)) 3 ∧ Blk W (gy + 1) (#[.slice (some ⟨gy, 0, none⟩) n n]) 62 ∧ Blk W (gy + 1 + 1) (#[.int .i64 0]) 3 ∧ Blk W (gy + 1 + 1 + 1) (#[.int .i64 0]) 3 ∧ Below (B) w W ∧ gy + 4 ≤ W.heap.size) ⟨sl_, bk_, bk_, bk_, bk_, bk_, bl_, sz_⟩ ?_
  clear hS hCc hfar hsz
  rintro w2 ⟨hS, hCc, hY, hYc, hAa, hQ, hfar, hsz⟩
  have hF : FindW w w2 B gy g o n cap lo hi c (fpul c 0) := by rw [hP0]; exact ⟨hCc, hS, hY, hYc, hAa, hQ, hfar, hsz⟩
  clear c0 hmk hY hYc hAa hQ hCc hS hfar hsz hP0
  have hf1 := fun t (ht : t ≤ 8) j (hj : j < n) W (h : FindW w W B gy g o n cap lo hi c (fpul c t)) => Find1_any c HC.out g o cap lo hi (gy + 1 + 1) B (fpul c t).a (HPO.out t).a0 (by have := (HPO.out t).a1; omega) j (by rw [HN.out]; exact hj) W (by rw [HN.out]; exact h.s) h.a (by rw [HN.out]; exact h.c)
  have hf2 := fun t (ht : t ≤ 8) j (hj : j < n) W (h : FindW w W B gy g o n cap lo hi c (fpul c t)) => Find2_any (fpul c t).y (fun x hx => by have := (HPO.out t).nn x hx; omega) (gy + 1 + 1 + 1) gy (gy + 1) n (by rw [(HPO.out t).len, HN.out]) (fpul c t).q (HPO.out t).q0 (by have h1 := (HPO.out t).q1; have h2 : (t : Int) * t ≤ 8 * 8 := Int.mul_le_mul (by omega) (by omega) (by omega) (by omega); omega) j hj h8 W h.q h.yc h.y
  have HF1 := Lib.hid hf1
  have HF2 := Lib.hid hf2
  clear hf1 hf2
  go_wp2_with fail
  go_loopw [25] (fun i wr => ∃ t : Nat, t ≤ k ∧ i = .int .i64 t ∧ FindW w wr B gy g o n cap lo hi c (fpul c t)) (fun i _ => k - (intOf i).toNat)
  case atStart => exact ⟨0, by omega, rfl, hF⟩
  case round =>
    clear hF
    obtain ⟨t, ht, rfl, hF⟩ := hrel
    by_cases hlt : t < k
    · have hlti : (t : Int) < (k : Int) := by omega
      have c0 := hF.c.cell 0
      simp only [List.getElem?_toArray, List.getElem?_cons_zero] at c0
      have hP := HPO.out t
      have hn1 := HF1.out t (by omega)
      have hn2 := HF2.out t (by omega)
      have hnx : fpul c (t + 1) = ⟨(fpul c t).y.set (sbest c (fpul c t).y (fpul c t).a (fpul c t).q c.length) ((fpul c t).y.getD (sbest c (fpul c t).y (fpul c t).a (fpul c t).q c.length) 0 + 1), (fpul c t).a + absAt c (sbest c (fpul c t).y (fpul c t).a (fpul c t).q c.length), botV (fpul c t).y (fpul c t).q (sbest c (fpul c t).y (fpul c t).a (fpul c t).q c.length)⟩ := rfl
      rw [HN.out] at hnx
      obtain ⟨P, hPe⟩ : ∃ P, fpul c t = P := ⟨_, rfl⟩
      rw [hPe] at hP hnx hF
      simp only [hPe] at hn1 hn2
      obtain ⟨y, a, q⟩ := P
      simp only at hnx hn1 hn2
      have hy8 : ∀ x ∈ y, 0 ≤ x ∧ x ≤ 8 := fun x hx => by have := hP.nn x hx; omega
      have hq100 : q ≤ 100 := by
        have h1 := hP.q1
        have h2 : (t : Int) * t ≤ 8 * 8 := Int.mul_le_mul (by omega) (by omega) (by omega) (by omega)
        simp only at h1; omega
      have ha8 : a ≤ 8388608 := by have h1 := hP.a1; simp only at h1; omega
      have ha0 : 0 ≤ a := hP.a0
      have hq0 : 0 ≤ q := hP.q0
      have hyl : y.length = n := by have := hP.len; rw [HN.out] at this; exact this
      have HN1 := Lib.hid hn1
      have HN2 := Lib.hid hn2
      have HNX := Lib.hid hnx
      have hsn := fun i (hi : i ≤ n) => sbest_n c y a q h1 hi
      have hsx := fun i => sbest_next c y a q i
      have htb := fun i => topV_bd HC.out ha0 ha8 i
      have hbb := fun i => botV_bd hy8 hq0 hq100 i
      have HSN := Lib.hid hsn
      have HSX := Lib.hid hsx
      have HTB := Lib.hid htb
      have HBB := Lib.hid hbb
      have HY8 := Lib.hid hy8
      clear hn1 hn2 hnx hsn hsx htb hbb hP hPe hy8
      go_wp2_with fail
      go_loopw [11, 29] (fun bv iv wr => ∃ i : Nat, i ≤ n ∧ iv = .int .i64 i ∧ bv = .int .i64 (sbest c y a q i : Nat) ∧ FindW w wr B gy g o n cap lo hi c ⟨y, a, q⟩) (fun _ iv _ => n - (intOf iv).toNat)
      case atStart => exact ⟨0, by omega, rfl, rfl, hF⟩
      case round =>
        clear hF c0
        obtain ⟨i, hi2, rfl, rfl, hF⟩ := hrel
        have hbn := HSN.out i hi2
        by_cases hlt2 : i < n
        · have hlti2 : (i : Int) < (n : Int) := by omega
          have hsx := HSX.out i
          obtain ⟨b, hb⟩ : ∃ b, sbest c y a q i = b := ⟨_, rfl⟩
          rw [hb] at hbn hsx ⊢
          have t1 := HTB.out i
          have t2 := HTB.out b
          have b1 := HBB.out i
          have b2 := HBB.out b
          have m1 := HN1.out i hlt2
          have m2 := HN1.out b hbn
          have n1 := HN2.out i hlt2
          have n2 := HN2.out b hbn
          obtain ⟨T1, hT1⟩ : ∃ x, topV c a i = x := ⟨_, rfl⟩
          obtain ⟨T2, hT2⟩ : ∃ x, topV c a b = x := ⟨_, rfl⟩
          obtain ⟨B1, hB1⟩ : ∃ x, botV y q i = x := ⟨_, rfl⟩
          obtain ⟨B2, hB2⟩ : ∃ x, botV y q b = x := ⟨_, rfl⟩
          rw [hT1] at t1 hsx
          rw [hT2] at t2 hsx
          rw [hB1] at b1 hsx
          rw [hB2] at b2 hsx
          simp only [hT1] at m1
          simp only [hT2] at m2
          simp only [hB1] at n1
          simp only [hB2] at n2
          have p1 := abs_mul_bd (x := T1) (y := B2) (A := 89060441849856) (B := 200) (by decide) (by decide) (by omega) (by omega)
          have p2 := abs_mul_bd (x := T2) (y := B1) (A := 89060441849856) (B := 200) (by decide) (by decide) (by omega) (by omega)
          obtain ⟨X1, hX1⟩ : ∃ x, T1 * B2 = x := ⟨_, rfl⟩
          obtain ⟨X2, hX2⟩ : ∃ x, T2 * B1 = x := ⟨_, rfl⟩
          rw [hX1] at p1 hsx
          rw [hX2] at p2 hsx
          have w1 : IntKind.i64.wrap X1 = X1 := IntWalk.i64_in _ (by omega)
          have w2 : IntKind.i64.wrap X2 = X2 := IntWalk.i64_in _ (by omega)
          have M1 := Lib.hid m1
          have M2 := Lib.hid m2
          have N1 := Lib.hid n1
          have N2 := Lib.hid n2
          have HSX1 := Lib.hid hsx
          clear m1 m2 n1 n2 hsx hb hT1 hT2 hB1 hB2 p1 p2 t1 t2 b1 b2
          go_upto_region 13 with (fail)
          go_wp2_with (refine (M1.out _ hF).mono ?_)
          rintro e wa ⟨rfl, hba⟩
          replace hF := hF.newB hba (by omega)
          go_wp2_with (refine (N2.out _ hF).mono ?_)
          rintro e wb ⟨rfl, hbb⟩
          replace hF := hF.newB hbb (by omega)
          go_wp2_with (refine (M2.out _ hF).mono ?_)
          rintro e wc ⟨rfl, hbc⟩
          replace hF := hF.newB hbc (by omega)
          go_wp2_with (refine (N1.out _ hF).mono ?_)
          rintro e wd ⟨rfl, hbd⟩
          replace hF := hF.newB hbd (by omega)
          by_cases hgt : X2 < X1
          · have hs : sbest c y a q (i + 1) = i := by rw [HSX1.out, if_pos hgt]
            have HS := Lib.hid hs
            clear hs
            go_wp2_with fail
            go_roundw
            case rel => exact ⟨i + 1, by omega, by go_num, by rw [HS.out], hF⟩
            case measure => simp [intOf]; omega
          · have hs : sbest c y a q (i + 1) = b := by rw [HSX1.out, if_neg hgt]
            have HS := Lib.hid hs
            clear hs
            go_wp2_with fail
            go_roundw
            case rel => exact ⟨i + 1, by omega, by go_num, by rw [HS.out], hF⟩
            case measure => simp [intOf]; omega
        · obtain rfl : n = i := by omega
          obtain ⟨b, hb⟩ : ∃ b, sbest c y a q n = b := ⟨_, rfl⟩
          have hnx := HNX.out
          rw [hb] at hbn hnx ⊢
          obtain ⟨hCc, hS, hY, hYc, hAa, hQ, hfar, hsz⟩ := hF
          simp only at hY hAa hQ
          have hab := absAt_bd HC.out b
          have hmem : c.getD b 0 ∈ c := by rw [List.getD_eq_getElem?_getD, List.getElem?_eq_getElem (by rw [HN.out]; exact hbn)]; exact List.getElem_mem _
          have hxb := HC.out _ hmem
          have hssz := fun w => ssize_any (c.getD b 0) hxb.1 hxb.2 w
          have habe : max (c.getD b 0) (-(c.getD b 0)) = absAt c b := rfl
          simp only [habe] at hssz
          have hbb := HBB.out b
          have hq2 := fun W (h1 : Blk W (gy + 1 + 1 + 1) #[.int .i64 q] 3) (h2 : Blk W (gy + 1) #[.slice (some ⟨gy, 0, none⟩) n n] 62) (h3 : Blk W gy (arrV y) 3) => Find2_any y HY8.out (gy + 1 + 1 + 1) gy (gy + 1) n hyl q hq0 (by omega) b hbn h8 W h1 h2 h3
          have hymem : y.getD b 0 ∈ y := by rw [List.getD_eq_getElem?_getD, List.getElem?_eq_getElem (by omega)]; exact List.getElem_mem _
          have hyb := HY8.out _ hymem
          have cx := hS.2.2.2.2.2.2 _ rfl b _ (ints_get (k := .i64) (l := c) (by rw [HN.out]; exact hbn))
          obtain ⟨x, hx⟩ : ∃ x, c.getD b 0 = x := ⟨_, rfl⟩
          rw [hx] at cx
          simp only [hx] at hssz
          obtain ⟨ab, hae⟩ : ∃ x, absAt c b = x := ⟨_, rfl⟩
          rw [hae] at hab hnx
          simp only [hae] at hssz
          obtain ⟨bv, hbv⟩ : ∃ x, botV y q b = x := ⟨_, rfl⟩
          rw [hbv] at hbb hnx
          simp only [hbv] at hq2
          obtain ⟨yb, hybe⟩ : ∃ x, y.getD b 0 = x := ⟨_, rfl⟩
          rw [hybe] at hyb hnx
          have c1 := hAa.cell 0
          have c2 := hCc.cell 0
          simp only [List.getElem?_toArray, List.getElem?_cons_zero] at c1 c2
          have f1 := hAa.frozen 0
          have w1 : IntKind.i64.wrap (a + ab) = a + ab := IntWalk.i64_in _ (by omega)
          have hbni : (b : Int) < (n : Int) := by omega
          have HSSZ := Lib.hid hssz
          have HQ2 := Lib.hid hq2
          have HNX2 := Lib.hid hnx
          clear hb hssz hq2 hnx hx hae hbv habe hmem hxb hymem
          go_upto_region 16 with (fail)
          go_cut [] from 49 to 55 (fun wx => Blk wx B #[.slice (some ⟨g, o, none⟩) n cap] 62 ∧ SL wx lo hi 1 (some ⟨g, o, none⟩) n cap (intsV c) ∧ Blk wx gy (arrV y) 3 ∧ Blk wx (gy + 1) #[.slice (some ⟨gy, 0, none⟩) n n] 62 ∧ Blk wx (gy + 1 + 1) #[.int .i64 (a + ab)] 3 ∧ Blk wx (gy + 1 + 1 + 1) #[.int .i64 q] 3 ∧ Below B w wx ∧ gy + 4 ≤ wx.heap.size)
          case first =>
            refine wp_region_held_drew (S := fun W => True) (by kernel_rfl) ⟨⟩ (fun hH => ?_)
            refine wpAnyH_take (i := 2) (oi := { dst := some 51, op := Op.move (Operand.tmp 11), type := 3, pos := "shape.go:41", after := _, guard := none }) (v := _) rfl (by kernel_rfl) (by kernel_rfl) (by kernel_rfl) (fun _ _ _ h => h) (.inl ⟨by rfl, fun w hS => by (go_simp; try rfl)⟩) hH ?_
            try simp only [Act.put, List.setIfInBounds_toArray, List.set_cons_zero, List.set_cons_succ]
            refine wpAnyH_ready (rs := [0, 1]) (by kernel_rfl) (by simp) ?_
            refine AllReadyH.cons (o := { dst := some 49, op := Op.load 3 (Operand.tmp 7), type := 3, pos := "shape.go:41", after := _, guard := none }) rfl (fun K hK => ?_) ?_
            · rw [if_pos (by rfl)]
              go_simp
              refine hK.out _ _ trivial (fun hH => ?_)
              clear hK K
              try simp only [Act.put, List.setIfInBounds_toArray, List.set_cons_zero, List.set_cons_succ]
              refine wpAnyH_ready (rs := [1]) (by kernel_rfl) (by simp) ?_
              refine AllReadyH.cons (o := { dst := some 50, op := Op.load 62 (Operand.tmp 2), type := 62, pos := "shape.go:41", after := _, guard := none }) rfl (fun K hK => ?_) AllReadyH.nil
              rw [if_pos (by rfl)]
              go_simp
              refine hK.out _ _ trivial (fun hH => ?_)
              clear hK K
              try simp only [Act.put, List.setIfInBounds_toArray, List.set_cons_zero, List.set_cons_succ]
              refine wpAnyH_take (i := 3) (oi := { dst := some 52, op := Op.indexAddr 62 (Operand.tmp 50) (Operand.tmp 51), type := 0, pos := "shape.go:41", after := _, guard := none }) (v := _) rfl (by kernel_rfl) (by kernel_rfl) (by kernel_rfl) (fun _ _ _ h => h) (.inl ⟨by rfl, fun w hS => by (go_simp; try rfl)⟩) hH ?_
              try simp only [Act.put, List.setIfInBounds_toArray, List.set_cons_zero, List.set_cons_succ]
              refine wpAnyH_ready (rs := [4]) (by kernel_rfl) (by simp) ?_
              refine AllReadyH.cons (o := { dst := some 53, op := Op.load 3 (Operand.tmp 52), type := 3, pos := "shape.go:41", after := _, guard := none }) rfl (fun K hK => ?_) AllReadyH.nil
              rw [if_pos (by rfl)]
              go_simp
              refine hK.out _ _ trivial (fun hH => ?_)
              clear hK K
              try simp only [Act.put, List.setIfInBounds_toArray, List.set_cons_zero, List.set_cons_succ]
              refine wpAnyH_ready (rs := [5]) (by kernel_rfl) (by simp) ?_
              refine AllReadyH.cons (o := { dst := some 54, op := Op.call { callee := Callee.value (Operand.func 114), args := #[Operand.tmp 53], argTypes := #[3] }, type := 3, pos := "shape.go:41", after := _, guard := none }) rfl (fun K hK => ?_) AllReadyH.nil
              rw [if_pos (by rfl)]
              go_simp
              refine (HSSZ.out _).mono ?_
              rintro r wq ⟨rfl, rfl⟩
              go_wp2_with fail
              refine hK.out _ _ trivial (fun hH => ?_)
              clear hK K
              try simp only [Act.put, List.setIfInBounds_toArray, List.set_cons_zero, List.set_cons_succ]
              refine wpAnyH_take (i := 6) (oi := { dst := some 55, op := Op.binOp BinOp.add 3 (Operand.tmp 49) (Operand.tmp 54) 3, type := 3, pos := "shape.go:41", after := _, guard := none }) (v := _) rfl (by kernel_rfl) (by kernel_rfl) (by kernel_rfl) (fun _ _ _ h => h) (.inl ⟨by rfl, fun w hS => by (go_simp; try rfl)⟩) hH ?_
              try simp only [Act.put, List.setIfInBounds_toArray, List.set_cons_zero, List.set_cons_succ]
              refine wpAnyH_ready (rs := [7]) (by kernel_rfl) (by simp) ?_
              refine AllReadyH.cons (o := { dst := none, op := Op.store 3 (Operand.tmp 7) (Operand.tmp 55), type := 0, pos := "shape.go:41", after := _, guard := none }) rfl (fun K hK => ?_) AllReadyH.nil
              rw [if_pos (by rfl)]
              go_simp
              refine hK.out _ _ trivial (fun hH => ?_)
              clear hK K
              try simp only [Act.put]
              refine wpAnyH_done (by kernel_rfl) ?_ _
              go_wp2_with fail
              go_meet
              case rel => exact ⟨by exact bk_, by exact sl_, by exact bk_, by exact bk_, by exact bk_, by exact bk_, by exact bl_, by exact sz_⟩
            refine AllReadyH.cons (o := { dst := some 50, op := Op.load 62 (Operand.tmp 2), type := 62, pos := "shape.go:41", after := _, guard := none }) rfl (fun K hK => ?_) AllReadyH.nil
            rw [if_pos (by rfl)]
            go_simp
            refine hK.out _ _ trivial (fun hH => ?_)
            clear hK K
            try simp only [Act.put, List.setIfInBounds_toArray, List.set_cons_zero, List.set_cons_succ]
            refine wpAnyH_take (i := 3) (oi := { dst := some 52, op := Op.indexAddr 62 (Operand.tmp 50) (Operand.tmp 51), type := 0, pos := "shape.go:41", after := _, guard := none }) (v := _) rfl (by kernel_rfl) (by kernel_rfl) (by kernel_rfl) (fun _ _ _ h => h) (.inl ⟨by rfl, fun w hS => by (go_simp; try rfl)⟩) hH ?_
            try simp only [Act.put, List.setIfInBounds_toArray, List.set_cons_zero, List.set_cons_succ]
            refine wpAnyH_ready (rs := [0, 4]) (by kernel_rfl) (by simp) ?_
            refine AllReadyH.cons (o := { dst := some 49, op := Op.load 3 (Operand.tmp 7), type := 3, pos := "shape.go:41", after := _, guard := none }) rfl (fun K hK => ?_) ?_
            · rw [if_pos (by rfl)]
              go_simp
              refine hK.out _ _ trivial (fun hH => ?_)
              clear hK K
              try simp only [Act.put, List.setIfInBounds_toArray, List.set_cons_zero, List.set_cons_succ]
              refine wpAnyH_ready (rs := [4]) (by kernel_rfl) (by simp) ?_
              refine AllReadyH.cons (o := { dst := some 53, op := Op.load 3 (Operand.tmp 52), type := 3, pos := "shape.go:41", after := _, guard := none }) rfl (fun K hK => ?_) AllReadyH.nil
              rw [if_pos (by rfl)]
              go_simp
              refine hK.out _ _ trivial (fun hH => ?_)
              clear hK K
              try simp only [Act.put, List.setIfInBounds_toArray, List.set_cons_zero, List.set_cons_succ]
              refine wpAnyH_ready (rs := [5]) (by kernel_rfl) (by simp) ?_
              refine AllReadyH.cons (o := { dst := some 54, op := Op.call { callee := Callee.value (Operand.func 114), args := #[Operand.tmp 53], argTypes := #[3] }, type := 3, pos := "shape.go:41", after := _, guard := none }) rfl (fun K hK => ?_) AllReadyH.nil
              rw [if_pos (by rfl)]
              go_simp
              refine (HSSZ.out _).mono ?_
              rintro r wq ⟨rfl, rfl⟩
              go_wp2_with fail
              refine hK.out _ _ trivial (fun hH => ?_)
              clear hK K
              try simp only [Act.put, List.setIfInBounds_toArray, List.set_cons_zero, List.set_cons_succ]
              refine wpAnyH_take (i := 6) (oi := { dst := some 55, op := Op.binOp BinOp.add 3 (Operand.tmp 49) (Operand.tmp 54) 3, type := 3, pos := "shape.go:41", after := _, guard := none }) (v := _) rfl (by kernel_rfl) (by kernel_rfl) (by kernel_rfl) (fun _ _ _ h => h) (.inl ⟨by rfl, fun w hS => by (go_simp; try rfl)⟩) hH ?_
              try simp only [Act.put, List.setIfInBounds_toArray, List.set_cons_zero, List.set_cons_succ]
              refine wpAnyH_ready (rs := [7]) (by kernel_rfl) (by simp) ?_
              refine AllReadyH.cons (o := { dst := none, op := Op.store 3 (Operand.tmp 7) (Operand.tmp 55), type := 0, pos := "shape.go:41", after := _, guard := none }) rfl (fun K hK => ?_) AllReadyH.nil
              rw [if_pos (by rfl)]
              go_simp
              refine hK.out _ _ trivial (fun hH => ?_)
              clear hK K
              try simp only [Act.put]
              refine wpAnyH_done (by kernel_rfl) ?_ _
              go_wp2_with fail
              go_meet
              case rel => exact ⟨by exact bk_, by exact sl_, by exact bk_, by exact bk_, by exact bk_, by exact bk_, by exact bl_, by exact sz_⟩
            refine AllReadyH.cons (o := { dst := some 53, op := Op.load 3 (Operand.tmp 52), type := 3, pos := "shape.go:41", after := _, guard := none }) rfl (fun K hK => ?_) AllReadyH.nil
            rw [if_pos (by rfl)]
            go_simp
            refine hK.out _ _ trivial (fun hH => ?_)
            clear hK K
            try simp only [Act.put, List.setIfInBounds_toArray, List.set_cons_zero, List.set_cons_succ]
            refine wpAnyH_ready (rs := [0, 5]) (by kernel_rfl) (by simp) ?_
            refine AllReadyH.cons (o := { dst := some 49, op := Op.load 3 (Operand.tmp 7), type := 3, pos := "shape.go:41", after := _, guard := none }) rfl (fun K hK => ?_) ?_
            · rw [if_pos (by rfl)]
              go_simp
              refine hK.out _ _ trivial (fun hH => ?_)
              clear hK K
              try simp only [Act.put, List.setIfInBounds_toArray, List.set_cons_zero, List.set_cons_succ]
              refine wpAnyH_ready (rs := [5]) (by kernel_rfl) (by simp) ?_
              refine AllReadyH.cons (o := { dst := some 54, op := Op.call { callee := Callee.value (Operand.func 114), args := #[Operand.tmp 53], argTypes := #[3] }, type := 3, pos := "shape.go:41", after := _, guard := none }) rfl (fun K hK => ?_) AllReadyH.nil
              rw [if_pos (by rfl)]
              go_simp
              refine (HSSZ.out _).mono ?_
              rintro r wq ⟨rfl, rfl⟩
              go_wp2_with fail
              refine hK.out _ _ trivial (fun hH => ?_)
              clear hK K
              try simp only [Act.put, List.setIfInBounds_toArray, List.set_cons_zero, List.set_cons_succ]
              refine wpAnyH_take (i := 6) (oi := { dst := some 55, op := Op.binOp BinOp.add 3 (Operand.tmp 49) (Operand.tmp 54) 3, type := 3, pos := "shape.go:41", after := _, guard := none }) (v := _) rfl (by kernel_rfl) (by kernel_rfl) (by kernel_rfl) (fun _ _ _ h => h) (.inl ⟨by rfl, fun w hS => by (go_simp; try rfl)⟩) hH ?_
              try simp only [Act.put, List.setIfInBounds_toArray, List.set_cons_zero, List.set_cons_succ]
              refine wpAnyH_ready (rs := [7]) (by kernel_rfl) (by simp) ?_
              refine AllReadyH.cons (o := { dst := none, op := Op.store 3 (Operand.tmp 7) (Operand.tmp 55), type := 0, pos := "shape.go:41", after := _, guard := none }) rfl (fun K hK => ?_) AllReadyH.nil
              rw [if_pos (by rfl)]
              go_simp
              refine hK.out _ _ trivial (fun hH => ?_)
              clear hK K
              try simp only [Act.put]
              refine wpAnyH_done (by kernel_rfl) ?_ _
              go_wp2_with fail
              go_meet
              case rel => exact ⟨by exact bk_, by exact sl_, by exact bk_, by exact bk_, by exact bk_, by exact bk_, by exact bl_, by exact sz_⟩
            refine AllReadyH.cons (o := { dst := some 54, op := Op.call { callee := Callee.value (Operand.func 114), args := #[Operand.tmp 53], argTypes := #[3] }, type := 3, pos := "shape.go:41", after := _, guard := none }) rfl (fun K hK => ?_) AllReadyH.nil
            rw [if_pos (by rfl)]
            go_simp
            refine (HSSZ.out _).mono ?_
            rintro r wq ⟨rfl, rfl⟩
            go_wp2_with fail
            refine hK.out _ _ trivial (fun hH => ?_)
            clear hK K
            try simp only [Act.put, List.setIfInBounds_toArray, List.set_cons_zero, List.set_cons_succ]
            refine wpAnyH_ready (rs := [0]) (by kernel_rfl) (by simp) ?_
            refine AllReadyH.cons (o := { dst := some 49, op := Op.load 3 (Operand.tmp 7), type := 3, pos := "shape.go:41", after := _, guard := none }) rfl (fun K hK => ?_) AllReadyH.nil
            rw [if_pos (by rfl)]
            go_simp
            refine hK.out _ _ trivial (fun hH => ?_)
            clear hK K
            try simp only [Act.put, List.setIfInBounds_toArray, List.set_cons_zero, List.set_cons_succ]
            refine wpAnyH_take (i := 6) (oi := { dst := some 55, op := Op.binOp BinOp.add 3 (Operand.tmp 49) (Operand.tmp 54) 3, type := 3, pos := "shape.go:41", after := _, guard := none }) (v := _) rfl (by kernel_rfl) (by kernel_rfl) (by kernel_rfl) (fun _ _ _ h => h) (.inl ⟨by rfl, fun w hS => by (go_simp; try rfl)⟩) hH ?_
            try simp only [Act.put, List.setIfInBounds_toArray, List.set_cons_zero, List.set_cons_succ]
            refine wpAnyH_ready (rs := [7]) (by kernel_rfl) (by simp) ?_
            refine AllReadyH.cons (o := { dst := none, op := Op.store 3 (Operand.tmp 7) (Operand.tmp 55), type := 0, pos := "shape.go:41", after := _, guard := none }) rfl (fun K hK => ?_) AllReadyH.nil
            rw [if_pos (by rfl)]
            go_simp
            refine hK.out _ _ trivial (fun hH => ?_)
            clear hK K
            try simp only [Act.put]
            refine wpAnyH_done (by kernel_rfl) ?_ _
            go_wp2_with fail
            go_meet
            case rel => exact ⟨by exact bk_, by exact sl_, by exact bk_, by exact bk_, by exact bk_, by exact bk_, by exact bl_, by exact sz_⟩
          case rest =>
            clear hCc hS hY hYc hAa hQ hfar hsz c1 c2 f1 cx w1
            obtain ⟨hCc, hS, hY, hYc, hAa, hQ, hfar, hsz⟩ := hcut
            go_wp2_with fail
            refine (HQ2.out _ hQ hYc hY).mono ?_
            rintro e w5 ⟨rfl, hb5⟩
            replace hCc := hCc.newB hb5
            replace hS := hS.newB hb5
            replace hY := hY.newB hb5
            replace hYc := hYc.newB hb5
            replace hAa := hAa.newB hb5
            replace hQ := hQ.newB hb5
            replace hfar := hfar.trans (hb5.mono (by omega))
            replace hsz := Nat.le_trans hsz hb5.size
            have c1 := hQ.cell 0
            have c2 := hYc.cell 0
            simp only [List.getElem?_toArray, List.getElem?_cons_zero] at c1 c2
            have f1 := hQ.frozen 0
            have c3 := (hY.cell b).trans (arr_get (l := y) (by omega))
            rw [hybe] at c3
            have f3 := hY.frozen b
            go_wp2_with fail
            go_roundw
            case rel => exact ⟨t + 1, hlt, by go_num, by rw [HNX2.out]; exact ⟨by exact bk_, by exact sl_, by exact bk_, by exact bk_, by exact bk_, by exact bk_, by exact bl_, by exact sz_⟩⟩
            case measure => simp [intOf]; omega
    · obtain rfl : k = t := by omega
      have c0 := hF.c.cell 0
      simp only [List.getElem?_toArray, List.getElem?_cons_zero] at c0
      have hP := HPO.out k
      have hfl : findL c k = signL c (fpul c k).y := rfl
      obtain ⟨P, hPe⟩ : ∃ P, fpul c k = P := ⟨_, rfl⟩
      rw [hPe] at hP hF hfl
      obtain ⟨y, a, q⟩ := P
      simp only at hfl
      have hy8 : ∀ x ∈ y, 0 ≤ x ∧ x ≤ 8 := fun x hx => by have := hP.nn x hx; omega
      have hyl : y.length = n := by have := hP.len; rw [HN.out] at this; exact this
      have hsl : (signL c y).length = n := by rw [signL_len, HN.out]
      have hsg := fun i (hi : i < n) => signL_get c y (i := i) (by rw [HN.out]; exact hi)
      obtain ⟨F, hFe⟩ : ∃ F, signL c y = F := ⟨_, rfl⟩
      rw [hFe] at hsl hfl
      simp only [hFe] at hsg
      have hFF : F = FR := hfl.symm.trans HFR.out
      subst hFF
      have HSG := Lib.hid hsg
      have HY8 := Lib.hid hy8
      clear hsg hy8 hP hPe hFe hfl HFR HF1 HF2 HPO
      go_wp2_with fail
      go_loopw [68] (fun iv wr => ∃ i : Nat, i ≤ n ∧ iv = .int .i64 i ∧ FindW w wr B gy g o n cap lo hi c ⟨turnF F y i, a, q⟩) (fun iv _ => n - (intOf iv).toNat)
      case atStart => exact ⟨0, by omega, rfl, by rw [turnF_zero]; exact hF⟩
      case round =>
        clear hF c0
        obtain ⟨i, hi2, rfl, hF⟩ := hrel
        obtain ⟨hCc, hS, hY, hYc, hAa, hQ, hfar, hsz⟩ := hF
        simp only at hY hAa hQ
        have c2 := hYc.cell 0
        simp only [List.getElem?_toArray, List.getElem?_cons_zero] at c2
        by_cases hlt2 : i < n
        · have hlti2 : (i : Int) < (n : Int) := by omega
          have hsg := HSG.out i hlt2
          have LT := turnF_len (k := i) hsl hyl (Nat.le_of_lt hlt2)
          have hg := turnF_get (f := F) (o := y) (k := i) hsl hlt2
          have hset := turnF_set (k := i) hsl hyl hlt2 hsg
          have hsame := turnF_same (k := i) hsl hyl hlt2
          have hymem : y.getD i 0 ∈ y := by rw [List.getD_eq_getElem?_getD, List.getElem?_eq_getElem (by omega)]; exact List.getElem_mem _
          have hyb := HY8.out _ hymem
          have cx := hS.2.2.2.2.2.2 _ rfl i _ (ints_get (k := .i64) (l := c) (by rw [HN.out]; exact hlt2))
          obtain ⟨x, hx⟩ : ∃ x, c.getD i 0 = x := ⟨_, rfl⟩
          obtain ⟨T, hT⟩ : ∃ T, turnF F y i = T := ⟨_, rfl⟩
          obtain ⟨yi, hyi⟩ : ∃ x, y.getD i 0 = x := ⟨_, rfl⟩
          rw [hx] at cx hset hsg
          rw [hT] at hset hY LT hg hsame
          rw [hyi] at hset hg hyb hsg
          rw [hyi] at hsame
          have c3 := (hY.cell i).trans (arr_get (l := T) (by rw [LT.out]; exact hlt2))
          rw [hg] at c3
          have f3 := hY.frozen i
          have HSET := Lib.hid hset
          have HSAME := Lib.hid hsame
          have HSG1 := Lib.hid hsg
          clear hset hg hx hT hyi hymem hsame hsg
          by_cases hneg : x < 0
          · have hset2 : T.set i (-yi) = turnF F y (i + 1) := by have h := HSET.out; rwa [if_pos hneg] at h
            have HS2 := Lib.hid hset2
            have w1 : IntKind.i64.wrap (-yi) = -yi := IntWalk.i64_in _ (by omega)
            clear hset2
            go_upto_region 24 with (fail)
            refine wp_region_held_drew (S := fun W => True) (by kernel_rfl) ⟨⟩ (fun hH => ?_)
            refine wpAnyH_take (i := 1) (oi := { dst := some 76, op := Op.move (Operand.tmp 13), type := 3, pos := "shape.go:47", after := _, guard := none }) (v := _) rfl (by kernel_rfl) (by kernel_rfl) (by kernel_rfl) (fun _ _ _ h => h) (.inl ⟨by rfl, fun w hS => by (go_simp; try rfl)⟩) hH ?_
            try simp only [Act.put, List.setIfInBounds_toArray, List.set_cons_zero, List.set_cons_succ]
            refine wpAnyH_take (i := 3) (oi := { dst := some 78, op := Op.move (Operand.tmp 13), type := 3, pos := "shape.go:47", after := _, guard := none }) (v := _) rfl (by kernel_rfl) (by kernel_rfl) (by kernel_rfl) (fun _ _ _ h => h) (.inl ⟨by rfl, fun w hS => by (go_simp; try rfl)⟩) hH ?_
            try simp only [Act.put, List.setIfInBounds_toArray, List.set_cons_zero, List.set_cons_succ]
            refine wpAnyH_ready (rs := [0, 2]) (by kernel_rfl) (by simp) ?_
            refine AllReadyH.cons (o := { dst := some 75, op := Op.load 62 (Operand.tmp 6), type := 62, pos := "shape.go:47", after := _, guard := none }) rfl (fun K hK => ?_) ?_
            · rw [if_pos (by rfl)]
              go_simp
              refine hK.out _ _ trivial (fun hH => ?_)
              clear hK K
              try simp only [Act.put, List.setIfInBounds_toArray, List.set_cons_zero, List.set_cons_succ]
              refine wpAnyH_ready (rs := [2]) (by kernel_rfl) (by simp) ?_
              refine AllReadyH.cons (o := { dst := some 77, op := Op.load 62 (Operand.tmp 6), type := 62, pos := "shape.go:47", after := _, guard := none }) rfl (fun K hK => ?_) AllReadyH.nil
              rw [if_pos (by rfl)]
              go_simp
              refine hK.out _ _ trivial (fun hH => ?_)
              clear hK K
              try simp only [Act.put, List.setIfInBounds_toArray, List.set_cons_zero, List.set_cons_succ]
              refine wpAnyH_take (i := 4) (oi := { dst := some 79, op := Op.indexAddr 62 (Operand.tmp 77) (Operand.tmp 78), type := 0, pos := "shape.go:47", after := _, guard := none }) (v := _) rfl (by kernel_rfl) (by kernel_rfl) (by kernel_rfl) (fun _ _ _ h => h) (.inl ⟨by rfl, fun w hS => by (go_simp; try rfl)⟩) hH ?_
              try simp only [Act.put, List.setIfInBounds_toArray, List.set_cons_zero, List.set_cons_succ]
              refine wpAnyH_ready (rs := [5]) (by kernel_rfl) (by simp) ?_
              refine AllReadyH.cons (o := { dst := some 80, op := Op.load 3 (Operand.tmp 79), type := 3, pos := "shape.go:47", after := _, guard := none }) rfl (fun K hK => ?_) AllReadyH.nil
              rw [if_pos (by rfl)]
              go_simp
              refine hK.out _ _ trivial (fun hH => ?_)
              clear hK K
              try simp only [Act.put, List.setIfInBounds_toArray, List.set_cons_zero, List.set_cons_succ]
              refine wpAnyH_take (i := 6) (oi := { dst := some 81, op := Op.unOp UnOp.neg 3 (Operand.tmp 80), type := 3, pos := "shape.go:47", after := _, guard := none }) (v := _) rfl (by kernel_rfl) (by kernel_rfl) (by kernel_rfl) (fun _ _ _ h => h) (.inl ⟨by rfl, fun w hS => by (go_simp; try rfl)⟩) hH ?_
              try simp only [Act.put, List.setIfInBounds_toArray, List.set_cons_zero, List.set_cons_succ]
              refine wpAnyH_take (i := 7) (oi := { dst := some 82, op := Op.indexAddr 62 (Operand.tmp 75) (Operand.tmp 76), type := 0, pos := "shape.go:47", after := _, guard := none }) (v := _) rfl (by kernel_rfl) (by kernel_rfl) (by kernel_rfl) (fun _ _ _ h => h) (.inl ⟨by rfl, fun w hS => by (go_simp; try rfl)⟩) hH ?_
              try simp only [Act.put, List.setIfInBounds_toArray, List.set_cons_zero, List.set_cons_succ]
              refine wpAnyH_ready (rs := [8]) (by kernel_rfl) (by simp) ?_
              refine AllReadyH.cons (o := { dst := none, op := Op.store 3 (Operand.tmp 82) (Operand.tmp 81), type := 0, pos := "shape.go:47", after := _, guard := none }) rfl (fun K hK => ?_) AllReadyH.nil
              rw [if_pos (by rfl)]
              go_simp
              refine hK.out _ _ trivial (fun hH => ?_)
              clear hK K
              try simp only [Act.put]
              refine wpAnyH_done (by kernel_rfl) ?_ _
              go_wp2_with fail
              go_roundw
              case rel => exact ⟨i + 1, by omega, by go_num, ⟨by exact bk_, by exact sl_, by rw [← HS2.out]; exact bk_, by exact bk_, by exact bk_, by exact bk_, by exact bl_, by exact sz_⟩⟩
              case measure => simp [intOf]; omega
            refine AllReadyH.cons (o := { dst := some 77, op := Op.load 62 (Operand.tmp 6), type := 62, pos := "shape.go:47", after := _, guard := none }) rfl (fun K hK => ?_) AllReadyH.nil
            rw [if_pos (by rfl)]
            go_simp
            refine hK.out _ _ trivial (fun hH => ?_)
            clear hK K
            try simp only [Act.put, List.setIfInBounds_toArray, List.set_cons_zero, List.set_cons_succ]
            refine wpAnyH_take (i := 4) (oi := { dst := some 79, op := Op.indexAddr 62 (Operand.tmp 77) (Operand.tmp 78), type := 0, pos := "shape.go:47", after := _, guard := none }) (v := _) rfl (by kernel_rfl) (by kernel_rfl) (by kernel_rfl) (fun _ _ _ h => h) (.inl ⟨by rfl, fun w hS => by (go_simp; try rfl)⟩) hH ?_
            try simp only [Act.put, List.setIfInBounds_toArray, List.set_cons_zero, List.set_cons_succ]
            refine wpAnyH_ready (rs := [0, 5]) (by kernel_rfl) (by simp) ?_
            refine AllReadyH.cons (o := { dst := some 75, op := Op.load 62 (Operand.tmp 6), type := 62, pos := "shape.go:47", after := _, guard := none }) rfl (fun K hK => ?_) ?_
            · rw [if_pos (by rfl)]
              go_simp
              refine hK.out _ _ trivial (fun hH => ?_)
              clear hK K
              try simp only [Act.put, List.setIfInBounds_toArray, List.set_cons_zero, List.set_cons_succ]
              refine wpAnyH_ready (rs := [5]) (by kernel_rfl) (by simp) ?_
              refine AllReadyH.cons (o := { dst := some 80, op := Op.load 3 (Operand.tmp 79), type := 3, pos := "shape.go:47", after := _, guard := none }) rfl (fun K hK => ?_) AllReadyH.nil
              rw [if_pos (by rfl)]
              go_simp
              refine hK.out _ _ trivial (fun hH => ?_)
              clear hK K
              try simp only [Act.put, List.setIfInBounds_toArray, List.set_cons_zero, List.set_cons_succ]
              refine wpAnyH_take (i := 6) (oi := { dst := some 81, op := Op.unOp UnOp.neg 3 (Operand.tmp 80), type := 3, pos := "shape.go:47", after := _, guard := none }) (v := _) rfl (by kernel_rfl) (by kernel_rfl) (by kernel_rfl) (fun _ _ _ h => h) (.inl ⟨by rfl, fun w hS => by (go_simp; try rfl)⟩) hH ?_
              try simp only [Act.put, List.setIfInBounds_toArray, List.set_cons_zero, List.set_cons_succ]
              refine wpAnyH_take (i := 7) (oi := { dst := some 82, op := Op.indexAddr 62 (Operand.tmp 75) (Operand.tmp 76), type := 0, pos := "shape.go:47", after := _, guard := none }) (v := _) rfl (by kernel_rfl) (by kernel_rfl) (by kernel_rfl) (fun _ _ _ h => h) (.inl ⟨by rfl, fun w hS => by (go_simp; try rfl)⟩) hH ?_
              try simp only [Act.put, List.setIfInBounds_toArray, List.set_cons_zero, List.set_cons_succ]
              refine wpAnyH_ready (rs := [8]) (by kernel_rfl) (by simp) ?_
              refine AllReadyH.cons (o := { dst := none, op := Op.store 3 (Operand.tmp 82) (Operand.tmp 81), type := 0, pos := "shape.go:47", after := _, guard := none }) rfl (fun K hK => ?_) AllReadyH.nil
              rw [if_pos (by rfl)]
              go_simp
              refine hK.out _ _ trivial (fun hH => ?_)
              clear hK K
              try simp only [Act.put]
              refine wpAnyH_done (by kernel_rfl) ?_ _
              go_wp2_with fail
              go_roundw
              case rel => exact ⟨i + 1, by omega, by go_num, ⟨by exact bk_, by exact sl_, by rw [← HS2.out]; exact bk_, by exact bk_, by exact bk_, by exact bk_, by exact bl_, by exact sz_⟩⟩
              case measure => simp [intOf]; omega
            refine AllReadyH.cons (o := { dst := some 80, op := Op.load 3 (Operand.tmp 79), type := 3, pos := "shape.go:47", after := _, guard := none }) rfl (fun K hK => ?_) AllReadyH.nil
            rw [if_pos (by rfl)]
            go_simp
            refine hK.out _ _ trivial (fun hH => ?_)
            clear hK K
            try simp only [Act.put, List.setIfInBounds_toArray, List.set_cons_zero, List.set_cons_succ]
            refine wpAnyH_take (i := 6) (oi := { dst := some 81, op := Op.unOp UnOp.neg 3 (Operand.tmp 80), type := 3, pos := "shape.go:47", after := _, guard := none }) (v := _) rfl (by kernel_rfl) (by kernel_rfl) (by kernel_rfl) (fun _ _ _ h => h) (.inl ⟨by rfl, fun w hS => by (go_simp; try rfl)⟩) hH ?_
            try simp only [Act.put, List.setIfInBounds_toArray, List.set_cons_zero, List.set_cons_succ]
            refine wpAnyH_ready (rs := [0]) (by kernel_rfl) (by simp) ?_
            refine AllReadyH.cons (o := { dst := some 75, op := Op.load 62 (Operand.tmp 6), type := 62, pos := "shape.go:47", after := _, guard := none }) rfl (fun K hK => ?_) AllReadyH.nil
            rw [if_pos (by rfl)]
            go_simp
            refine hK.out _ _ trivial (fun hH => ?_)
            clear hK K
            try simp only [Act.put, List.setIfInBounds_toArray, List.set_cons_zero, List.set_cons_succ]
            refine wpAnyH_take (i := 7) (oi := { dst := some 82, op := Op.indexAddr 62 (Operand.tmp 75) (Operand.tmp 76), type := 0, pos := "shape.go:47", after := _, guard := none }) (v := _) rfl (by kernel_rfl) (by kernel_rfl) (by kernel_rfl) (fun _ _ _ h => h) (.inl ⟨by rfl, fun w hS => by (go_simp; try rfl)⟩) hH ?_
            try simp only [Act.put, List.setIfInBounds_toArray, List.set_cons_zero, List.set_cons_succ]
            refine wpAnyH_ready (rs := [8]) (by kernel_rfl) (by simp) ?_
            refine AllReadyH.cons (o := { dst := none, op := Op.store 3 (Operand.tmp 82) (Operand.tmp 81), type := 0, pos := "shape.go:47", after := _, guard := none }) rfl (fun K hK => ?_) AllReadyH.nil
            rw [if_pos (by rfl)]
            go_simp
            refine hK.out _ _ trivial (fun hH => ?_)
            clear hK K
            try simp only [Act.put]
            refine wpAnyH_done (by kernel_rfl) ?_ _
            go_wp2_with fail
            go_roundw
            case rel => exact ⟨i + 1, by omega, by go_num, ⟨by exact bk_, by exact sl_, by rw [← HS2.out]; exact bk_, by exact bk_, by exact bk_, by exact bk_, by exact bl_, by exact sz_⟩⟩
            case measure => simp [intOf]; omega
          · have hsame2 : turnF F y (i + 1) = T := HSAME.out (by have h := HSG1.out; rwa [if_neg hneg] at h)
            have HS2 := Lib.hid hsame2
            clear hsame2
            go_wp2_with fail
            go_roundw
            case rel => exact ⟨i + 1, by omega, by go_num, ⟨hCc, hS, by rw [HS2.out]; exact hY, hYc, hAa, hQ, hfar, hsz⟩⟩
            case measure => simp [intOf]; omega
        · obtain rfl : n = i := by omega
          rw [turnF_all hsl hyl] at hY
          go_wp2_with fail
          go_ret2
          refine ⟨_, rfl, ?_, by (try rw [hB]); exact hfar⟩
          unfold Nums
          rw [hsl]
          refine ⟨⟨by rw [List.length_map, hsl]; omega, .inr ⟨gy, n, arrV F, rfl, by (try rw [hB]); omega, hY, Nat.le_refl _, by unfold maxLen; omega, by rw [arr_size, hsl]; omega, ?_⟩⟩, fun j hj => by simp [Value.ownBlock] at hj; omega, Nat.le_refl _⟩
          rw [List.take_of_length_le (by simp [hsl])]
end Go.Proofs.YthpjkgpngbdhbaaGreatDoor
