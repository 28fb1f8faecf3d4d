/- The walk of spoollaw07.RangBits: whatever the numbers and their bits, it returns true. -/
import Derived.Test.YtlhjkichambaoaaDoorLaw7
import Derived.Test.YtlhjkichambaoaaDoorRangD2
import Derived.Test.YtlhjkichambaoaaDoorRangN
import Derived.Test.YtlhjkichambaoaaDoorNums
import Derived.Test.YtlhjkichambaoaaDoorLawBase
import Derived.Test.YtlhjkichambaoaaDoorSpecRangN2
import Derived.Deep.RegionHeld3
namespace Go.Proofs.YtlhjkichambaoaaDoor
open Go.RowKit

theorem pow_bd24 {a : Nat} (h : a ≤ 24) : (1 : Int) ≤ 2 ^ a ∧ (2 : Int) ^ a ≤ 16777216 := by
  have h2 : (2 : Int) ^ a ≤ 2 ^ 24 := by exact_mod_cast (Nat.pow_le_pow_right (by omega : 0 < 2) h)
  have h3 : (0 : Int) < 2 ^ a := Int.pow_pos (by omega)
  omega

set_option maxRecDepth 100000 in
set_option maxHeartbeats 3200000 in
theorem RangBits_any (v0 v1 : Value) (L K : List Int) (w : World) (hL : NumsIn w .u32 v0 L) (hK : NumsIn w .u8 v1 K) : Calls Tryd.prog 7 #[v0, v1] w fun e w' => e = .returned (.bool true) ∧ Below w.heap.size w w' := by
  obtain ⟨o0, cap0, rfl, hl1, hl2, hcl⟩ := hL
  obtain ⟨o1, cap1, rfl, hk1, hk2, hck⟩ := hK
  have HCL := Lib.hid hcl
  have HCK := Lib.hid hck
  clear hcl hck
  by_cases hlong : 100 < L.length
  · go_enter Tryd.func7, Tryd.ntmps7
    go_wp2_with fail
    refine (awake_any _).mono ?_
    rintro e w1 ⟨rfl, hb1⟩
    go_wp2_with fail
    refine (awake_any _).mono ?_
    rintro e w2 ⟨rfl, hb2⟩
    go_wp2_with fail
    go_ret
    exact ⟨rfl, hb1.trans (hb2.mono hb1.size)⟩
  by_cases hlong2 : 100 < K.length
  · go_enter Tryd.func7, Tryd.ntmps7
    go_wp2_with fail
    refine (awake_any _).mono ?_
    rintro e w1 ⟨rfl, hb1⟩
    go_wp2_with fail
    refine (awake_any _).mono ?_
    rintro e w2 ⟨rfl, hb2⟩
    go_wp2_with fail
    go_ret
    exact ⟨rfl, hb1.trans (hb2.mono hb1.size)⟩
  obtain ⟨N, hN⟩ : ∃ N, min L.length K.length = N := ⟨_, rfl⟩
  have hNL : N ≤ L.length := by omega
  have hNK : N ≤ K.length := by omega
  have hN100 : N ≤ 100 := by omega
  have hNx : L.length ≤ N ∨ K.length ≤ N := by omega
  clear hN
  have hwin := Sp.bit_within L K N hN100
  obtain ⟨hokN, hinvN, hszN⟩ := Sp.bitE_ok L K N
  have hlN : (Sp.bitE L K N).all.length ≤ 1000 := by rw [Sp.Enc.all_length]; have := hokN.len; omega
  have hfok : Sp.fitOk (Sp.bitE L K N).all 1000 = true := Sp.fitOk_short hlN
  obtain ⟨S, hS⟩ : ∃ S, Sp.fitS (Sp.bitE L K N).all 1000 = S := ⟨_, rfl⟩
  rw [hS] at hwin
  have HMEET := Lib.hid (fun i (hi : i < N) => Sp.bit_meet hwin i hi)
  have HUS := Lib.hid (Sp.bit_used hwin)
  clear hwin hlN hinvN
  go_enter Tryd.func7, Tryd.ntmps7
  go_wp2_with fail
  refine (awake_any _).mono ?_
  rintro e w1 ⟨rfl, hb1⟩
  go_wp2_with fail
  refine (NewEnc_any 1000 (by decide) (by decide) _).mono ?_
  rintro e w2 ⟨g, hg, rfl, hB2, hb2⟩
  have hR2 := Row.nil w2 5
  have h12 := hb1.trans (hb2.mono hb1.size)
  have hg1 : w.heap.size ≤ g := by have := hb1.size; omega
  clear hb1 hb2
  go_wp2_with fail
  go_loopw [7] (fun i wr => ∃ (k : Nat) (vN : Value), k ≤ N ∧ i = .int .i64 k ∧ Blk wr g (encC (Sp.bitE L K k) vN) 66 ∧ Row wr 5 vN (bytesV (Sp.bitE L K k).out) ∧ Below w.heap.size w wr ∧ Hid (∀ k, vN.ownBlock = some k → w.heap.size ≤ k)) (fun i _ => N - (intOf i).toNat)
  case atStart => exact ⟨0, _, Nat.zero_le _, rfl, hB2, hR2, h12, Lib.hid (by intro k hk; simp [Value.ownBlock] at hk)⟩
  case round =>
    clear hB2 hR2 h12
    obtain ⟨j, vN, hj, rfl, hB, hR, hb, hF⟩ := hrel
    by_cases hltj : j < N
    · have hjL : j < L.length := by omega
      have hjK : j < K.length := by omega
      obtain ⟨x, hx⟩ : ∃ x, L[j] = x := ⟨_, rfl⟩
      obtain ⟨y, hy⟩ : ∃ y, K[j] = y := ⟨_, rfl⟩
      obtain ⟨a0, ho0, hab0, q0, w0⟩ := HCL.out j x (by rw [List.getElem?_eq_getElem hjL, hx])
      obtain ⟨b0, ho1, hab1, q1, w1⟩ := HCK.out j y (by rw [List.getElem?_eq_getElem hjK, hy])
      subst ho0 ho1
      obtain ⟨x0, x1⟩ := wf_u32 w0
      obtain ⟨y0, y1⟩ := wf_u8 w1
      have hkk : y % 25 = (Sp.cntN K j : Int) := by unfold Sp.cntN; rw [List.getD_eq_getElem?_getD, List.getElem?_eq_getElem hjK, hy, Option.getD_some]; omega
      have hzz : x % 2 ^ Sp.cntN K j = Sp.numN L K j := by unfold Sp.numN; rw [List.getD_eq_getElem?_getD, List.getElem?_eq_getElem hjL, hx, Option.getD_some]
      have hnext := Sp.bitE_next L K j
      have hk24 := Sp.cntN_le K j
      obtain ⟨hok, _, _⟩ := Sp.bitE_ok L K j
      obtain ⟨hz0, hz1⟩ := Sp.numN_bd L K j
      obtain ⟨kk, hkk'⟩ : ∃ kk, Sp.cntN K j = kk := ⟨_, rfl⟩
      rw [hkk'] at hkk hzz hnext hk24 hz1
      obtain ⟨z, hz'⟩ : ∃ z, Sp.numN L K j = z := ⟨_, rfl⟩
      rw [hz'] at hzz hnext hz0 hz1
      have HZ1 := Lib.hid hz1
      obtain ⟨p0, p1⟩ := pow_bd24 hk24
      obtain ⟨p, hp⟩ : ∃ p, (2 : Int) ^ kk = p := ⟨_, rfl⟩
      rw [hp] at hzz p0 p1 hz1
      have HP := Lib.hid hp
      have hpz : p ≠ 0 := by omega
      have hxw : IntKind.i64.wrap x = x := IntWalk.i64_in _ (by omega)
      have HNX := Lib.hid hnext
      have hkt : y.tmod 25 = (kk : Int) := by rw [Int.tmod_eq_emod_of_nonneg y0]; exact hkk
      have hzt : x.tmod p = z := by rw [Int.tmod_eq_emod_of_nonneg x0]; exact hzz
      clear hp hnext hkk' hz' hx hy w0 w1
      have p7 := (hb.cell (p := b0.add j) (by rw [add_block]; exact hab1)).trans q1
      have p8 := (hb.cell (p := a0.add j) (by rw [add_block]; exact hab0)).trans q0
      obtain ⟨ej, hej⟩ : ∃ ej, Sp.bitE L K j = ej := ⟨_, rfl⟩
      rw [hej] at hB hR hok
      have HNX2 := Lib.hid (show Sp.bitE L K (j + 1) = ej.puts (Sp.bitF 3 z kk) from by rw [HNX.out, hej])
      clear hej HNX
      go_wp2_with fail
      go_region_held3 (fun w' => w'.cell? (a0.add j) = some (.int .u32 x)) (first | exact p8 | exact p9) (first | (go_at_call 26; refine (Pow_any kk (by omega) _).mono ?_; rw [HP.out]; rintro r w5 ⟨rfl, rfl⟩) | (go_at_call 25; refine (EBits_any g hok (by omega) z kk hk24 hz0 HZ1.out vN _ hB.drew hR.drew).mono ?_; rintro r2 w6 ⟨rfl, v2, hB6, hR6, hK6, hF6⟩; have hb6 : Below w.heap.size w w6 := hb.drew.trans (encS_below hK6 hg1 hF.out hb.size); have p9 := (hb6.cell (p := a0.add j) (by rw [add_block]; exact hab0)).trans q0))
      have hF7 : Hid (∀ k, v2.ownBlock = some k → w.heap.size ≤ k) := Lib.hid (fun k hk => by
        rcases hF6 k hk with h | h
        · exact hF.out k h
        · have := hb.size; simp only [World.size_drew] at h; omega)
      go_wp2_with fail
      go_roundw
      case rel => exact ⟨j + 1, v2, by omega, by go_num, by rw [HNX2.out]; exact hB6, by rw [HNX2.out]; exact hR6, hb6, hF7⟩
      case measure => simp [intOf]; omega
    · obtain rfl : N = j := by omega
      by_cases hj1 : N < L.length
      · have hj2 : ¬ N < K.length := by omega
        go_wp2_with fail
        refine (EncDone_any g hokN (by omega) 1000 hszN (by decide) _ _ hB hR).mono ?_
        rintro e1 w1' ⟨rfl, hbD⟩
        rw [hS, hfok]
        have hBe1 := hB.newB hbD
        have hb1' := hb.trans (hbD.mono hb.size)
        clear hB hR hb hbD
        go_wp2_with fail
        refine (NewDec_any S _).mono ?_
        rintro e2 w2' ⟨gd, hgd, rfl, hBd2, hbN⟩
        have hBe2 := hBe1.newB hbN
        have hb2' := hb1'.trans (hbN.mono hb1'.size)
        have hgd1 : w.heap.size ≤ gd := by have := hb1'.size; omega
        have hgg : g ≠ gd := by have := hBe1.lt; omega
        clear hBe1 hbN hb1'
        go_wp2_with fail
        go_loopw [12] (fun i wr => ∃ (j : Nat), j ≤ N ∧ i = .int .i64 j ∧ Blk wr gd (decC (Sp.bitD S L K j)) 73 ∧ Blk wr g (encC (Sp.bitE L K N) vN) 66 ∧ Below w.heap.size w wr) (fun i _ => N - (intOf i).toNat)
        case atStart => exact ⟨0, Nat.zero_le _, rfl, hBd2, hBe2, hb2'⟩
        case round =>
          clear hBd2 hBe2 hb2'
          obtain ⟨j, hj, rfl, hBd, hBe, hb⟩ := hrel
          by_cases hltj : j < N
          · have hjL : j < L.length := by omega
            have hjK : j < K.length := by omega
            obtain ⟨x, hx⟩ : ∃ x, L[j] = x := ⟨_, rfl⟩
            obtain ⟨y, hy⟩ : ∃ y, K[j] = y := ⟨_, rfl⟩
            obtain ⟨a0, ho0, hab0, q0, w0⟩ := HCL.out j x (by rw [List.getElem?_eq_getElem hjL, hx])
            obtain ⟨b0, ho1, hab1, q1, w1⟩ := HCK.out j y (by rw [List.getElem?_eq_getElem hjK, hy])
            subst ho0 ho1
            obtain ⟨x0, x1⟩ := wf_u32 w0
            obtain ⟨y0, y1⟩ := wf_u8 w1
            have hkk : y % 25 = (Sp.cntN K j : Int) := by unfold Sp.cntN; rw [List.getD_eq_getElem?_getD, List.getElem?_eq_getElem hjK, hy, Option.getD_some]; omega
            have hzz : x % 2 ^ Sp.cntN K j = Sp.numN L K j := by unfold Sp.numN; rw [List.getD_eq_getElem?_getD, List.getElem?_eq_getElem hjL, hx, Option.getD_some]
            have hmeet := HMEET.out j hltj
            have hk24 := Sp.cntN_le K j
            have hokd := Sp.bitD_ok S L K j
            obtain ⟨kk, hkk'⟩ : ∃ kk, Sp.cntN K j = kk := ⟨_, rfl⟩
            rw [hkk'] at hkk hzz hmeet hk24
            obtain ⟨z, hz'⟩ : ∃ z, Sp.numN L K j = z := ⟨_, rfl⟩
            rw [hz'] at hzz hmeet
            obtain ⟨p0, p1⟩ := pow_bd24 hk24
            obtain ⟨p, hp⟩ : ∃ p, (2 : Int) ^ kk = p := ⟨_, rfl⟩
            rw [hp] at hzz p0 p1
            have HP := Lib.hid hp
            have hpz : p ≠ 0 := by omega
            have hxw : IntKind.i64.wrap x = x := IntWalk.i64_in _ (by omega)
            have HM := Lib.hid hmeet
            have hkt : y.tmod 25 = (kk : Int) := by rw [Int.tmod_eq_emod_of_nonneg y0]; exact hkk
            have hzt : x.tmod p = z := by rw [Int.tmod_eq_emod_of_nonneg x0]; exact hzz
            have hz0 : 0 ≤ z := by rw [← hzz]; exact Int.emod_nonneg _ (by omega)
            have hz1 : z < p := by rw [← hzz]; exact Int.emod_lt_of_pos _ (by omega)
            clear hp hmeet hkk' hz' hx hy w0 w1
            have p7 := (hb.cell (p := b0.add j) (by rw [add_block]; exact hab1)).trans q1
            go_wp2_with fail
            refine (DBits_any gd hokd (by omega) kk hk24 _ hBd).mono ?_
            rw [HM.out]
            rintro e4 w4 ⟨rfl, hBd4, hK4⟩
            have hBe4 := hBe.keep hK4 hgg
            have hb4 : Below w.heap.size w w4 := hb.trans (hK4.below (fun i hi => by rw [hi]; exact hgd1) hb.size)
            have p8 := (hb4.cell (p := a0.add j) (by rw [add_block]; exact hab0)).trans q0
            clear hBd hBe hb hK4 p7
            go_wp2_with fail
            go_region_held3 (fun w' => w'.cell? (a0.add j) = some (.int .u32 x)) (exact p8) (first | (go_at_call 26; refine (Pow_any kk (by omega) _).mono ?_; rw [HP.out]; rintro r w5 ⟨rfl, rfl⟩))
            go_wp2_with fail
            refine ⟨⟨j + 1, by omega, by go_num, hBd4.drew, hBe4.drew, hb4.drew⟩, ?_⟩
            simp [intOf]; omega
          · obtain rfl : N = j := by omega
            by_cases hj1 : N < L.length
            · have hj2 : ¬ N < K.length := by omega
              go_wp2_with fail
              refine (DecUsed_any gd (Sp.bitD_ok S L K N) (by omega) _ hBd).mono ?_
              rw [HUS.out]
              rintro e8 w8 ⟨rfl, hK8⟩
              have hBe8 := hBe.keep hK8 (fun h => h)
              have hb8 : Below w.heap.size w w8 := hb.trans (hK8.below (fun _ h => h.elim) hb.size)
              go_wp2_with fail
              refine (EncUsed_any g hokN (by omega) vN _ hBe8).mono ?_
              rintro e9 w9 ⟨rfl, hK9⟩
              have hb9 : Below w.heap.size w w9 := hb8.trans (hK9.below (fun _ h => h.elim) hb8.size)
              go_wp2_with fail
              go_ret
              exact ⟨rfl, hb9⟩
            · skip
              go_wp2_with fail
              refine (DecUsed_any gd (Sp.bitD_ok S L K N) (by omega) _ hBd).mono ?_
              rw [HUS.out]
              rintro e8 w8 ⟨rfl, hK8⟩
              have hBe8 := hBe.keep hK8 (fun h => h)
              have hb8 : Below w.heap.size w w8 := hb.trans (hK8.below (fun _ h => h.elim) hb.size)
              go_wp2_with fail
              refine (EncUsed_any g hokN (by omega) vN _ hBe8).mono ?_
              rintro e9 w9 ⟨rfl, hK9⟩
              have hb9 : Below w.heap.size w w9 := hb8.trans (hK9.below (fun _ h => h.elim) hb8.size)
              go_wp2_with fail
              go_ret
              exact ⟨rfl, hb9⟩
      · skip
        go_wp2_with fail
        refine (EncDone_any g hokN (by omega) 1000 hszN (by decide) _ _ hB hR).mono ?_
        rintro e1 w1' ⟨rfl, hbD⟩
        rw [hS, hfok]
        have hBe1 := hB.newB hbD
        have hb1' := hb.trans (hbD.mono hb.size)
        clear hB hR hb hbD
        go_wp2_with fail
        refine (NewDec_any S _).mono ?_
        rintro e2 w2' ⟨gd, hgd, rfl, hBd2, hbN⟩
        have hBe2 := hBe1.newB hbN
        have hb2' := hb1'.trans (hbN.mono hb1'.size)
        have hgd1 : w.heap.size ≤ gd := by have := hb1'.size; omega
        have hgg : g ≠ gd := by have := hBe1.lt; omega
        clear hBe1 hbN hb1'
        go_wp2_with fail
        go_loopw [12] (fun i wr => ∃ (j : Nat), j ≤ N ∧ i = .int .i64 j ∧ Blk wr gd (decC (Sp.bitD S L K j)) 73 ∧ Blk wr g (encC (Sp.bitE L K N) vN) 66 ∧ Below w.heap.size w wr) (fun i _ => N - (intOf i).toNat)
        case atStart => exact ⟨0, Nat.zero_le _, rfl, hBd2, hBe2, hb2'⟩
        case round =>
          clear hBd2 hBe2 hb2'
          obtain ⟨j, hj, rfl, hBd, hBe, hb⟩ := hrel
          by_cases hltj : j < N
          · have hjL : j < L.length := by omega
            have hjK : j < K.length := by omega
            obtain ⟨x, hx⟩ : ∃ x, L[j] = x := ⟨_, rfl⟩
            obtain ⟨y, hy⟩ : ∃ y, K[j] = y := ⟨_, rfl⟩
            obtain ⟨a0, ho0, hab0, q0, w0⟩ := HCL.out j x (by rw [List.getElem?_eq_getElem hjL, hx])
            obtain ⟨b0, ho1, hab1, q1, w1⟩ := HCK.out j y (by rw [List.getElem?_eq_getElem hjK, hy])
            subst ho0 ho1
            obtain ⟨x0, x1⟩ := wf_u32 w0
            obtain ⟨y0, y1⟩ := wf_u8 w1
            have hkk : y % 25 = (Sp.cntN K j : Int) := by unfold Sp.cntN; rw [List.getD_eq_getElem?_getD, List.getElem?_eq_getElem hjK, hy, Option.getD_some]; omega
            have hzz : x % 2 ^ Sp.cntN K j = Sp.numN L K j := by unfold Sp.numN; rw [List.getD_eq_getElem?_getD, List.getElem?_eq_getElem hjL, hx, Option.getD_some]
            have hmeet := HMEET.out j hltj
            have hk24 := Sp.cntN_le K j
            have hokd := Sp.bitD_ok S L K j
            obtain ⟨kk, hkk'⟩ : ∃ kk, Sp.cntN K j = kk := ⟨_, rfl⟩
            rw [hkk'] at hkk hzz hmeet hk24
            obtain ⟨z, hz'⟩ : ∃ z, Sp.numN L K j = z := ⟨_, rfl⟩
            rw [hz'] at hzz hmeet
            obtain ⟨p0, p1⟩ := pow_bd24 hk24
            obtain ⟨p, hp⟩ : ∃ p, (2 : Int) ^ kk = p := ⟨_, rfl⟩
            rw [hp] at hzz p0 p1
            have HP := Lib.hid hp
            have hpz : p ≠ 0 := by omega
            have hxw : IntKind.i64.wrap x = x := IntWalk.i64_in _ (by omega)
            have HM := Lib.hid hmeet
            have hkt : y.tmod 25 = (kk : Int) := by rw [Int.tmod_eq_emod_of_nonneg y0]; exact hkk
            have hzt : x.tmod p = z := by rw [Int.tmod_eq_emod_of_nonneg x0]; exact hzz
            have hz0 : 0 ≤ z := by rw [← hzz]; exact Int.emod_nonneg _ (by omega)
            have hz1 : z < p := by rw [← hzz]; exact Int.emod_lt_of_pos _ (by omega)
            clear hp hmeet hkk' hz' hx hy w0 w1
            have p7 := (hb.cell (p := b0.add j) (by rw [add_block]; exact hab1)).trans q1
            go_wp2_with fail
            refine (DBits_any gd hokd (by omega) kk hk24 _ hBd).mono ?_
            rw [HM.out]
            rintro e4 w4 ⟨rfl, hBd4, hK4⟩
            have hBe4 := hBe.keep hK4 hgg
            have hb4 : Below w.heap.size w w4 := hb.trans (hK4.below (fun i hi => by rw [hi]; exact hgd1) hb.size)
            have p8 := (hb4.cell (p := a0.add j) (by rw [add_block]; exact hab0)).trans q0
            clear hBd hBe hb hK4 p7
            go_wp2_with fail
            go_region_held3 (fun w' => w'.cell? (a0.add j) = some (.int .u32 x)) (exact p8) (first | (go_at_call 26; refine (Pow_any kk (by omega) _).mono ?_; rw [HP.out]; rintro r w5 ⟨rfl, rfl⟩))
            go_wp2_with fail
            refine ⟨⟨j + 1, by omega, by go_num, hBd4.drew, hBe4.drew, hb4.drew⟩, ?_⟩
            simp [intOf]; omega
          · obtain rfl : N = j := by omega
            by_cases hj1 : N < L.length
            · have hj2 : ¬ N < K.length := by omega
              go_wp2_with fail
              refine (DecUsed_any gd (Sp.bitD_ok S L K N) (by omega) _ hBd).mono ?_
              rw [HUS.out]
              rintro e8 w8 ⟨rfl, hK8⟩
              have hBe8 := hBe.keep hK8 (fun h => h)
              have hb8 : Below w.heap.size w w8 := hb.trans (hK8.below (fun _ h => h.elim) hb.size)
              go_wp2_with fail
              refine (EncUsed_any g hokN (by omega) vN _ hBe8).mono ?_
              rintro e9 w9 ⟨rfl, hK9⟩
              have hb9 : Below w.heap.size w w9 := hb8.trans (hK9.below (fun _ h => h.elim) hb8.size)
              go_wp2_with fail
              go_ret
              exact ⟨rfl, hb9⟩
            · skip
              go_wp2_with fail
              refine (DecUsed_any gd (Sp.bitD_ok S L K N) (by omega) _ hBd).mono ?_
              rw [HUS.out]
              rintro e8 w8 ⟨rfl, hK8⟩
              have hBe8 := hBe.keep hK8 (fun h => h)
              have hb8 : Below w.heap.size w w8 := hb.trans (hK8.below (fun _ h => h.elim) hb.size)
              go_wp2_with fail
              refine (EncUsed_any g hokN (by omega) vN _ hBe8).mono ?_
              rintro e9 w9 ⟨rfl, hK9⟩
              have hb9 : Below w.heap.size w w9 := hb8.trans (hK9.below (fun _ h => h.elim) hb8.size)
              go_wp2_with fail
              go_ret
              exact ⟨rfl, hb9⟩
end Go.Proofs.YtlhjkichambaoaaDoor
