/- The walk of spoollaw08.LaplBack: whatever the numbers, it returns true. -/
import Derived.Test.YtlhjkichambaoaaDoorLaplR
import Derived.Test.YtlhjkichambaoaaDoorRangE3
import Derived.Test.YtlhjkichambaoaaDoorNums
import Derived.Test.YtlhjkichambaoaaDoorSpecLaplB
import Derived.Test.YtlhjkichambaoaaDoorLaw7
namespace Go.Proofs.YtlhjkichambaoaaDoor
open Go.RowKit

set_option maxHeartbeats 1000000 in
theorem awake08 (w : World) : Calls Tryd.prog 29 #[] w fun e w' => e = .returned (.bool true) ∧ Below w.heap.size w w' := by
  go_enter Tryd.func29, Tryd.ntmps29
  go_wp2_with (go_at_call 40; refine (Cell_at (v := 0) (a := 0) (c := 12568) (ok := true) (by decide +kernel) _).mono ?_; rintro e w' ⟨rfl, hb⟩)
  go_ret
  exact ⟨rfl, hb⟩

set_option maxRecDepth 100000 in
set_option maxHeartbeats 3200000 in
theorem LaplBack_any (v : Value) (l : List Int) (w : World) (hL : NumsIn w .i8 v l) : Calls Tryd.prog 9 #[v] w fun e w' => e = .returned (.bool true) ∧ Below w.heap.size w w' := by
  obtain ⟨o, cap, rfl, hl1, hl2, hcl⟩ := hL
  have HCL := Lib.hid hcl
  clear hcl
  obtain ⟨N, hN⟩ : ∃ N, l.length = N := ⟨_, rfl⟩
  rw [hN] at hl1 ⊢
  have HN := Lib.hid hN
  clear hN
  by_cases hlong : 100 < N
  · go_enter Tryd.func9, Tryd.ntmps9
    go_wp2_with fail
    refine (awake08 _).mono ?_
    rintro e w1 ⟨rfl, hb1⟩
    go_wp2_with fail
    refine (awake08 _).mono ?_
    rintro e w2 ⟨rfl, hb2⟩
    go_wp2_with fail
    go_ret
    exact ⟨rfl, hb1.trans (hb2.mono hb1.size)⟩
  have hN100 : N ≤ 100 := by omega
  have hwin := Sp.lap_within l N hN100
  obtain ⟨hokN, hinvN, hszN⟩ := Sp.lapE_ok l N
  have hlN : (Sp.lapE l N).all.length ≤ 1000 := by rw [Sp.Enc.all_length]; have := hokN.len; omega
  have hfok : Sp.fitOk (Sp.lapE l N).all 1000 = true := Sp.fitOk_short hlN
  obtain ⟨S, hS⟩ : ∃ S, Sp.fitS (Sp.lapE l N).all 1000 = S := ⟨_, rfl⟩
  rw [hS] at hwin
  have HMEET := Lib.hid (fun i (hi : i < N) => Sp.lap_meet hwin hi)
  have HUS := Lib.hid (Sp.lap_used hwin)
  clear hwin hlN hinvN
  go_enter Tryd.func9, Tryd.ntmps9
  go_wp2_with fail
  refine (awake08 _).mono ?_
  rintro e w1 ⟨rfl, hb1⟩
  go_wp2_with fail
  refine (NewEnc_any 1000 (by decide) (by decide) _).mono ?_
  rintro e w2 ⟨g, hg, rfl, hB2, hb2⟩
  have hR2 := Row.nil w2 5
  have h12 := hb1.trans (hb2.mono hb1.size)
  have hg1 : w.heap.size ≤ g := by have := hb1.size; omega
  clear hb1 hb2
  go_wp2_with fail
  go_loopw [5, 6] (fun cv i wr => ∃ (k : Nat) (vN : Value), k ≤ N ∧ cv = .int .i64 (Sp.costN l k) ∧ i = .int .i64 k ∧ Blk wr g (encC (Sp.lapE l k) vN) 66 ∧ Row wr 5 vN (bytesV (Sp.lapE l k).out) ∧ Below w.heap.size w wr ∧ Hid (∀ k, vN.ownBlock = some k → w.heap.size ≤ k)) (fun _ i _ => N - (intOf i).toNat)
  case atStart => exact ⟨0, _, Nat.zero_le _, rfl, rfl, hB2, hR2, h12, Lib.hid (by intro k hk; simp [Value.ownBlock] at hk)⟩
  case round =>
    clear hB2 hR2 h12
    obtain ⟨j, vN, hj, rfl, rfl, hB, hR, hb, hF⟩ := hrel
    have hcb := Sp.costN_bd l j
    by_cases hltj : j < N
    · have hjL : j < l.length := by rw [HN.out]; exact hltj
      obtain ⟨x, hx⟩ : ∃ x, l[j] = x := ⟨_, rfl⟩
      obtain ⟨a0, ho0, hab0, q0, w0⟩ := HCL.out j x (by rw [List.getElem?_eq_getElem hjL, hx])
      subst ho0
      have hv : x.tmod 25 = Sp.valN l j := by unfold Sp.valN; rw [List.getD_eq_getElem?_getD, List.getElem?_eq_getElem hjL, hx, Option.getD_some]
      obtain ⟨v0, v1⟩ := Sp.valN_bd l j
      have hnext := Sp.lapE_next l j
      obtain ⟨hok, _, _⟩ := Sp.lapE_ok l j
      have hcn : Sp.costN l (j + 1) = Sp.costN l j + Sp.costOf (Sp.valN l j) + 1 := rfl
      have hco := Sp.cost_bd v0 v1
      obtain ⟨vv, hvv⟩ : ∃ vv, Sp.valN l j = vv := ⟨_, rfl⟩
      rw [hvv] at hv v0 v1 hnext hcn hco
      obtain ⟨cc, hcc⟩ : ∃ cc, Sp.costN l j = cc := ⟨_, rfl⟩
      rw [hcc] at hcb hcn ⊢
      obtain ⟨co, hco'⟩ : ∃ co, Sp.costOf vv = co := ⟨_, rfl⟩
      rw [hco'] at hco hcn
      have HCO := Lib.hid hco'
      have HCN := Lib.hid hcn
      have HNX := Lib.hid hnext
      clear hvv hcc hco' hcn hnext hx w0
      have p8 := (hb.cell (p := a0.add j) (by rw [add_block]; exact hab0)).trans q0
      go_wp2_with fail
      refine (LPut_any g hok (by omega) vv v0 v1 vN _ hB hR).mono ?_
      rintro r2 w6 ⟨rfl, v2, hB6, hR6, hK6, hF6⟩
      have hb6 : Below w.heap.size w w6 := hb.trans (encS_below hK6 hg1 hF.out hb.size)
      have hF7 : Hid (∀ k, v2.ownBlock = some k → w.heap.size ≤ k) := Lib.hid (fun k hk => by
        rcases hF6 k hk with h | h
        · exact hF.out k h
        · have := hb.size; omega)
      rw [← HNX.out] at hB6 hR6
      clear hB hR hb hF hK6 hF6 p8
      go_wp2_with fail
      refine (Cost_any vv _).mono ?_
      rw [HCO.out]
      rintro r3 w7 ⟨rfl, hb67⟩
      have hB7 := hB6.newB hb67
      have hR7 := hR6.keep (Kept.of_below (S := fun _ => False) hb67) (fun _ _ h => h)
      have hb7 : Below w.heap.size w w7 := hb6.trans (hb67.mono hb6.size)
      go_wp2_with fail
      go_roundw
      case rel => exact ⟨j + 1, v2, by omega, by rw [HCN.out], by go_num, hB7, hR7, hb7, hF7⟩
      case measure => simp [intOf]; omega
    · obtain rfl : j = N := by omega
      have hub := Sp.lapE_used l j
      have hus := used_bd hokN
      obtain ⟨cc, hcc⟩ : ∃ cc, Sp.costN l j = cc := ⟨_, rfl⟩
      rw [hcc] at hcb hub ⊢
      go_wp2_with fail
      refine (EncUsed_any g hokN (by omega) vN _ hB).mono ?_
      rintro e3 w4 ⟨rfl, hK4⟩
      have hB4 := hB.keep hK4 (fun h => h)
      have hR4 := hR.keep hK4 (fun _ _ h => h)
      have hb4 : Below w.heap.size w w4 := hb.trans (hK4.below (fun _ h => h.elim) hb.size)
      clear hB hR hb hK4
      go_wp2_with fail
      refine (EncDone_any g hokN (by omega) 1000 hszN (by decide) _ _ hB4 hR4).mono ?_
      rintro e1 w1' ⟨rfl, hbD⟩
      rw [hS, hfok]
      have hBe1 := hB4.newB hbD
      have hb1' := hb4.trans (hbD.mono hb4.size)
      clear hB4 hR4 hb4 hbD hub hus
      go_wp2_with fail
      refine (NewDec_any S _).mono ?_
      rintro e2 w2' ⟨gd, hgd, rfl, hBd2, hbN⟩
      have hBe2 := hBe1.newB hbN
      have hb2' := hb1'.trans (hbN.mono hb1'.size)
      have hgd1 : w.heap.size ≤ gd := by have := hb1'.size; omega
      have hgg : g ≠ gd := by have := hBe1.lt; omega
      clear hBe1 hbN hb1'
      go_wp2_with fail
      go_loopw [11] (fun i wr => ∃ (k : Nat), k ≤ j ∧ i = .int .i64 k ∧ Blk wr gd (decC (Sp.lapD S l k)) 73 ∧ Blk wr g (encC (Sp.lapE l j) vN) 66 ∧ Below w.heap.size w wr) (fun i _ => j - (intOf i).toNat)
      case atStart => exact ⟨0, Nat.zero_le _, rfl, hBd2, hBe2, hb2'⟩
      case round =>
        clear hBd2 hBe2 hb2'
        obtain ⟨k, hk, rfl, hBd, hBe, hb⟩ := hrel
        by_cases hltk : k < j
        · have hkL : k < l.length := by rw [HN.out]; exact hltk
          obtain ⟨x, hx⟩ : ∃ x, l[k] = x := ⟨_, rfl⟩
          obtain ⟨a0, ho0, hab0, q0, w0⟩ := HCL.out k x (by rw [List.getElem?_eq_getElem hkL, hx])
          subst ho0
          have hv : x.tmod 25 = Sp.valN l k := by unfold Sp.valN; rw [List.getD_eq_getElem?_getD, List.getElem?_eq_getElem hkL, hx, Option.getD_some]
          obtain ⟨v0, v1⟩ := Sp.valN_bd l k
          have hokd := Sp.lapD_ok S l k
          have hltv : ltakeV (Sp.lapD S l k) = Sp.valN l k := HMEET.out k hltk
          have hltd : ltakeD (Sp.lapD S l k) = Sp.lapD S l (k + 1) := by unfold ltakeD; rw [hltv]; exact (Sp.lapD_next S l k).symm
          obtain ⟨vv, hvv⟩ : ∃ vv, Sp.valN l k = vv := ⟨_, rfl⟩
          rw [hvv] at hv v0 v1 hltv
          have HV := Lib.hid hltv
          have HD := Lib.hid hltd
          clear hvv hltv hltd hx w0
          go_wp2_with fail
          refine (LTake_any gd hokd (by omega) _ hBd).mono ?_
          rw [HV.out, HD.out]
          rintro e4 w5 ⟨rfl, hBd5, hK5⟩
          have hBe5 := hBe.keep hK5 hgg
          have hb5 : Below w.heap.size w w5 := hb.trans (hK5.below (fun i hi => by rw [hi]; exact hgd1) hb.size)
          have p8 := (hb5.cell (p := a0.add k) (by rw [add_block]; exact hab0)).trans q0
          clear hBd hBe hb hK5
          go_wp2_with fail
          go_roundw
          case rel => exact ⟨k + 1, by omega, by go_num, hBd5, hBe5, hb5⟩
          case measure => simp [intOf]; omega
        · obtain rfl : k = j := by omega
          go_wp2_with fail
          refine (DecUsed_any gd (Sp.lapD_ok S l k) (by omega) _ hBd).mono ?_
          rw [HUS.out]
          rintro e8 w8 ⟨rfl, hK8⟩
          have hBe8 := hBe.keep hK8 (fun h => h)
          have hb8 : Below w.heap.size w w8 := hb.trans (hK8.below (fun _ h => h.elim) hb.size)
          go_wp2_with fail
          refine (EncUsed_any g hokN (by omega) vN _ hBe8).mono ?_
          rintro e9 w9 ⟨rfl, hK9⟩
          have hb9 : Below w.heap.size w w9 := hb8.trans (hK9.below (fun _ h => h.elim) hb8.size)
          go_wp2_with fail
          go_ret
          exact ⟨rfl, hb9⟩
end Go.Proofs.YtlhjkichambaoaaDoor
