/- The walks of the document's Near and From (spoolref23). -/
import Derived.Test.YtmfihaaiddolmaaGreatDoorRef21b
import Derived.Test.YtmfihaaiddolmaaGreatDoorSeek5
set_option linter.unusedSimpArgs false
set_option linter.unusedVariables false
namespace Go.Proofs.YtmfihaaiddolmaaGreatDoor
open Go.RowKit

def nearI (l : List Ent) (i : Nat) : Int := match nearE l i with
  | some k => k
  | none => -1
theorem nearI_succ {l : List Ent} {k : Nat} {e : Ent} (h : l[k]? = some e) : nearI l (k + 1) = if isChk e then (k : Int) else nearI l k := by
  unfold nearI
  rw [near_succ h]
  cases isChk e <;> rfl
set_option maxRecDepth 100000 in
set_option maxHeartbeats 4000000 in
theorem RNear_any (l : List Ent) (i : Nat) (hi : i ≤ l.length) (hl : l.length ≤ 1000) (p : Option Addr) (cap : Nat) (w : World) (hE : EntIn w p cap l) :
    Calls Tryz.prog 30 #[.slice p l.length cap, .int .i64 i] w fun r w' => r = .returned (.int .i64 (nearI l i)) ∧ Below w.heap.size w w' := by
  have hc1 := hE.1
  have hc2 := hE.2.1
  obtain ⟨n, hn⟩ : ∃ n, l.length = n := ⟨_, rfl⟩
  have HN := Lib.hid hn
  rw [hn] at hi hl hc1 ⊢
  obtain ⟨Z, hZ⟩ : ∃ Z, nearI l i = Z := ⟨_, rfl⟩
  rw [hZ]
  have HZ := Lib.hid hZ
  obtain ⟨B, hB⟩ : ∃ B, w.heap.size = B := ⟨_, rfl⟩
  have HE := Lib.hid hE
  have hfar := Below.refl B w
  have hsz : B ≤ w.heap.size := by omega
  clear hE hn hZ
  go_enter Tryz.func30, Tryz.ntmps30
  go_wp2_with fail
  go_loopw [5, 6] (fun o kv wr => ∃ k : Nat, k ≤ i ∧ kv = .int .i64 k ∧ o = .int .i64 (nearI l k) ∧ Below B w wr ∧ B ≤ wr.heap.size) (fun _ kv _ => i - (intOf kv).toNat)
  case atStart => exact ⟨0, by omega, rfl, rfl, hfar, hsz⟩
  case round =>
    clear hfar hsz
    obtain ⟨k, hk, rfl, rfl, hfar, hsz⟩ := hrel
    by_cases hlt : k < i
    · have hlti : (k : Int) < (i : Int) := by omega
      have hkn : (k : Int) < (n : Int) := by omega
      have hkl : k < l.length := by rw [HN.out]; omega
      obtain ⟨e, he⟩ : ∃ e, l[k]? = some e := ⟨_, List.getElem?_eq_getElem hkl⟩
      have hnx := nearI_succ he
      have hchk : isChk e = (decide (e.kind = 3) && rightE e) := rfl
      rw [hchk] at hnx
      obtain ⟨z, hz⟩ : ∃ z, nearI l k = z := ⟨_, rfl⟩
      rw [hz] at hnx ⊢
      obtain ⟨a, rfl, hab, c0, c1, c2, ho⟩ := (HE.out.below hB.symm hfar).2.2 k e he
      have hre := fun w => RERight_any e w
      obtain ⟨R, hR⟩ : ∃ R, rightE e = R := ⟨_, rfl⟩
      rw [hR] at hnx
      simp only [hR] at hre
      obtain ⟨ek, sp, s⟩ := e
      simp only at c0 c1 c2 hnx hre
      have HNX := Lib.hid hnx
      have HRE := Lib.hid hre
      clear he hkl hchk hz hR hnx hre
      by_cases h3 : ek = 3
      · subst h3
        go_wp2_with fail
        refine (HRE.out _).mono ?_
        rintro e w2 ⟨rfl, hb2⟩
        replace hfar := hfar.trans (hb2.mono (by omega))
        replace hsz := Nat.le_trans hsz hb2.size
        cases R with
        | false =>
          have hnx : nearI l (k + 1) = z := HNX.out
          have HN2 := Lib.hid hnx
          clear hnx
          go_wp2_with fail
          go_roundw
          case rel => exact ⟨k + 1, hlt, by go_num, by rw [HN2.out], hfar, hsz⟩
          case measure => simp [intOf]; omega
        | true =>
          have hnx : nearI l (k + 1) = k := HNX.out
          have HN2 := Lib.hid hnx
          clear hnx
          go_wp2_with fail
          go_roundw
          case rel => exact ⟨k + 1, hlt, by go_num, by rw [HN2.out], hfar, hsz⟩
          case measure => simp [intOf]; omega
      · have h3b : (ek == 3) = false := by simpa using h3
        have hnx : nearI l (k + 1) = z := by rw [HNX.out]; simp [h3]
        have HN2 := Lib.hid hnx
        clear hnx
        go_wp2_with fail
        go_roundw
        case rel => exact ⟨k + 1, hlt, by go_num, by rw [HN2.out], hfar, hsz⟩
        case measure => simp [intOf]; omega
    · obtain rfl : k = i := by omega
      go_wp2_with fail
      go_ret
      exact ⟨by rw [← HZ.out]; rfl, (by (try rw [hB]); exact bl_)⟩
theorem sl_named {W : World} {lo hi size n cap : Nat} {p : Option Addr} {xs : List Value} (h : SL W lo hi size p n cap xs) : ∃ lo2 hi2, lo = lo2 ∧ hi = hi2 ∧ SL W lo2 hi2 size p n cap xs := ⟨_, _, rfl, rfl, h⟩
theorem sllw {ops : Array Oper} {rest : List Oper} {op : Oper} {a : Act} {w : World} {Q : Exit → Act → World → Prop} (t : TypeId) {x y : Operand} (ho : op.op = .slice t x (some y) none none) (hwd : Region.wanted op (yielded ops a.tmps) = true) {p : Option Addr} {n cap : Nat} (hx : a.eval x = .slice p n cap) {k : Nat} (hy : a.eval y = .int .i64 (k : Nat))
    {e : TypeId} {s : Nat} (ht : Tryz.prog.underlying t = some (.slice e)) (hs : ∀ w, (sizeOf e).run Tryz.prog w = .ok s w) (hk : k ≤ n) {p' : Option Addr} (hp : (if cap = k then p else p.map (·.add (k * s))) = p') {m : Nat} (hm : n - k = m) (h : wpList Tryz.prog ops Q rest (a.put op.dst (.slice p' m (cap - k))) w) : wpList Tryz.prog ops Q (op :: rest) a w :=
  wpList_step fun K hK => by
    rw [if_pos hwd]
    have he : Tryz.prog.elem t = e := by unfold Program.elem; rw [ht]
    have ht2 : Tryz.prog.underlying t = some (.slice (Tryz.prog.elem t)) := by rw [he]; exact ht
    unfold Oper.wp execOp
    simp only [ho, hx, hy, Option.map_some, Option.map_none, Sem.run_bind]
    rw [run_sliceAt_slice w t _ _ _ _ ht2, run_slice_l w t p n cap ht2 .i64 k (by omega) (by omega), he, hs]
    simp only [Result.andThen, sliced, Int.toNat_natCast, hp, hm]
    exact hK _ _ h
def RetRF (w : World) (n : Nat) (xs : List Value) (e : Ending) (w' : World) : Prop :=
  ∃ p cap lo hi, e = .returned (.slice p n cap) ∧ SL w' lo hi 16 p n cap xs ∧ w.heap.size ≤ lo ∧ hi ≤ w'.heap.size ∧ Below w.heap.size w w'
set_option maxRecDepth 100000 in
set_option maxHeartbeats 8000000 in
theorem RFrom_any (l : List Ent) (i : Nat) (hi : i ≤ l.length) (hl : l.length ≤ 1000) (p : Option Addr) (cap : Nat) (w : World) (hE : EntIn w p cap l) :
    Calls Tryz.prog 31 #[.slice p l.length cap, .int .i64 i] w (RetRF w (fromO l i).length ((fromO l i).flatMap intsV)) := by
  have hc1 := hE.1
  have hc2 := hE.2.1
  have hne := fun w hE => RNear_any l i hi hl p cap w hE
  have hKi := begK_le l i
  have LS := Len.mk (begS_len l i)
  -- what the last check tells
  have hcase : (∃ k e, nearE l i = some k ∧ k < i ∧ begK l i = k + 1 ∧ l[k]? = some e ∧ isChk e = true ∧ begS l i = readSt e.data) ∨ (nearE l i = none ∧ begK l i = 0 ∧ begS l i = zs 38) := by
    cases hn : nearE l i with
    | none => exact .inr ⟨rfl, (near_none hn).1, (near_none hn).2⟩
    | some k =>
      obtain ⟨h1, h2, e, he, hc⟩ := near_some hi hn
      exact .inl ⟨k, e, rfl, h1, h2, he, hc, begS_some hn he⟩
  have hSr : rightS (begS l i) = true := by
    rcases hcase with ⟨k, e, _, _, _, _, _, h⟩ | ⟨_, _, h⟩
    · rw [h]; exact readSt_right _
    · rw [h]; exact zs_right38
  obtain ⟨O, hO⟩ : ∃ O, fromO l i = O := ⟨_, rfl⟩
  rw [hO]
  unfold fromO at hO
  have hnI : nearI l i = (begK l i : Int) - 1 := by
    unfold nearI
    rcases hcase with ⟨k, e, h, _, h2, _⟩ | ⟨h, h2, _⟩
    · rw [h, h2]; simp only; omega
    · rw [h, h2]; simp
  obtain ⟨S, hS⟩ : ∃ S, begS l i = S := ⟨_, rfl⟩
  obtain ⟨K, hK⟩ : ∃ K, begK l i = K := ⟨_, rfl⟩
  simp only [hS, hK] at hO LS hKi hSr hnI hcase
  obtain ⟨n, hn⟩ : ∃ n, l.length = n := ⟨_, rfl⟩
  have HN := Lib.hid hn
  rw [hn] at hi hl hc1 hne ⊢
  obtain ⟨p1, hp1⟩ : ∃ p', (if cap = K then p else p.map (·.add (K * 3))) = p' := ⟨_, rfl⟩
  obtain ⟨m1, hm1⟩ : ∃ m, i - K = m := ⟨_, rfl⟩
  obtain ⟨m2, hm2⟩ : ∃ m, n - K = m := ⟨_, rfl⟩
  have hl1 : ((l.take i).drop K).length = m1 := by rw [List.length_drop, List.length_take]; omega
  have hl2 : (l.drop K).length = m2 := by rw [List.length_drop]; omega
  have hcat : l.drop K = (l.take i).drop K ++ l.drop i := by
    conv => lhs; rw [← List.take_append_drop i l]
    rw [List.drop_append_of_le_length (by rw [List.length_take]; omega)]
  have hin1 := fun W (h : EntIn W p cap l) => (h.take i).drop (k := K) (by rw [List.length_take]; omega)
  have hin2 := fun W (h : EntIn W p cap l) => h.drop (k := K) (by omega)
  simp only [hp1] at hin1 hin2
  obtain ⟨A, hA⟩ : ∃ A, (l.take i).drop K = A := ⟨_, rfl⟩
  obtain ⟨D, hD⟩ : ∃ D, l.drop K = D := ⟨_, rfl⟩
  rw [hA] at hl1 hO hcat
  rw [hD] at hl2 hcat
  simp only [hA] at hin1
  simp only [hD] at hin2
  have hF1 := fun w (hs : EntIn w p1 (cap - K) A) => RFold_any S LS.out hSr A (by omega) p1 (cap - K) w hs
  have hF2 := fun w (hs : EntIn w p1 (cap - K) D) => RFold_any S LS.out hSr D (by omega) p1 (cap - K) w hs
  rw [hl1] at hF1
  rw [hl2] at hF2
  have hall : foldO S D = foldO S A ++ O := by rw [hcat, foldO_app, hO]
  have LM1 := Len.mk (foldS_len LS.out A)
  have LM2 := Len.mk (foldS_len LS.out D)
  have hall16 := foldO_len S D
  have hlA := foldO_le S A
  have hlD := foldO_le S D
  rw [hl1] at hlA
  rw [hl2] at hlD
  obtain ⟨M1, hM1⟩ : ∃ M, foldS S A = M := ⟨_, rfl⟩
  obtain ⟨M2, hM2⟩ : ∃ M, foldS S D = M := ⟨_, rfl⟩
  obtain ⟨X, hX⟩ : ∃ M, foldO S A = M := ⟨_, rfl⟩
  obtain ⟨Y, hY⟩ : ∃ M, foldO S D = M := ⟨_, rfl⟩
  rw [hX, hY] at hall
  rw [hM1] at LM1
  rw [hM2] at LM2
  rw [hX] at hlA
  rw [hY] at hlD hall16
  simp only [hM1, hX] at hF1
  simp only [hM2, hY] at hF2
  obtain ⟨nx, hnx⟩ : ∃ n, X.length = n := ⟨_, rfl⟩
  obtain ⟨ny, hny⟩ : ∃ n, Y.length = n := ⟨_, rfl⟩
  obtain ⟨no, hno⟩ : ∃ n, O.length = n := ⟨_, rfl⟩
  have hsum : ny = nx + no := by rw [← hny, hall, List.length_append, hnx, hno]
  rw [hnx] at hlA
  rw [hny] at hlD
  rw [hno]
  have hdrop : Y.drop nx = O := by rw [hall, ← hnx, List.drop_left]
  have HE := Lib.hid hE
  have HNE := Lib.hid hne
  have HF1 := Lib.hid hF1
  have HF2 := Lib.hid hF2
  have HI1 := Lib.hid hin1
  have HI2 := Lib.hid hin2
  have HP1 := Lib.hid hp1
  have HM1 := Lib.hid hm1
  have HM2 := Lib.hid hm2
  have HNX := Lib.hid hnx
  have HNY := Lib.hid hny
  have HDR := Lib.hid hdrop
  have HA16 := Lib.hid hall16
  have HNI := Lib.hid hnI
  have HCASE := Lib.hid hcase
  clear hE hne hF1 hF2 hin1 hin2 hp1 hm1 hm2 hnx hny hno hdrop hall hall16 hM1 hM2 hX hY hA hD hl1 hl2 hcat hO hS hK hn hnI hcase
  obtain ⟨B, hB⟩ : ∃ B, w.heap.size = B := ⟨_, rfl⟩
  have hfar := Below.refl B w
  have hsz : B ≤ w.heap.size := by omega
  go_enter Tryz.func31, Tryz.ntmps31
  go_wp2_with fail
  refine (HNE.out _ HE.out).mono ?_
  rintro e w2 ⟨rfl, hb2⟩
  replace hfar := hfar.trans (hb2.mono (by omega))
  replace hsz := Nat.le_trans hsz hb2.size
  rw [HNI.out]
  obtain ⟨kk, hkk⟩ : ∃ x : Int, (K : Int) - 1 = x := ⟨_, rfl⟩
  rw [hkk]
  obtain ⟨g, hg⟩ : ∃ g, w2.heap.size = g := ⟨_, rfl⟩
  have hBg : B ≤ g := by omega
  go_upto_region 3 with (fail)
  refine wp_gen (fun W => Blk W (g) (arrV (zs 38)) 25 ∧ Below (B) w W ∧ g + 1 ≤ W.heap.size) ⟨bk_, bl_, sz_⟩ ?_
  clear hfar hsz
  rintro w3 ⟨hS, hfar, hsz⟩
  go_upto_if 15 with (fail)
  go_cut [] from 16 to 24 (fun wx => Blk wx g (arrV S) 25 ∧ Below B w wx ∧ g + 1 ≤ wx.heap.size)
  case first =>
    rcases HCASE.out with ⟨k, e, -, hki, hKe, he, hc, hSe⟩ | ⟨-, hKe, hSe⟩
    · obtain rfl : kk = (k : Int) := by omega
      have hk0 : (0 : Int) ≤ (k : Int) := by omega
      have hkn : (k : Int) < (n : Int) := by omega
      obtain ⟨a, rfl, hab, c0, c1, c2, ho⟩ := (HE.out.below hB.symm hfar).2.2 k e he
      have hE0 : readE e.data = 0 := by
        unfold isChk rightE at hc
        simp only [Bool.and_eq_true, decide_eq_true_eq] at hc
        obtain ⟨h3, h4⟩ := hc
        rw [if_neg (by omega), if_neg (by omega), if_pos h3] at h4
        simpa using h4
      have hraw : rawSt e.data = S := by
        rw [hSe]
        unfold rawSt readSt
        rw [if_pos hE0, if_pos]
        unfold readE at hE0
        by_cases h : e.data.size = 137
        · exact h
        · rw [if_neg h] at hE0; exact absurd hE0 (by decide)
      have hst := fun w => RState_any e.data w
      simp only [hraw] at hst
      obtain ⟨y, hy⟩ : ∃ y, decide (readE e.data = 0) = y := ⟨_, rfl⟩
      simp only [hy] at hst
      obtain ⟨ek, sp, s⟩ := e
      simp only at c0 c1 c2 hst
      have HST := Lib.hid hst
      clear hkk he hc hSe hE0 hraw hst hy c0 c1 ho
      go_wp2_with fail
      refine (HST.out _).mono ?_
      rintro e w4 ⟨rfl, hb4⟩
      replace hS := hS.newB hb4
      replace hfar := hfar.trans (hb4.mono (by omega))
      replace hsz := Nat.le_trans hsz hb4.size
      go_wp2_with (refine st 25 rfl (by rfl) w_RState rfl rfl bk_ lz_ lz_ one_ ?_)
      go_meet
      case rel => exact ⟨by exact bk_, by exact bl_, by exact sz_⟩
    · obtain rfl : kk = -1 := by omega
      clear hkk
      rw [← hSe] at hS
      go_wp2_with fail
      go_meet
      case rel => exact ⟨hS, hfar, hsz⟩
  case rest =>
    clear hS hfar hsz
    obtain ⟨hS, hfar, hsz⟩ := hcut
    have hk1 : kk + 1 = (K : Int) := by omega
    have hkw : IntKind.i64.wrap (K : Int) = (K : Int) := IntWalk.i64_in _ (by omega)
    have hic : i ≤ cap := by omega
    clear hkk
    go_upto_region 5 with (fail)
    go_cut [7] from 25 to 34 (fun s7 wx => ∃ pX cX, s7 = .slice pX nx cX ∧ Blk wx g (arrV S) 25 ∧ Below B w wx ∧ g + 1 ≤ wx.heap.size)
    case first =>
      refine wp_region_held_drew (S := fun W => Blk W (g) (arrV S) 25 ∧ Below (B) w W ∧ g + 1 ≤ W.heap.size) (by kernel_rfl) (⟨hS.drew, hfar.drew, hsz⟩) (fun hH => ?_)
      have hH2 := hH
      obtain ⟨hS, hfar, hsz⟩ := hH2
      refine wpAnyH_take (i := 0) (oi := { dst := some 26, op := Op.load 25 (Operand.tmp 6), type := 25, pos := "ref.go:28", after := _, guard := none }) (v := .agg (arrV S)) rfl (by kernel_rfl) (by kernel_rfl) (by kernel_rfl) (fun _ _ _ h => h) (yieldsIf_ld (by rfl) 25 rfl w_RState rfl (fun _ hS => hS.1) zz_) hH ?_
      try simp only [Act.put, List.setIfInBounds_toArray, List.set_cons_zero, List.set_cons_succ]
      refine wpAnyH_take (i := 1) (oi := { dst := some 27, op := Op.move (Operand.tmp 0), type := 43, pos := "ref.go:28", after := _, guard := none }) (v := _) rfl (by kernel_rfl) (by kernel_rfl) (by kernel_rfl) (fun _ _ _ h => h) (.inl ⟨by rfl, fun w hS => by (go_simp; try rfl)⟩) hH ?_
      try simp only [Act.put, List.setIfInBounds_toArray, List.set_cons_zero, List.set_cons_succ]
      refine wpAnyH_take (i := 2) (oi := { dst := some 28, op := Op.move (Operand.tmp 5), type := 3, pos := "ref.go:28", after := _, guard := none }) (v := _) rfl (by kernel_rfl) (by kernel_rfl) (by kernel_rfl) (fun _ _ _ h => h) (.inl ⟨by rfl, fun w hS => by (go_simp; try rfl)⟩) hH ?_
      try simp only [Act.put, List.setIfInBounds_toArray, List.set_cons_zero, List.set_cons_succ]
      refine wpAnyH_take (i := 3) (oi := { dst := some 29, op := Op.binOp BinOp.add 3 (Operand.tmp 28) (Operand.const (Value.int IntKind.i64 1)) 3, type := 3, pos := "ref.go:28", after := _, guard := none }) (v := .int .i64 (K : Nat)) rfl (by kernel_rfl) (by kernel_rfl) (by kernel_rfl) (fun _ _ _ h => h) (.inl ⟨by rfl, fun w hS => by (go_simp; try rfl)⟩) hH ?_
      try simp only [Act.put, List.setIfInBounds_toArray, List.set_cons_zero, List.set_cons_succ]
      refine wpAnyH_take (i := 4) (oi := { dst := some 30, op := Op.move (Operand.tmp 1), type := 3, pos := "ref.go:28", after := _, guard := none }) (v := _) rfl (by kernel_rfl) (by kernel_rfl) (by kernel_rfl) (fun _ _ _ h => h) (.inl ⟨by rfl, fun w hS => by (go_simp; try rfl)⟩) hH ?_
      try simp only [Act.put, List.setIfInBounds_toArray, List.set_cons_zero, List.set_cons_succ]
      refine wpAnyH_take (i := 5) (oi := { dst := some 31, op := Op.slice 43 (Operand.tmp 27) (some (Operand.tmp 29)) (some (Operand.tmp 30)) none, type := 43, pos := "ref.go:28", after := _, guard := none }) (v := .slice p1 m1 (cap - K)) rfl (by kernel_rfl) (by kernel_rfl) (by kernel_rfl) (fun _ _ _ h => h) (yieldsIf_slx (by rfl) 43 rfl rfl rfl rfl Tryz.underlying43 sz_REntry hKi hic HP1.out HM1.out) hH ?_
      try simp only [Act.put, List.setIfInBounds_toArray, List.set_cons_zero, List.set_cons_succ]
      refine wpAnyH_ready (rs := [6, 10]) (by kernel_rfl) (by simp) ?_
      refine AllReadyH.cons (o := { dst := some 32, op := Op.call { callee := Callee.value (Operand.func 20), args := #[Operand.tmp 26, Operand.tmp 31], argTypes := #[25, 43] }, type := 53, pos := "ref.go:28", after := _, guard := none }) rfl (fun K hK => ?_) ?_
      · rw [if_pos (by rfl)]
        go_simp
        refine (HF1.out _ (HI1.out _ (HE.out.below hB.symm hfar))).mono ?_
        rintro r wq ⟨v5, rfl, hv5, hb⟩
        have hbs := hb.size
        try simp only [World.size_alloc, World.size_setCell, World.size_drew, size_setRow] at hbs
        rw [HNX.out] at hv5
        obtain ⟨pX, cX, rfl, hsX⟩ := SL.own hv5
        go_wp2_with fail
        refine hK.out _ _ ⟨bk_, bl_, Nat.le_trans (sz_) hb.size⟩ (fun hH2 => ?_)
        clear hH
        have hH := hH2
        obtain ⟨hS, hfar, hsz⟩ := hH2
        clear hK K
        try simp only [Act.put, List.setIfInBounds_toArray, List.set_cons_zero, List.set_cons_succ]
        refine wpAnyH_take (i := 7) (oi := { dst := some 25, op := Op.move (Operand.tmp 32), type := 53, pos := "ref.go:28", after := _, guard := none }) (v := _) rfl (by kernel_rfl) (by kernel_rfl) (by kernel_rfl) (fun _ _ _ h => h) (.inl ⟨by rfl, fun w hS => by (go_simp; try rfl)⟩) hH ?_
        try simp only [Act.put, List.setIfInBounds_toArray, List.set_cons_zero, List.set_cons_succ]
        refine wpAnyH_take (i := 8) (oi := { dst := some 33, op := Op.extract (Operand.tmp 25) 0, type := 52, pos := "ref.go:28", after := _, guard := none }) (v := _) rfl (by kernel_rfl) (by kernel_rfl) (by kernel_rfl) (fun _ _ _ h => h) (.inl ⟨by rfl, fun w hS => by (go_simp; try rfl)⟩) hH ?_
        try simp only [Act.put, List.setIfInBounds_toArray, List.set_cons_zero, List.set_cons_succ]
        refine wpAnyH_take (i := 9) (oi := { dst := some 34, op := Op.extract (Operand.tmp 25) 1, type := 25, pos := "ref.go:28", after := _, guard := none }) (v := _) rfl (by kernel_rfl) (by kernel_rfl) (by kernel_rfl) (fun _ _ _ h => h) (.inl ⟨by rfl, fun w hS => by (go_simp; try rfl)⟩) hH ?_
        try simp only [Act.put, List.setIfInBounds_toArray, List.set_cons_zero, List.set_cons_succ]
        refine wpAnyH_ready (rs := [10]) (by kernel_rfl) (by simp) ?_
        refine AllReadyH.cons (o := { dst := some 8, op := Op.alloc 25, type := 0, pos := "ref.go:28", after := _, guard := none }) rfl (fun K hK => ?_) AllReadyH.nil
        rw [if_pos (by rfl)]
        go_simp
        refine hK.out _ _ ⟨bk_, bl_, sz_⟩ (fun hH2 => ?_)
        clear hH
        have hH := hH2
        obtain ⟨hS, hfar, hsz⟩ := hH2
        clear hK K
        try simp only [Act.put, List.setIfInBounds_toArray, List.set_cons_zero, List.set_cons_succ]
        refine wpAnyH_take (i := 11) (oi := { dst := some 7, op := Op.assign (Operand.tmp 33), type := 52, pos := "ref.go:28", after := _, guard := none }) (v := _) rfl (by kernel_rfl) (by kernel_rfl) (by kernel_rfl) (fun _ _ _ h => h) (.inl ⟨by rfl, fun w hS => by (go_simp; try rfl)⟩) hH ?_
        try simp only [Act.put, List.setIfInBounds_toArray, List.set_cons_zero, List.set_cons_succ]
        refine wpAnyH_ready (rs := [12]) (by kernel_rfl) (by simp) ?_
        refine AllReadyH.cons (o := { dst := none, op := Op.store 25 (Operand.tmp 8) (Operand.tmp 34), type := 0, pos := "ref.go:28", after := _, guard := none }) rfl (fun K hK => ?_) AllReadyH.nil
        rw [if_pos (by rfl)]
        refine wp_st 25 rfl w_RState rfl rfl bk_ zz_ zz_ one_ ?_
        refine hK.out _ _ ⟨bk_, bl_, sz_⟩ (fun hH2 => ?_)
        clear hH
        have hH := hH2
        obtain ⟨hS, hfar, hsz⟩ := hH2
        clear hK K
        try simp only [Act.put]
        refine wpAnyH_done (by kernel_rfl) ?_ _
        go_wp2_with fail
        go_meet
        case rel => exact ⟨_, _, rfl, by exact bk_, by exact bl_, by exact sz_⟩
      refine AllReadyH.cons (o := { dst := some 8, op := Op.alloc 25, type := 0, pos := "ref.go:28", after := _, guard := none }) rfl (fun K hK => ?_) AllReadyH.nil
      rw [if_pos (by rfl)]
      go_simp
      refine hK.out _ _ ⟨bk_, bl_, sz_⟩ (fun hH2 => ?_)
      clear hH
      have hH := hH2
      obtain ⟨hS, hfar, hsz⟩ := hH2
      clear hK K
      try simp only [Act.put, List.setIfInBounds_toArray, List.set_cons_zero, List.set_cons_succ]
      refine wpAnyH_ready (rs := [6]) (by kernel_rfl) (by simp) ?_
      refine AllReadyH.cons (o := { dst := some 32, op := Op.call { callee := Callee.value (Operand.func 20), args := #[Operand.tmp 26, Operand.tmp 31], argTypes := #[25, 43] }, type := 53, pos := "ref.go:28", after := _, guard := none }) rfl (fun K hK => ?_) AllReadyH.nil
      rw [if_pos (by rfl)]
      go_simp
      refine (HF1.out _ (HI1.out _ (HE.out.below hB.symm hfar))).mono ?_
      rintro r wq ⟨v5, rfl, hv5, hb⟩
      have hbs := hb.size
      try simp only [World.size_alloc, World.size_setCell, World.size_drew, size_setRow] at hbs
      rw [HNX.out] at hv5
      obtain ⟨pX, cX, rfl, hsX⟩ := SL.own hv5
      go_wp2_with fail
      refine hK.out _ _ ⟨bk_, bl_, Nat.le_trans (sz_) hb.size⟩ (fun hH2 => ?_)
      clear hH
      have hH := hH2
      obtain ⟨hS, hfar, hsz⟩ := hH2
      clear hK K
      try simp only [Act.put, List.setIfInBounds_toArray, List.set_cons_zero, List.set_cons_succ]
      refine wpAnyH_take (i := 7) (oi := { dst := some 25, op := Op.move (Operand.tmp 32), type := 53, pos := "ref.go:28", after := _, guard := none }) (v := _) rfl (by kernel_rfl) (by kernel_rfl) (by kernel_rfl) (fun _ _ _ h => h) (.inl ⟨by rfl, fun w hS => by (go_simp; try rfl)⟩) hH ?_
      try simp only [Act.put, List.setIfInBounds_toArray, List.set_cons_zero, List.set_cons_succ]
      refine wpAnyH_take (i := 8) (oi := { dst := some 33, op := Op.extract (Operand.tmp 25) 0, type := 52, pos := "ref.go:28", after := _, guard := none }) (v := _) rfl (by kernel_rfl) (by kernel_rfl) (by kernel_rfl) (fun _ _ _ h => h) (.inl ⟨by rfl, fun w hS => by (go_simp; try rfl)⟩) hH ?_
      try simp only [Act.put, List.setIfInBounds_toArray, List.set_cons_zero, List.set_cons_succ]
      refine wpAnyH_take (i := 9) (oi := { dst := some 34, op := Op.extract (Operand.tmp 25) 1, type := 25, pos := "ref.go:28", after := _, guard := none }) (v := _) rfl (by kernel_rfl) (by kernel_rfl) (by kernel_rfl) (fun _ _ _ h => h) (.inl ⟨by rfl, fun w hS => by (go_simp; try rfl)⟩) hH ?_
      try simp only [Act.put, List.setIfInBounds_toArray, List.set_cons_zero, List.set_cons_succ]
      refine wpAnyH_take (i := 11) (oi := { dst := some 7, op := Op.assign (Operand.tmp 33), type := 52, pos := "ref.go:28", after := _, guard := none }) (v := _) rfl (by kernel_rfl) (by kernel_rfl) (by kernel_rfl) (fun _ _ _ h => h) (.inl ⟨by rfl, fun w hS => by (go_simp; try rfl)⟩) hH ?_
      try simp only [Act.put, List.setIfInBounds_toArray, List.set_cons_zero, List.set_cons_succ]
      refine wpAnyH_ready (rs := [12]) (by kernel_rfl) (by simp) ?_
      refine AllReadyH.cons (o := { dst := none, op := Op.store 25 (Operand.tmp 8) (Operand.tmp 34), type := 0, pos := "ref.go:28", after := _, guard := none }) rfl (fun K hK => ?_) AllReadyH.nil
      rw [if_pos (by rfl)]
      refine wp_st 25 rfl w_RState rfl rfl bk_ zz_ zz_ one_ ?_
      refine hK.out _ _ ⟨bk_, bl_, sz_⟩ (fun hH2 => ?_)
      clear hH
      have hH := hH2
      obtain ⟨hS, hfar, hsz⟩ := hH2
      clear hK K
      try simp only [Act.put]
      refine wpAnyH_done (by kernel_rfl) ?_ _
      go_wp2_with fail
      go_meet
      case rel => exact ⟨_, _, rfl, by exact bk_, by exact bl_, by exact sz_⟩
    case rest =>
      clear hS hfar hsz
      obtain ⟨pX, cX, rfl, hS, hfar, hsz⟩ := hcut
      obtain ⟨H, hH⟩ : ∃ x, wc.heap.size = x := ⟨_, rfl⟩
      have hBH : B ≤ H := by omega
      have hgH : g + 1 ≤ H := by omega
      have hszH : H ≤ wc.heap.size := by omega
      clear hsz
      have hsz := hszH
      clear hszH
      go_upto_region 6 with (fail)
      go_cut [9] from 35 to 43 (fun s9 wx => ∃ pY cY lo hi, s9 = .slice pY (nx + no) cY ∧ H ≤ lo ∧ SL wx lo hi 16 pY (nx + no) cY (Y.flatMap intsV) ∧ Below B w wx ∧ hi ≤ wx.heap.size)
      case first =>
        refine wp_region_held_drew (S := fun W => Blk W (g) (arrV S) 25 ∧ Below (B) w W ∧ H ≤ W.heap.size) (by kernel_rfl) (⟨hS.drew, hfar.drew, hsz⟩) (fun hH => ?_)
        have hH2 := hH
        obtain ⟨hS, hfar, hsz⟩ := hH2
        refine wpAnyH_take (i := 0) (oi := { dst := some 36, op := Op.load 25 (Operand.tmp 6), type := 25, pos := "ref.go:29", after := _, guard := none }) (v := .agg (arrV S)) rfl (by kernel_rfl) (by kernel_rfl) (by kernel_rfl) (fun _ _ _ h => h) (yieldsIf_ld (by rfl) 25 rfl w_RState rfl (fun _ hS => hS.1) zz_) hH ?_
        try simp only [Act.put, List.setIfInBounds_toArray, List.set_cons_zero, List.set_cons_succ]
        refine wpAnyH_take (i := 1) (oi := { dst := some 37, op := Op.move (Operand.tmp 0), type := 43, pos := "ref.go:29", after := _, guard := none }) (v := _) rfl (by kernel_rfl) (by kernel_rfl) (by kernel_rfl) (fun _ _ _ h => h) (.inl ⟨by rfl, fun w hS => by (go_simp; try rfl)⟩) hH ?_
        try simp only [Act.put, List.setIfInBounds_toArray, List.set_cons_zero, List.set_cons_succ]
        refine wpAnyH_take (i := 2) (oi := { dst := some 38, op := Op.move (Operand.tmp 5), type := 3, pos := "ref.go:29", after := _, guard := none }) (v := _) rfl (by kernel_rfl) (by kernel_rfl) (by kernel_rfl) (fun _ _ _ h => h) (.inl ⟨by rfl, fun w hS => by (go_simp; try rfl)⟩) hH ?_
        try simp only [Act.put, List.setIfInBounds_toArray, List.set_cons_zero, List.set_cons_succ]
        refine wpAnyH_take (i := 3) (oi := { dst := some 39, op := Op.binOp BinOp.add 3 (Operand.tmp 38) (Operand.const (Value.int IntKind.i64 1)) 3, type := 3, pos := "ref.go:29", after := _, guard := none }) (v := .int .i64 (K : Nat)) rfl (by kernel_rfl) (by kernel_rfl) (by kernel_rfl) (fun _ _ _ h => h) (.inl ⟨by rfl, fun w hS => by (go_simp; try rfl)⟩) hH ?_
        try simp only [Act.put, List.setIfInBounds_toArray, List.set_cons_zero, List.set_cons_succ]
        refine wpAnyH_take (i := 4) (oi := { dst := some 40, op := Op.slice 43 (Operand.tmp 37) (some (Operand.tmp 39)) none none, type := 43, pos := "ref.go:29", after := _, guard := none }) (v := .slice p1 m2 (cap - K)) rfl (by kernel_rfl) (by kernel_rfl) (by kernel_rfl) (fun _ _ _ h => h) (yieldsIf_sllm (by rfl) 43 rfl rfl rfl Tryz.underlying43 sz_REntry (by omega) HP1.out HM2.out) hH ?_
        try simp only [Act.put, List.setIfInBounds_toArray, List.set_cons_zero, List.set_cons_succ]
        refine wpAnyH_ready (rs := [5, 9]) (by kernel_rfl) (by simp) ?_
        refine AllReadyH.cons (o := { dst := some 41, op := Op.call { callee := Callee.value (Operand.func 20), args := #[Operand.tmp 36, Operand.tmp 40], argTypes := #[25, 43] }, type := 53, pos := "ref.go:29", after := _, guard := none }) rfl (fun K hK => ?_) ?_
        · rw [if_pos (by rfl)]
          go_simp
          refine (HF2.out _ (HI2.out _ (HE.out.below hB.symm hfar))).mono ?_
          rintro r wq ⟨v5, rfl, hv5, hb⟩
          have hbs := hb.size
          try simp only [World.size_alloc, World.size_setCell, World.size_drew, size_setRow] at hbs
          rw [HNY.out, hsum] at hv5
          obtain ⟨pY, cY, rfl, hsY⟩ := SL.own hv5
          obtain ⟨lo2, hi2, hlo2, hhi2, hsY2⟩ := sl_named hsY
          clear hsY
          try simp only [World.size_alloc, World.size_setCell, World.size_drew, size_setRow] at hlo2
          go_wp2_with fail
          refine hK.out _ _ ⟨bk_, bl_, Nat.le_trans (sz_) hb.size⟩ (fun hH2 => ?_)
          clear hH
          have hH := hH2
          obtain ⟨hS, hfar, hsz⟩ := hH2
          clear hK K
          try simp only [Act.put, List.setIfInBounds_toArray, List.set_cons_zero, List.set_cons_succ]
          refine wpAnyH_take (i := 6) (oi := { dst := some 35, op := Op.move (Operand.tmp 41), type := 53, pos := "ref.go:29", after := _, guard := none }) (v := _) rfl (by kernel_rfl) (by kernel_rfl) (by kernel_rfl) (fun _ _ _ h => h) (.inl ⟨by rfl, fun w hS => by (go_simp; try rfl)⟩) hH ?_
          try simp only [Act.put, List.setIfInBounds_toArray, List.set_cons_zero, List.set_cons_succ]
          refine wpAnyH_take (i := 7) (oi := { dst := some 42, op := Op.extract (Operand.tmp 35) 0, type := 52, pos := "ref.go:29", after := _, guard := none }) (v := _) rfl (by kernel_rfl) (by kernel_rfl) (by kernel_rfl) (fun _ _ _ h => h) (.inl ⟨by rfl, fun w hS => by (go_simp; try rfl)⟩) hH ?_
          try simp only [Act.put, List.setIfInBounds_toArray, List.set_cons_zero, List.set_cons_succ]
          refine wpAnyH_take (i := 8) (oi := { dst := some 43, op := Op.extract (Operand.tmp 35) 1, type := 25, pos := "ref.go:29", after := _, guard := none }) (v := _) rfl (by kernel_rfl) (by kernel_rfl) (by kernel_rfl) (fun _ _ _ h => h) (.inl ⟨by rfl, fun w hS => by (go_simp; try rfl)⟩) hH ?_
          try simp only [Act.put, List.setIfInBounds_toArray, List.set_cons_zero, List.set_cons_succ]
          refine wpAnyH_ready (rs := [9]) (by kernel_rfl) (by simp) ?_
          refine AllReadyH.cons (o := { dst := some 10, op := Op.alloc 25, type := 0, pos := "ref.go:29", after := _, guard := none }) rfl (fun K hK => ?_) AllReadyH.nil
          rw [if_pos (by rfl)]
          go_simp
          refine hK.out _ _ ⟨bk_, bl_, sz_⟩ (fun hH2 => ?_)
          clear hH
          have hH := hH2
          obtain ⟨hS, hfar, hsz⟩ := hH2
          clear hK K
          try simp only [Act.put, List.setIfInBounds_toArray, List.set_cons_zero, List.set_cons_succ]
          refine wpAnyH_take (i := 10) (oi := { dst := some 9, op := Op.assign (Operand.tmp 42), type := 52, pos := "ref.go:29", after := _, guard := none }) (v := _) rfl (by kernel_rfl) (by kernel_rfl) (by kernel_rfl) (fun _ _ _ h => h) (.inl ⟨by rfl, fun w hS => by (go_simp; try rfl)⟩) hH ?_
          try simp only [Act.put, List.setIfInBounds_toArray, List.set_cons_zero, List.set_cons_succ]
          refine wpAnyH_ready (rs := [11]) (by kernel_rfl) (by simp) ?_
          refine AllReadyH.cons (o := { dst := none, op := Op.store 25 (Operand.tmp 10) (Operand.tmp 43), type := 0, pos := "ref.go:29", after := _, guard := none }) rfl (fun K hK => ?_) AllReadyH.nil
          rw [if_pos (by rfl)]
          refine wp_st 25 rfl w_RState rfl rfl bk_ zz_ zz_ one_ ?_
          refine hK.out _ _ ⟨bk_, bl_, sz_⟩ (fun hH2 => ?_)
          clear hH
          have hH := hH2
          obtain ⟨hS, hfar, hsz⟩ := hH2
          clear hK K
          try simp only [Act.put]
          refine wpAnyH_done (by kernel_rfl) ?_ _
          go_wp2_with fail
          go_meet
          case rel => exact ⟨pY, cY, lo2, hi2, rfl, by omega, by exact sl_, by exact bl_, by exact sz_⟩
        refine AllReadyH.cons (o := { dst := some 10, op := Op.alloc 25, type := 0, pos := "ref.go:29", after := _, guard := none }) rfl (fun K hK => ?_) AllReadyH.nil
        rw [if_pos (by rfl)]
        go_simp
        refine hK.out _ _ ⟨bk_, bl_, sz_⟩ (fun hH2 => ?_)
        clear hH
        have hH := hH2
        obtain ⟨hS, hfar, hsz⟩ := hH2
        clear hK K
        try simp only [Act.put, List.setIfInBounds_toArray, List.set_cons_zero, List.set_cons_succ]
        refine wpAnyH_ready (rs := [5]) (by kernel_rfl) (by simp) ?_
        refine AllReadyH.cons (o := { dst := some 41, op := Op.call { callee := Callee.value (Operand.func 20), args := #[Operand.tmp 36, Operand.tmp 40], argTypes := #[25, 43] }, type := 53, pos := "ref.go:29", after := _, guard := none }) rfl (fun K hK => ?_) AllReadyH.nil
        rw [if_pos (by rfl)]
        go_simp
        refine (HF2.out _ (HI2.out _ (HE.out.below hB.symm hfar))).mono ?_
        rintro r wq ⟨v5, rfl, hv5, hb⟩
        have hbs := hb.size
        try simp only [World.size_alloc, World.size_setCell, World.size_drew, size_setRow] at hbs
        rw [HNY.out, hsum] at hv5
        obtain ⟨pY, cY, rfl, hsY⟩ := SL.own hv5
        obtain ⟨lo2, hi2, hlo2, hhi2, hsY2⟩ := sl_named hsY
        clear hsY
        try simp only [World.size_alloc, World.size_setCell, World.size_drew, size_setRow] at hlo2
        go_wp2_with fail
        refine hK.out _ _ ⟨bk_, bl_, Nat.le_trans (sz_) hb.size⟩ (fun hH2 => ?_)
        clear hH
        have hH := hH2
        obtain ⟨hS, hfar, hsz⟩ := hH2
        clear hK K
        try simp only [Act.put, List.setIfInBounds_toArray, List.set_cons_zero, List.set_cons_succ]
        refine wpAnyH_take (i := 6) (oi := { dst := some 35, op := Op.move (Operand.tmp 41), type := 53, pos := "ref.go:29", after := _, guard := none }) (v := _) rfl (by kernel_rfl) (by kernel_rfl) (by kernel_rfl) (fun _ _ _ h => h) (.inl ⟨by rfl, fun w hS => by (go_simp; try rfl)⟩) hH ?_
        try simp only [Act.put, List.setIfInBounds_toArray, List.set_cons_zero, List.set_cons_succ]
        refine wpAnyH_take (i := 7) (oi := { dst := some 42, op := Op.extract (Operand.tmp 35) 0, type := 52, pos := "ref.go:29", after := _, guard := none }) (v := _) rfl (by kernel_rfl) (by kernel_rfl) (by kernel_rfl) (fun _ _ _ h => h) (.inl ⟨by rfl, fun w hS => by (go_simp; try rfl)⟩) hH ?_
        try simp only [Act.put, List.setIfInBounds_toArray, List.set_cons_zero, List.set_cons_succ]
        refine wpAnyH_take (i := 8) (oi := { dst := some 43, op := Op.extract (Operand.tmp 35) 1, type := 25, pos := "ref.go:29", after := _, guard := none }) (v := _) rfl (by kernel_rfl) (by kernel_rfl) (by kernel_rfl) (fun _ _ _ h => h) (.inl ⟨by rfl, fun w hS => by (go_simp; try rfl)⟩) hH ?_
        try simp only [Act.put, List.setIfInBounds_toArray, List.set_cons_zero, List.set_cons_succ]
        refine wpAnyH_take (i := 10) (oi := { dst := some 9, op := Op.assign (Operand.tmp 42), type := 52, pos := "ref.go:29", after := _, guard := none }) (v := _) rfl (by kernel_rfl) (by kernel_rfl) (by kernel_rfl) (fun _ _ _ h => h) (.inl ⟨by rfl, fun w hS => by (go_simp; try rfl)⟩) hH ?_
        try simp only [Act.put, List.setIfInBounds_toArray, List.set_cons_zero, List.set_cons_succ]
        refine wpAnyH_ready (rs := [11]) (by kernel_rfl) (by simp) ?_
        refine AllReadyH.cons (o := { dst := none, op := Op.store 25 (Operand.tmp 10) (Operand.tmp 43), type := 0, pos := "ref.go:29", after := _, guard := none }) rfl (fun K hK => ?_) AllReadyH.nil
        rw [if_pos (by rfl)]
        refine wp_st 25 rfl w_RState rfl rfl bk_ zz_ zz_ one_ ?_
        refine hK.out _ _ ⟨bk_, bl_, sz_⟩ (fun hH2 => ?_)
        clear hH
        have hH := hH2
        obtain ⟨hS, hfar, hsz⟩ := hH2
        clear hK K
        try simp only [Act.put]
        refine wpAnyH_done (by kernel_rfl) ?_ _
        go_wp2_with fail
        go_meet
        case rel => exact ⟨pY, cY, lo2, hi2, rfl, by omega, by exact sl_, by exact bl_, by exact sz_⟩
      case rest =>
        clear hS hfar hsz
        obtain ⟨pY, cY, loY, hiY, rfl, hloY, hSY, hfar, hszY⟩ := hcut
        have hcy := hSY.2.1
        have hcm := hSY.2.2.1
        unfold maxLen at hcm
        obtain ⟨p', hp'⟩ : ∃ p', (if cY = nx then pY else pY.map (·.add (nx * 16))) = p' := ⟨_, rfl⟩
        have hSO := bs_drop (i := nx) (m := no) hSY HA16.out HDR.out hp'
        go_wp2_with (refine sllw 52 rfl (by rfl) rfl rfl Tryz.underlying52 el_Sixteen.1 (by omega) hp' (Nat.add_sub_cancel_left _ _) ?_)
        go_ret
        exact ⟨_, _, _, _, rfl, hSO, by rw [hB]; omega, hszY, (by (try rw [hB]); exact bl_)⟩
end Go.Proofs.YtmfihaaiddolmaaGreatDoor
