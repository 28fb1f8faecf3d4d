/- The walks of seek.begin, Steps, From. -/
import Derived.Test.YtmfihaaiddolmaaGreatDoorSeek2
import Derived.Test.YtmfihaaiddolmaaGreatDoorLot14
set_option linter.unusedSimpArgs false
set_option linter.unusedVariables false
namespace Go.Proofs.YtmfihaaiddolmaaGreatDoor
open Go.RowKit

theorem mayE_nat {n i : Nat} (h : i ≤ n) : mayE n (i : Nat) = true := by unfold mayE; simp; omega
set_option maxRecDepth 100000 in
set_option maxHeartbeats 4000000 in
theorem Begin_any {l : List Ent} {n : Nat} (hn : l.length = n) (hl : n ≤ 1000) {p : Option Addr} {lo hi cap : Nat} {w : World} (hE : SL w lo hi 3 p n cap (flE l)) {i : Nat} (hi2 : i ≤ n) :
    Calls Tryz.prog 70 #[.slice p n cap, .int .i64 (i : Nat)] w fun r w' => r = .returned (.tuple #[.agg (arrV (begS l i)), .int .i64 (begK l i : Nat)]) ∧ Below w.heap.size w w' := by
  have hN := fun w (hE : SL w lo hi 3 p n cap (flE l)) => Near_in hn hl hE hi2
  have LS := Len.mk (begS_len l i)
  have hbs : ∀ k, nearE l i = some k → k < n ∧ begK l i = k + 1 ∧ ∃ e, l[k]? = some e ∧ begS l i = readSt e.data := fun k hk => by
    obtain ⟨h1, h2, e, he, _⟩ := near_some (by omega) hk
    exact ⟨by omega, h2, e, he, begS_some hk he⟩
  have hbn : nearE l i = none → begK l i = 0 ∧ begS l i = zs 38 := near_none
  have hKl := begK_le l i
  have hcap := hE.2.1
  have hcm := hE.2.2.1
  unfold maxLen at hcm
  have hQ := hE
  have HN := Lib.hid hn
  obtain ⟨S, hS⟩ : ∃ S, begS l i = S := ⟨_, rfl⟩
  obtain ⟨K, hK⟩ : ∃ K, begK l i = K := ⟨_, rfl⟩
  obtain ⟨O, hO⟩ : ∃ O, nearE l i = O := ⟨_, rfl⟩
  simp only [hS, hK, hO] at hN LS hbs hbn hKl ⊢
  have HNE := Lib.hid hN
  have HBS := Lib.hid hbs
  have HBN := Lib.hid hbn
  clear hN hbs hbn hS hK hO hE hn
  obtain ⟨B, hB⟩ : ∃ B, w.heap.size = B := ⟨_, rfl⟩
  have hhi := hQ.2.2.2.1
  rw [hB] at hhi
  have hfar := Below.refl B w
  have hsz : B ≤ w.heap.size := by omega
  go_enter Tryz.func70, Tryz.ntmps70
  go_upto_region 1 with (fail)
  refine wp_gen (fun W => SL W (lo) (hi) (3) (p) (n) (cap) (flE l) ∧ Blk W (B) (arrV (zs 38)) 35 ∧ Below (B) w W ∧ B + 1 ≤ W.heap.size) ⟨sl_, bk_, bl_, sz_⟩ ?_
  clear hQ hfar hsz
  rintro w1 ⟨hQ, hR, hfar, hsz⟩
  go_wp2_with fail
  refine (HNE.out _ hQ).mono ?_
  rintro e w2 ⟨rfl, hb2⟩
  replace hQ := hQ.newB hb2
  replace hR := hR.newB hb2
  replace hfar := hfar.trans (hb2.mono (by omega))
  replace hsz := Nat.le_trans hsz hb2.size
  cases O with
  | none =>
    obtain ⟨h1, h2⟩ := HBN.out rfl
    subst h1 h2
    go_wp2_with (first | (refine st 61 rfl (by rfl) w_Entry rfl rfl bk_ zz_ zz_ one_ ?_) | (refine ld 61 rfl (by rfl) w_Entry rfl bk_ zz_ ?_) | (refine bd 35 rfl (by rfl) rfl state_zs ?_) | (refine bd 27 rfl (by rfl) rfl block_zs ?_) | (refine ld 35 rfl (by rfl) w_State rfl bk_ lz_ ?_) | (refine ld 27 rfl (by rfl) w_Block rfl bk_ lz_ ?_) | (refine ldp 27 rfl (by rfl) w_Block rfl bk_ ln_ (by omega) ?_) | (refine ld 23 rfl (by rfl) w_Four rfl bk_ lz_ ?_) | (refine ldp 23 rfl (by rfl) w_Four rfl bk_ ln_ (by omega) ?_) | (refine st 35 rfl (by rfl) w_State rfl rfl bk_ lz_ lz_ one_ ?_) | (refine st 27 rfl (by rfl) w_Block rfl rfl bk_ lz_ lz_ one_ ?_) | (refine st 23 rfl (by rfl) w_Four rfl rfl bk_ lz_ lz_ one_ ?_))
    exact bodyPost_ret (v := .tuple #[.agg (arrV (zs 38)), .int .i64 0]) (res_ct Tryz.results70 rfl w_State (by exact bk_) (Len.zs 38).sz rfl) rfl ⟨rfl, (by (try rw [hB]); exact bl_)⟩
  | some k =>
    simp only [optN, Option.isSome]
    obtain ⟨hkn, h2, e, he, h3⟩ := HBS.out k rfl
    have hES : ES w2 lo hi p cap l := by unfold ES; rw [HN.out]; exact hQ
    obtain ⟨b, o, rfl, hb1, hb2', hr⟩ := hES.get he
    have c2 : w2.cell? ⟨b, o + k * 3 + 2, none⟩ = some (.string e.data) := hr 2 _ rfl
    have hkn' : (k : Int) < n := by omega
    obtain ⟨s, hs⟩ : ∃ s, e.data = s := ⟨_, rfl⟩
    rw [hs] at c2 h3
    clear he hES hs hr
    subst h3 h2
    go_wp2_with fail
    refine (Read_any s _).mono ?_
    rintro e w3 ⟨rfl, hb3⟩
    replace hQ := hQ.newB hb3
    replace hR := hR.newB hb3
    replace hfar := hfar.trans (hb3.mono (by omega))
    replace hsz := Nat.le_trans hsz hb3.size
    obtain ⟨g, hg⟩ : ∃ g, w3.heap.size = g := ⟨_, rfl⟩
    have hBg : B + 1 ≤ g := by omega
    have LR := Len.mk (readSt_len s)
    obtain ⟨T, hT⟩ : ∃ T, readSt s = T := ⟨_, rfl⟩
    rw [hT] at LR ⊢
    have HT := Lib.hid hT
    clear LS hT c2
    go_upto_region 5 with (first | (refine st 61 rfl (by rfl) w_Entry rfl rfl bk_ zz_ zz_ one_ ?_) | (refine ld 61 rfl (by rfl) w_Entry rfl bk_ zz_ ?_) | (refine bd 35 rfl (by rfl) rfl state_zs ?_) | (refine bd 27 rfl (by rfl) rfl block_zs ?_) | (refine ld 35 rfl (by rfl) w_State rfl bk_ lz_ ?_) | (refine ld 27 rfl (by rfl) w_Block rfl bk_ lz_ ?_) | (refine ldp 27 rfl (by rfl) w_Block rfl bk_ ln_ (by omega) ?_) | (refine ld 23 rfl (by rfl) w_Four rfl bk_ lz_ ?_) | (refine ldp 23 rfl (by rfl) w_Four rfl bk_ ln_ (by omega) ?_) | (refine st 35 rfl (by rfl) w_State rfl rfl bk_ lz_ lz_ one_ ?_) | (refine st 27 rfl (by rfl) w_Block rfl rfl bk_ lz_ lz_ one_ ?_) | (refine st 23 rfl (by rfl) w_Four rfl rfl bk_ lz_ lz_ one_ ?_))
    refine wp_gen (fun W => Blk W (B) (arrV (zs 38)) 35 ∧ SL W (lo) (hi) (3) (some ⟨b, o, none⟩) (n) (cap) (flE l) ∧ Blk W (g) (arrV T) 35 ∧ Below (B) w W ∧ g + 1 ≤ W.heap.size) ⟨bk_, sl_, bk_, bl_, sz_⟩ ?_
    clear hR hQ hfar hsz
    rintro w4 ⟨hR, hQ, hT, hfar, hsz⟩
    go_wp2_with (first | (refine st 61 rfl (by rfl) w_Entry rfl rfl bk_ zz_ zz_ one_ ?_) | (refine ld 61 rfl (by rfl) w_Entry rfl bk_ zz_ ?_) | (refine bd 35 rfl (by rfl) rfl state_zs ?_) | (refine bd 27 rfl (by rfl) rfl block_zs ?_) | (refine ld 35 rfl (by rfl) w_State rfl bk_ lz_ ?_) | (refine ld 27 rfl (by rfl) w_Block rfl bk_ lz_ ?_) | (refine ldp 27 rfl (by rfl) w_Block rfl bk_ ln_ (by omega) ?_) | (refine ld 23 rfl (by rfl) w_Four rfl bk_ lz_ ?_) | (refine ldp 23 rfl (by rfl) w_Four rfl bk_ ln_ (by omega) ?_) | (refine st 35 rfl (by rfl) w_State rfl rfl bk_ lz_ lz_ one_ ?_) | (refine st 27 rfl (by rfl) w_Block rfl rfl bk_ lz_ lz_ one_ ?_) | (refine st 23 rfl (by rfl) w_Four rfl rfl bk_ lz_ lz_ one_ ?_))
    exact bodyPost_ret (v := .tuple #[.agg (arrV T), .int .i64 ((k + 1 : Nat) : Int)]) (res_ct Tryz.results70 rfl w_State (by exact bk_) LR.sz rfl) rfl ⟨by rw [HT.out], (by (try rw [hB]); exact bl_)⟩
def stepsE (l : List Ent) (i : Int) : Int := if mayE l.length i then i - begK l i.toNat else 0
set_option maxRecDepth 100000 in
set_option maxHeartbeats 4000000 in
theorem Steps_any {l : List Ent} {n : Nat} (hn : l.length = n) (hl : n ≤ 1000) {p : Option Addr} {lo hi cap : Nat} {w : World} (hE : SL w lo hi 3 p n cap (flE l)) (i : Int) :
    Calls Tryz.prog 29 #[.slice p n cap, .int .i64 i] w fun r w' => r = .returned (.int .i64 (stepsE l i)) ∧ Below w.heap.size w w' := by
  obtain ⟨R, hR⟩ : ∃ R, stepsE l i = R := ⟨_, rfl⟩
  rw [hR]
  unfold stepsE at hR
  rw [hn] at hR
  obtain ⟨B, hB⟩ : ∃ B, w.heap.size = B := ⟨_, rfl⟩
  have hfar := Below.refl B w
  have hsz : B ≤ w.heap.size := by omega
  have hQ := hE
  cases hm : mayE n i with
  | false =>
    rw [hm] at hR
    subst hR
    clear hE
    go_enter Tryz.func29, Tryz.ntmps29
    go_wp2_with fail
    refine (may_any _ _ _ _ _).mono ?_
    rintro e w' ⟨rfl, rfl⟩
    rw [hm]
    go_wp2_with fail
    go_ret
    exact ⟨rfl, (by (try rw [hB]); exact bl_)⟩
  | true =>
    rw [hm, if_pos rfl] at hR
    have hm2 := hm
    unfold mayE at hm2
    simp only [Bool.and_eq_true, decide_eq_true_eq] at hm2
    obtain ⟨k, rfl⟩ : ∃ k : Nat, i = k := ⟨i.toNat, by omega⟩
    rw [Int.toNat_natCast] at hR
    have hBe := fun w (hE : SL w lo hi 3 p n cap (flE l)) => Begin_any hn hl hE (i := k) (by omega)
    have hKl := begK_le l k
    have LS := Len.mk (begS_len l k)
    obtain ⟨S, hS⟩ : ∃ S, begS l k = S := ⟨_, rfl⟩
    obtain ⟨K, hK⟩ : ∃ K, begK l k = K := ⟨_, rfl⟩
    simp only [hS, hK] at hBe hR hKl LS
    have HBE := Lib.hid hBe
    have HR := Lib.hid hR
    have hkn : k ≤ n := by omega
    clear hBe hS hK hE hR hm2 hn
    go_enter Tryz.func29, Tryz.ntmps29
    go_wp2_with fail
    refine (may_any _ _ _ _ _).mono ?_
    rintro e w' ⟨rfl, rfl⟩
    rw [hm]
    go_wp2_with fail
    refine (HBE.out _ hQ).mono ?_
    rintro e w2 ⟨rfl, hb2⟩
    replace hQ := hQ.newB hb2
    replace hfar := hfar.trans (hb2.mono (by omega))
    replace hsz := Nat.le_trans hsz hb2.size
    go_wp2_with (first | (refine st 61 rfl (by rfl) w_Entry rfl rfl bk_ zz_ zz_ one_ ?_) | (refine ld 61 rfl (by rfl) w_Entry rfl bk_ zz_ ?_) | (refine bd 35 rfl (by rfl) rfl state_zs ?_) | (refine bd 27 rfl (by rfl) rfl block_zs ?_) | (refine ld 35 rfl (by rfl) w_State rfl bk_ lz_ ?_) | (refine ld 27 rfl (by rfl) w_Block rfl bk_ lz_ ?_) | (refine ldp 27 rfl (by rfl) w_Block rfl bk_ ln_ (by omega) ?_) | (refine ld 23 rfl (by rfl) w_Four rfl bk_ lz_ ?_) | (refine ldp 23 rfl (by rfl) w_Four rfl bk_ ln_ (by omega) ?_) | (refine st 35 rfl (by rfl) w_State rfl rfl bk_ lz_ lz_ one_ ?_) | (refine st 27 rfl (by rfl) w_Block rfl rfl bk_ lz_ lz_ one_ ?_) | (refine st 23 rfl (by rfl) w_Four rfl rfl bk_ lz_ lz_ one_ ?_))
    go_ret
    exact ⟨by rw [← HR.out]; rfl, (by (try rw [hB]); exact bl_)⟩
/-- A result that is a slice of blocks, and no error. -/
def RetBE (w : World) (n : Nat) (xs : List Value) (e : Ending) (w' : World) : Prop :=
  ∃ p cap lo hi, e = .returned (.tuple #[.slice p n cap, .int .i64 0]) ∧ SL w' lo hi 16 p n cap xs ∧ w.heap.size ≤ lo ∧ Below w.heap.size w w'
set_option maxRecDepth 100000 in
set_option maxHeartbeats 4000000 in
theorem From_in {l : List Ent} {n : Nat} (hn : l.length = n) (hl : n ≤ 1000) {p : Option Addr} {lo hi cap : Nat} {w : World} (hW : BandsW w) (hE : SL w lo hi 3 p n cap (flE l)) {i : Nat} (hin : i ≤ n) :
    Calls Tryz.prog 28 #[.slice p n cap, .int .i64 (i : Nat)] w (RetBE w (fromO l i).length ((fromO l i).flatMap intsV)) := by
  have hBW : Blk w 0 bandC 132 := hW
  have hB0 := hW.lt
  have hBe := fun w (hE : SL w lo hi 3 p n cap (flE l)) => Begin_any hn hl hE hin
  have hKi := begK_le l i
  have LS := Len.mk (begS_len l i)
  have hcap := hE.2.1
  have hcm := hE.2.2.1
  unfold maxLen at hcm
  have hQ := hE
  have hm := mayE_nat hin
  have hic : i ≤ cap := by omega
  have hcc : (cap : Int) ≤ 9223372036854775807 := by omega
  obtain ⟨O, hO⟩ : ∃ O, fromO l i = O := ⟨_, rfl⟩
  rw [hO]
  unfold fromO at hO
  obtain ⟨S, hS⟩ : ∃ S, begS l i = S := ⟨_, rfl⟩
  obtain ⟨K, hK⟩ : ∃ K, begK l i = K := ⟨_, rfl⟩
  simp only [hS, hK] at hBe hO LS hKi
  obtain ⟨p1, hp1⟩ : ∃ p', (if cap = K then p else p.map (·.add (K * 3))) = p' := ⟨_, rfl⟩
  obtain ⟨m1, hm1⟩ : ∃ m, i - K = m := ⟨_, rfl⟩
  obtain ⟨p2, hp2⟩ : ∃ p', (if cap = i then p else p.map (·.add (i * 3))) = p' := ⟨_, rfl⟩
  obtain ⟨m2, hm2⟩ : ∃ m, n - i = m := ⟨_, rfl⟩
  have hQ1 := es_mid hQ hn hKi hin hp1 hm1
  have hQ2 := es_rest hQ hn hin hp2 hm2
  have hl1 : ((l.take i).drop K).length = m1 := by rw [List.length_drop, List.length_take]; omega
  have hl2 : (l.drop i).length = m2 := by rw [List.length_drop]; omega
  obtain ⟨A, hA⟩ : ∃ A, (l.take i).drop K = A := ⟨_, rfl⟩
  obtain ⟨C, hC⟩ : ∃ C, l.drop i = C := ⟨_, rfl⟩
  rw [hA] at hQ1 hl1 hO
  rw [hC] at hQ2 hl2 hO
  have LM := Len.mk (foldS_len LS.out A)
  have hF1 := fun w (hW : BandsW w) (hs : SL w lo hi 3 p1 m1 (cap - K) (flE A)) => toBN (Fold_all LS hl1 (by omega) hW hs)
  obtain ⟨M, hM⟩ : ∃ M, foldS S A = M := ⟨_, rfl⟩
  rw [hM] at LM hF1 hO
  have LM2 := Len.mk (foldS_len LM.out C)
  have hF2 := fun w (hW : BandsW w) (hs : SL w lo hi 3 p2 m2 (cap - i) (flE C)) => toBN (Fold_all LM hl2 (by omega) hW hs)
  obtain ⟨M2, hM2⟩ : ∃ M2, foldS M C = M2 := ⟨_, rfl⟩
  simp only [hO, hM2] at hF2 LM2
  obtain ⟨xs, hxs⟩ : ∃ xs, O.flatMap intsV = xs := ⟨_, rfl⟩
  obtain ⟨no, hno⟩ : ∃ no, O.length = no := ⟨_, rfl⟩
  simp only [hxs, hno] at hF2 ⊢
  obtain ⟨fA, hfA⟩ : ∃ x, flE A = x := ⟨_, rfl⟩
  obtain ⟨fC, hfC⟩ : ∃ x, flE C = x := ⟨_, rfl⟩
  rw [hfA] at hQ1
  rw [hfC] at hQ2
  simp only [hfA] at hF1
  simp only [hfC] at hF2
  have HP1 := Lib.hid hp1
  have HP2 := Lib.hid hp2
  have HM1 := Lib.hid hm1
  have HM2 := Lib.hid hm2
  have HBE := Lib.hid hBe
  have HF1 := Lib.hid hF1
  have HF2 := Lib.hid hF2
  clear hO hS hK hp1 hp2 hm1 hm2 hl1 hl2 hA hC hM hM2 hxs hno hBe hF1 hF2 hE hfA hfC
  obtain ⟨B, hB⟩ : ∃ B, w.heap.size = B := ⟨_, rfl⟩
  rw [hB] at hB0
  have hhi := hQ.2.2.2.1
  rw [hB] at hhi
  have hfar := Below.refl B w
  have hsz : B ≤ w.heap.size := by omega
  go_enter Tryz.func28, Tryz.ntmps28
  go_wp2_with fail
  refine (may_any _ _ _ _ _).mono ?_
  rintro e w' ⟨rfl, rfl⟩
  rw [hm]
  go_wp2_with fail
  refine (HBE.out _ hQ).mono ?_
  rintro e w2 ⟨rfl, hb2⟩
  replace hBW := hBW.newB hb2
  replace hQ := hQ.newB hb2
  replace hQ1 := hQ1.newB hb2
  replace hQ2 := hQ2.newB hb2
  replace hfar := hfar.trans (hb2.mono (by omega))
  replace hsz := Nat.le_trans hsz hb2.size
  obtain ⟨g, hg⟩ : ∃ g, w2.heap.size = g := ⟨_, rfl⟩
  have hBg : B ≤ g := by omega
  clear hm
  go_upto_region 4 with (first | (refine st 61 rfl (by rfl) w_Entry rfl rfl bk_ zz_ zz_ one_ ?_) | (refine ld 61 rfl (by rfl) w_Entry rfl bk_ zz_ ?_) | (refine bd 35 rfl (by rfl) rfl state_zs ?_) | (refine bd 27 rfl (by rfl) rfl block_zs ?_) | (refine ld 35 rfl (by rfl) w_State rfl bk_ lz_ ?_) | (refine ld 27 rfl (by rfl) w_Block rfl bk_ lz_ ?_) | (refine ldp 27 rfl (by rfl) w_Block rfl bk_ ln_ (by omega) ?_) | (refine ld 23 rfl (by rfl) w_Four rfl bk_ lz_ ?_) | (refine ldp 23 rfl (by rfl) w_Four rfl bk_ ln_ (by omega) ?_) | (refine st 35 rfl (by rfl) w_State rfl rfl bk_ lz_ lz_ one_ ?_) | (refine st 27 rfl (by rfl) w_Block rfl rfl bk_ lz_ lz_ one_ ?_) | (refine st 23 rfl (by rfl) w_Four rfl rfl bk_ lz_ lz_ one_ ?_))
  refine wp_gen (fun W => Blk W (0) (bandC) 132 ∧ SL W (lo) (hi) (3) (p) (n) (cap) (flE l) ∧ SL W (lo) (hi) (3) (p1) (m1) (cap - K) (fA) ∧ SL W (lo) (hi) (3) (p2) (m2) (cap - i) (fC) ∧ Blk W (g) (arrV S) 35 ∧ Below (B) w W ∧ g + 1 ≤ W.heap.size) ⟨bk_, sl_, sl_, sl_, bk_, bl_, sz_⟩ ?_
  clear hBW hQ hQ1 hQ2 hfar hsz
  rintro w3 ⟨hBW, hQ, hQ1, hQ2, hS, hfar, hsz⟩
  go_cut [] from 20 (fun wx => Blk wx 0 bandC 132 ∧ SL wx lo hi 3 p2 m2 (cap - i) fC ∧ Blk wx g (arrV M) 35 ∧ Below B w wx ∧ g + 1 ≤ wx.heap.size)
  case first =>
    refine wp_region_held_drew (S := fun W => True) (by kernel_rfl) ⟨⟩ (fun hH => ?_)
    refine wpAnyH_take (i := 1) (oi := { dst := some 22, op := Op.move (Operand.tmp 0), type := 45, pos := "seek.go:48", after := _, guard := none }) (v := _) rfl (by kernel_rfl) (by kernel_rfl) (by kernel_rfl) (fun _ _ _ h => h) (.inl ⟨by rfl, fun w hS => by (go_simp; try rfl)⟩) hH ?_
    try simp only [Act.put, List.setIfInBounds_toArray, List.set_cons_zero, List.set_cons_succ]
    refine wpAnyH_take (i := 2) (oi := { dst := some 23, op := Op.move (Operand.tmp 7), type := 3, pos := "seek.go:48", after := _, guard := none }) (v := _) rfl (by kernel_rfl) (by kernel_rfl) (by kernel_rfl) (fun _ _ _ h => h) (.inl ⟨by rfl, fun w hS => by (go_simp; try rfl)⟩) hH ?_
    try simp only [Act.put, List.setIfInBounds_toArray, List.set_cons_zero, List.set_cons_succ]
    refine wpAnyH_take (i := 3) (oi := { dst := some 24, op := Op.move (Operand.tmp 1), type := 3, pos := "seek.go:48", after := _, guard := none }) (v := _) rfl (by kernel_rfl) (by kernel_rfl) (by kernel_rfl) (fun _ _ _ h => h) (.inl ⟨by rfl, fun w hS => by (go_simp; try rfl)⟩) hH ?_
    try simp only [Act.put, List.setIfInBounds_toArray, List.set_cons_zero, List.set_cons_succ]
    refine wpAnyH_take (i := 4) (oi := { dst := some 25, op := Op.slice 45 (Operand.tmp 22) (some (Operand.tmp 23)) (some (Operand.tmp 24)) none, type := 45, pos := "seek.go:48", after := _, guard := none }) (v := .slice p1 m1 (cap - K)) rfl (by kernel_rfl) (by kernel_rfl) (by kernel_rfl) (fun _ _ _ h => h) (yieldsIf_slx (by rfl) 45 rfl rfl rfl rfl Tryz.underlying45 el_Entry.1 hKi hic HP1.out HM1.out) hH ?_
    try simp only [Act.put, List.setIfInBounds_toArray, List.set_cons_zero, List.set_cons_succ]
    refine wpAnyH_ready (rs := [0]) (by kernel_rfl) (by simp) ?_
    refine AllReadyH.cons (o := { dst := some 21, op := Op.load 35 (Operand.tmp 6), type := 35, pos := "seek.go:48", after := _, guard := none }) rfl (fun K hK => ?_) AllReadyH.nil
    rw [if_pos (by rfl)]
    refine wp_ld 35 rfl w_State rfl hS.drew LS.sz ?_
    refine hK.out _ _ trivial (fun hH => ?_)
    clear hK K
    try simp only [Act.put, List.setIfInBounds_toArray, List.set_cons_zero, List.set_cons_succ]
    refine wpAnyH_ready (rs := [5]) (by kernel_rfl) (by simp) ?_
    refine AllReadyH.cons (o := { dst := some 26, op := Op.call { callee := Callee.value (Operand.func 17), args := #[Operand.tmp 21, Operand.tmp 25], argTypes := #[35, 45] }, type := 48, pos := "seek.go:48", after := _, guard := none }) rfl (fun K hK => ?_) AllReadyH.nil
    rw [if_pos (by rfl)]
    go_simp
    refine (HF1.out _ hBW.drew hQ1.drew).mono ?_
    rintro r wq ⟨v5, rfl, hv5, hb⟩
    have hbs := hb.size
    try simp only [World.size_alloc, World.size_setCell, World.size_drew, size_setRow] at hbs
    go_wp2_with fail
    refine hK.out _ _ trivial (fun hH => ?_)
    clear hK K
    try simp only [Act.put, List.setIfInBounds_toArray, List.set_cons_zero, List.set_cons_succ]
    refine wpAnyH_take (i := 6) (oi := { dst := some 20, op := Op.move (Operand.tmp 26), type := 48, pos := "seek.go:48", after := _, guard := none }) (v := _) rfl (by kernel_rfl) (by kernel_rfl) (by kernel_rfl) (fun _ _ _ h => h) (.inl ⟨by rfl, fun w hS => by (go_simp; try rfl)⟩) hH ?_
    try simp only [Act.put, List.setIfInBounds_toArray, List.set_cons_zero, List.set_cons_succ]
    refine wpAnyH_take (i := 7) (oi := { dst := some 27, op := Op.extract (Operand.tmp 20) 0, type := 47, pos := "seek.go:48", after := _, guard := none }) (v := _) rfl (by kernel_rfl) (by kernel_rfl) (by kernel_rfl) (fun _ _ _ h => h) (.inl ⟨by rfl, fun w hS => by (go_simp; try rfl)⟩) hH ?_
    try simp only [Act.put, List.setIfInBounds_toArray, List.set_cons_zero, List.set_cons_succ]
    refine wpAnyH_take (i := 8) (oi := { dst := some 28, op := Op.extract (Operand.tmp 20) 1, type := 35, pos := "seek.go:48", after := _, guard := none }) (v := _) rfl (by kernel_rfl) (by kernel_rfl) (by kernel_rfl) (fun _ _ _ h => h) (.inl ⟨by rfl, fun w hS => by (go_simp; try rfl)⟩) hH ?_
    try simp only [Act.put, List.setIfInBounds_toArray, List.set_cons_zero, List.set_cons_succ]
    refine wpAnyH_ready (rs := [9]) (by kernel_rfl) (by simp) ?_
    refine AllReadyH.cons (o := { dst := none, op := Op.store 35 (Operand.tmp 6) (Operand.tmp 28), type := 0, pos := "seek.go:48", after := _, guard := none }) rfl (fun K hK => ?_) AllReadyH.nil
    rw [if_pos (by rfl)]
    refine wp_st 35 rfl w_State rfl rfl bk_ zz_ zz_ one_ ?_
    refine hK.out _ _ trivial (fun hH => ?_)
    clear hK K
    try simp only [Act.put]
    refine wpAnyH_done (by kernel_rfl) ?_ _
    go_wp2_with fail
    go_meet
    case rel => exact ⟨by exact bk_, by exact sl_, by exact bk_, by exact bl_, by exact sz_⟩
  case rest =>
    clear hBW hQ hQ1 hQ2 hS hfar hsz
    obtain ⟨hBW, hQ2, hS, hfar, hsz⟩ := hcut
    go_upto_region 5 with (fail)
    refine wp_region_held_drew (S := fun W => Blk W (0) (bandC) 132 ∧ SL W (lo) (hi) (3) (p2) (m2) (cap - i) (fC) ∧ Blk W (g) (arrV M) 35 ∧ Below (B) w W ∧ g + 1 ≤ W.heap.size) (by kernel_rfl) (⟨hBW.drew, hQ2.drew, hS.drew, hfar.drew, hsz⟩) (fun hH => ?_)
    have hH2 := hH
    obtain ⟨hBW, hQ2, hS, hfar, hsz⟩ := hH2
    refine wpAnyH_take (i := 0) (oi := { dst := some 30, op := Op.load 35 (Operand.tmp 6), type := 35, pos := "seek.go:49", after := _, guard := none }) (v := .agg (arrV M)) rfl (by kernel_rfl) (by kernel_rfl) (by kernel_rfl) (fun _ _ _ h => h) (yieldsIf_ld (by rfl) 35 rfl w_State rfl (fun _ hS => hS.2.2.1) zz_) hH ?_
    try simp only [Act.put, List.setIfInBounds_toArray, List.set_cons_zero, List.set_cons_succ]
    refine wpAnyH_take (i := 1) (oi := { dst := some 31, op := Op.move (Operand.tmp 0), type := 45, pos := "seek.go:49", after := _, guard := none }) (v := _) rfl (by kernel_rfl) (by kernel_rfl) (by kernel_rfl) (fun _ _ _ h => h) (.inl ⟨by rfl, fun w hS => by (go_simp; try rfl)⟩) hH ?_
    try simp only [Act.put, List.setIfInBounds_toArray, List.set_cons_zero, List.set_cons_succ]
    refine wpAnyH_take (i := 2) (oi := { dst := some 32, op := Op.move (Operand.tmp 1), type := 3, pos := "seek.go:49", after := _, guard := none }) (v := _) rfl (by kernel_rfl) (by kernel_rfl) (by kernel_rfl) (fun _ _ _ h => h) (.inl ⟨by rfl, fun w hS => by (go_simp; try rfl)⟩) hH ?_
    try simp only [Act.put, List.setIfInBounds_toArray, List.set_cons_zero, List.set_cons_succ]
    refine wpAnyH_take (i := 3) (oi := { dst := some 33, op := Op.slice 45 (Operand.tmp 31) (some (Operand.tmp 32)) none none, type := 45, pos := "seek.go:49", after := _, guard := none }) (v := .slice p2 m2 (cap - i)) rfl (by kernel_rfl) (by kernel_rfl) (by kernel_rfl) (fun _ _ _ h => h) (yieldsIf_sllm (by rfl) 45 rfl rfl rfl Tryz.underlying45 el_Entry.1 hin HP2.out HM2.out) hH ?_
    try simp only [Act.put, List.setIfInBounds_toArray, List.set_cons_zero, List.set_cons_succ]
    refine wpAnyH_ready (rs := [4, 8]) (by kernel_rfl) (by simp) ?_
    refine AllReadyH.cons (o := { dst := some 34, op := Op.call { callee := Callee.value (Operand.func 17), args := #[Operand.tmp 30, Operand.tmp 33], argTypes := #[35, 45] }, type := 48, pos := "seek.go:49", after := _, guard := none }) rfl (fun K hK => ?_) ?_
    · rw [if_pos (by rfl)]
      go_simp
      refine (HF2.out _ hBW hQ2).mono ?_
      rintro r wq ⟨v5, rfl, hv5, hb⟩
      have hbs := hb.size
      try simp only [World.size_alloc, World.size_setCell, World.size_drew, size_setRow] at hbs
      obtain ⟨pa, ca, lo5, hi5, rfl, hsa, hlo5, hhi5⟩ := own_ex hv5
      try simp only [World.size_alloc, World.size_setCell, World.size_drew, size_setRow] at hlo5
      go_wp2_with fail
      refine hK.out _ _ ⟨bk_, sl_, bk_, bl_, Nat.le_trans (sz_) hb.size⟩ (fun hH2 => ?_)
      clear hH
      have hH := hH2
      obtain ⟨hBW, hQ2, hS, hfar, hsz⟩ := hH2
      clear hK K
      try simp only [Act.put, List.setIfInBounds_toArray, List.set_cons_zero, List.set_cons_succ]
      refine wpAnyH_take (i := 5) (oi := { dst := some 29, op := Op.move (Operand.tmp 34), type := 48, pos := "seek.go:49", after := _, guard := none }) (v := _) rfl (by kernel_rfl) (by kernel_rfl) (by kernel_rfl) (fun _ _ _ h => h) (.inl ⟨by rfl, fun w hS => by (go_simp; try rfl)⟩) hH ?_
      try simp only [Act.put, List.setIfInBounds_toArray, List.set_cons_zero, List.set_cons_succ]
      refine wpAnyH_take (i := 6) (oi := { dst := some 35, op := Op.extract (Operand.tmp 29) 0, type := 47, pos := "seek.go:49", after := _, guard := none }) (v := _) rfl (by kernel_rfl) (by kernel_rfl) (by kernel_rfl) (fun _ _ _ h => h) (.inl ⟨by rfl, fun w hS => by (go_simp; try rfl)⟩) hH ?_
      try simp only [Act.put, List.setIfInBounds_toArray, List.set_cons_zero, List.set_cons_succ]
      refine wpAnyH_take (i := 7) (oi := { dst := some 36, op := Op.extract (Operand.tmp 29) 1, type := 35, pos := "seek.go:49", after := _, guard := none }) (v := _) rfl (by kernel_rfl) (by kernel_rfl) (by kernel_rfl) (fun _ _ _ h => h) (.inl ⟨by rfl, fun w hS => by (go_simp; try rfl)⟩) hH ?_
      try simp only [Act.put, List.setIfInBounds_toArray, List.set_cons_zero, List.set_cons_succ]
      refine wpAnyH_ready (rs := [8]) (by kernel_rfl) (by simp) ?_
      refine AllReadyH.cons (o := { dst := some 9, op := Op.alloc 35, type := 0, pos := "seek.go:49", after := _, guard := none }) rfl (fun K hK => ?_) AllReadyH.nil
      rw [if_pos (by rfl)]
      go_simp
      refine hK.out _ _ ⟨bk_, sl_, bk_, bl_, sz_⟩ (fun hH2 => ?_)
      clear hH
      have hH := hH2
      obtain ⟨hBW, hQ2, hS, hfar, hsz⟩ := hH2
      clear hK K
      try simp only [Act.put, List.setIfInBounds_toArray, List.set_cons_zero, List.set_cons_succ]
      refine wpAnyH_take (i := 9) (oi := { dst := some 8, op := Op.assign (Operand.tmp 35), type := 47, pos := "seek.go:49", after := _, guard := none }) (v := _) rfl (by kernel_rfl) (by kernel_rfl) (by kernel_rfl) (fun _ _ _ h => h) (.inl ⟨by rfl, fun w hS => by (go_simp; try rfl)⟩) hH ?_
      try simp only [Act.put, List.setIfInBounds_toArray, List.set_cons_zero, List.set_cons_succ]
      refine wpAnyH_ready (rs := [10]) (by kernel_rfl) (by simp) ?_
      refine AllReadyH.cons (o := { dst := none, op := Op.store 35 (Operand.tmp 9) (Operand.tmp 36), type := 0, pos := "seek.go:49", after := _, guard := none }) rfl (fun K hK => ?_) AllReadyH.nil
      rw [if_pos (by rfl)]
      refine wp_st 35 rfl w_State rfl rfl bk_ zz_ zz_ one_ ?_
      refine hK.out _ _ ⟨bk_, sl_, bk_, bl_, sz_⟩ (fun hH2 => ?_)
      clear hH
      have hH := hH2
      obtain ⟨hBW, hQ2, hS, hfar, hsz⟩ := hH2
      clear hK K
      try simp only [Act.put]
      refine wpAnyH_done (by kernel_rfl) ?_ _
      go_wp2_with fail
      go_ret2
      exact ⟨pa, ca, lo5, hi5, rfl, by exact sl_, by (try rw [hB]); exact sz_, (by (try rw [hB]); exact bl_)⟩
    refine AllReadyH.cons (o := { dst := some 9, op := Op.alloc 35, type := 0, pos := "seek.go:49", after := _, guard := none }) rfl (fun K hK => ?_) AllReadyH.nil
    rw [if_pos (by rfl)]
    go_simp
    refine hK.out _ _ ⟨bk_, sl_, bk_, bl_, sz_⟩ (fun hH2 => ?_)
    clear hH
    have hH := hH2
    obtain ⟨hBW, hQ2, hS, hfar, hsz⟩ := hH2
    clear hK K
    try simp only [Act.put, List.setIfInBounds_toArray, List.set_cons_zero, List.set_cons_succ]
    refine wpAnyH_ready (rs := [4]) (by kernel_rfl) (by simp) ?_
    refine AllReadyH.cons (o := { dst := some 34, op := Op.call { callee := Callee.value (Operand.func 17), args := #[Operand.tmp 30, Operand.tmp 33], argTypes := #[35, 45] }, type := 48, pos := "seek.go:49", after := _, guard := none }) rfl (fun K hK => ?_) AllReadyH.nil
    rw [if_pos (by rfl)]
    go_simp
    refine (HF2.out _ hBW hQ2).mono ?_
    rintro r wq ⟨v5, rfl, hv5, hb⟩
    have hbs := hb.size
    try simp only [World.size_alloc, World.size_setCell, World.size_drew, size_setRow] at hbs
    obtain ⟨pa, ca, lo5, hi5, rfl, hsa, hlo5, hhi5⟩ := own_ex hv5
    try simp only [World.size_alloc, World.size_setCell, World.size_drew, size_setRow] at hlo5
    go_wp2_with fail
    refine hK.out _ _ ⟨bk_, sl_, bk_, bl_, Nat.le_trans (sz_) hb.size⟩ (fun hH2 => ?_)
    clear hH
    have hH := hH2
    obtain ⟨hBW, hQ2, hS, hfar, hsz⟩ := hH2
    clear hK K
    try simp only [Act.put, List.setIfInBounds_toArray, List.set_cons_zero, List.set_cons_succ]
    refine wpAnyH_take (i := 5) (oi := { dst := some 29, op := Op.move (Operand.tmp 34), type := 48, pos := "seek.go:49", after := _, guard := none }) (v := _) rfl (by kernel_rfl) (by kernel_rfl) (by kernel_rfl) (fun _ _ _ h => h) (.inl ⟨by rfl, fun w hS => by (go_simp; try rfl)⟩) hH ?_
    try simp only [Act.put, List.setIfInBounds_toArray, List.set_cons_zero, List.set_cons_succ]
    refine wpAnyH_take (i := 6) (oi := { dst := some 35, op := Op.extract (Operand.tmp 29) 0, type := 47, pos := "seek.go:49", after := _, guard := none }) (v := _) rfl (by kernel_rfl) (by kernel_rfl) (by kernel_rfl) (fun _ _ _ h => h) (.inl ⟨by rfl, fun w hS => by (go_simp; try rfl)⟩) hH ?_
    try simp only [Act.put, List.setIfInBounds_toArray, List.set_cons_zero, List.set_cons_succ]
    refine wpAnyH_take (i := 7) (oi := { dst := some 36, op := Op.extract (Operand.tmp 29) 1, type := 35, pos := "seek.go:49", after := _, guard := none }) (v := _) rfl (by kernel_rfl) (by kernel_rfl) (by kernel_rfl) (fun _ _ _ h => h) (.inl ⟨by rfl, fun w hS => by (go_simp; try rfl)⟩) hH ?_
    try simp only [Act.put, List.setIfInBounds_toArray, List.set_cons_zero, List.set_cons_succ]
    refine wpAnyH_take (i := 9) (oi := { dst := some 8, op := Op.assign (Operand.tmp 35), type := 47, pos := "seek.go:49", after := _, guard := none }) (v := _) rfl (by kernel_rfl) (by kernel_rfl) (by kernel_rfl) (fun _ _ _ h => h) (.inl ⟨by rfl, fun w hS => by (go_simp; try rfl)⟩) hH ?_
    try simp only [Act.put, List.setIfInBounds_toArray, List.set_cons_zero, List.set_cons_succ]
    refine wpAnyH_ready (rs := [10]) (by kernel_rfl) (by simp) ?_
    refine AllReadyH.cons (o := { dst := none, op := Op.store 35 (Operand.tmp 9) (Operand.tmp 36), type := 0, pos := "seek.go:49", after := _, guard := none }) rfl (fun K hK => ?_) AllReadyH.nil
    rw [if_pos (by rfl)]
    refine wp_st 35 rfl w_State rfl rfl bk_ zz_ zz_ one_ ?_
    refine hK.out _ _ ⟨bk_, sl_, bk_, bl_, sz_⟩ (fun hH2 => ?_)
    clear hH
    have hH := hH2
    obtain ⟨hBW, hQ2, hS, hfar, hsz⟩ := hH2
    clear hK K
    try simp only [Act.put]
    refine wpAnyH_done (by kernel_rfl) ?_ _
    go_wp2_with fail
    go_ret2
    exact ⟨pa, ca, lo5, hi5, rfl, by exact sl_, by (try rw [hB]); exact sz_, (by (try rw [hB]); exact bl_)⟩
theorem From_out (p : Option Addr) (n cap : Nat) (i : Int) (hi : mayE n i = false) (w : World) : Calls Tryz.prog 28 #[.slice p n cap, .int .i64 i] w fun r w' => r = .returned (.tuple #[.slice none 0 0, .int .i64 1]) ∧ Below w.heap.size w w' := by
  obtain ⟨B, hB⟩ : ∃ B, w.heap.size = B := ⟨_, rfl⟩
  have hfar := Below.refl B w
  have hsz : B ≤ w.heap.size := by omega
  go_enter Tryz.func28, Tryz.ntmps28
  go_wp2_with fail
  refine (may_any _ _ _ _ _).mono ?_
  rintro e w' ⟨rfl, rfl⟩
  rw [hi]
  go_wp2_with fail
  go_ret2
  exact ⟨rfl, (by (try rw [hB]); exact bl_)⟩
end Go.Proofs.YtmfihaaiddolmaaGreatDoor
