/- The walk of spoollaw25.ModelSilent: whatever comes in, it returns true. -/
import Derived.Test.YtkoljgmapclhkaaGreatDoorLaw25a
import Derived.Test.YtkoljgmapclhkaaGreatDoorNum23
set_option linter.unusedSimpArgs false
set_option linter.unusedVariables false
namespace Go.Proofs.YtkoljgmapclhkaaGreatDoor
open Go.RowKit

set_option maxRecDepth 100000 in
theorem fld_0 (e : Int) (s : Value) (w : World) : (Instr.field 46 (.agg #[.int .i64 e, s]) 0).run Tryz.prog w = .ok (.int .i64 e) w := by kernel_rfl
theorem wf_u8' {a : Int} (h : (Lit.int .u8 a).wf = true) : 0 ≤ a ∧ a ≤ 255 := by
  simp [Lit.wf, IntKind.min, IntKind.max, IntKind.bits, IntKind.signed] at h; omega
theorem do_six (M : Mst) : doM M ⟨6, [], 0⟩ = (M, 0, foldO (zs 38) M.ents) := by unfold doM; rfl
theorem Kept.cell {S : Nat → Prop} {W W' : World} (hk : Kept S W W') {a : Addr} (h : a.block < W.heap.size) (hn : ¬ S a.block) : W'.cell? a = W.cell? a := cell_eq (hk.block _ h hn)
theorem tmod_nat {a : Int} (h : 0 ≤ a) (k : Nat) (hk : 0 < k) : ∃ m : Nat, a.tmod k = m ∧ m < k := by
  rw [Int.tmod_eq_emod_of_nonneg h]
  have h1 := Int.emod_nonneg a (show (k : Int) ≠ 0 by omega)
  have h2 := Int.emod_lt_of_pos a (show (0 : Int) < k by omega)
  exact ⟨(a % k).toNat, by omega, by omega⟩
set_option maxRecDepth 100000 in
set_option maxHeartbeats 4000000 in
theorem Policy24_any {a b c : Int} (ha : 0 ≤ a ∧ a ≤ 255) (hb : 0 ≤ b ∧ b ≤ 255) (hc : 0 ≤ c ∧ c ≤ 255) : ∃ m n k : Nat, m < 23 ∧ n < 5 ∧ k < 6 ∧ ∀ w, Calls Tryz.prog 24 #[.int .u8 a, .int .u8 b, .int .u8 c] w fun r w' => r = .returned (.agg #[.int .i64 (10 + (m : Int)), .int .i64 (1 + (n : Int)), .int .i64 (1 + (k : Int))]) ∧ Below w.heap.size w w' := by
  obtain ⟨m, hm, hm2⟩ := tmod_nat ha.1 23 (by omega)
  obtain ⟨n, hn, hn2⟩ := tmod_nat hb.1 5 (by omega)
  obtain ⟨k, hk, hk2⟩ := tmod_nat hc.1 6 (by omega)
  refine ⟨m, n, k, hm2, hn2, hk2, fun w => ?_⟩
  have hm' : a.tmod 23 = m := hm
  have hn' : b.tmod 5 = n := hn
  have hk' : c.tmod 6 = k := hk
  have hm3 : a % 23 = m := by rw [← Int.tmod_eq_emod_of_nonneg ha.1]; exact hm
  have hn3 : b % 5 = n := by rw [← Int.tmod_eq_emod_of_nonneg hb.1]; exact hn
  have hk3 : c % 6 = k := by rw [← Int.tmod_eq_emod_of_nonneg hc.1]; exact hk
  clear hm hn hk
  obtain ⟨B, hB⟩ : ∃ B, w.heap.size = B := ⟨_, rfl⟩
  have hfar := Below.refl B w
  have hsz : B ≤ w.heap.size := by omega
  obtain ⟨ha0, ha1⟩ := ha
  obtain ⟨hb0, hb1⟩ := hb
  obtain ⟨hc0, hc1⟩ := hc
  go_enter Tryz.func24, Tryz.ntmps24
  go_upto_region 1 with (fail)
  refine wp_gen (fun W => Blk W (B) (#[.int .i64 0, .int .i64 0, .int .i64 0]) 41 ∧ Below (B) w W ∧ B + 1 ≤ W.heap.size) ⟨bk_, bl_, sz_⟩ ?_
  clear hfar hsz
  rintro w1 ⟨hP, hfar, hsz⟩
  go_wp2_with (first | (refine bd 41 rfl (by rfl) rfl (pol_built _ _ _) ?_) | (refine st 41 rfl (by rfl) w_Policy rfl rfl hP rfl rfl one_ ?_))
  exact bodyPost_ret (v := .agg #[.int .i64 (10 + (m : Int)), .int .i64 (1 + (n : Int)), .int .i64 (1 + (k : Int))]) (res_c Tryz.results24 rfl w_Policy (by exact bk_) rfl) rfl ⟨rfl, (by (try rw [hB]); exact bl_)⟩
theorem act_quiet {M : Mst} {a : Mact} (h : 0 ≤ a.what ∧ a.what ≤ 5) : (doM M a).2.2 = [] := by
  unfold doM
  split
  · rfl
  · split
    · rfl
    · split
      · rfl
      · split
        · rfl
        · split
          · rfl
          · split
            · rfl
            · omega
theorem nqw {ops : Array Oper} {rest : List Oper} {op : Oper} {a : Act} {w : World} {Q : Exit → Act → World → Prop} (t : TypeId) {t2 : TypeId} {x y : Operand} (ho : op.op = .binOp .neq t x y t2) (hwd : Region.wanted op (yielded ops a.tmps) = true)
    {xs ys : Array Value} (hx : a.eval x = .agg xs) (hy : a.eval y = .agg ys) (hg : Tryz.prog.eqGuardType Tryz.prog.depth t = false) (he : ∀ w, (Op.equalIn 10000 t (.agg xs) (.agg ys)).run Tryz.prog w = .ok true w)
    (h : wpList Tryz.prog ops Q rest (a.put op.dst (.bool false)) w) : wpList Tryz.prog ops Q (op :: rest) a w :=
  wpList_step fun K hK => by
    rw [if_pos hwd]
    unfold Oper.wp execOp
    simp only [ho, hx, hy, Sem.run_bind, run_eqGuard_agg w .neq t x y xs ys hg, Result.andThen_ok, run_neq_struct, he, Oper.upon]
    exact hK _ _ h
theorem quiet_ex {M : Mst} {a : Mact} (h : 0 ≤ a.what ∧ a.what ≤ 5) : ∃ N E, doM M a = (N, E, []) := by
  have h1 := act_quiet (M := M) h
  generalize doM M a = R at h1 ⊢
  obtain ⟨N, E, O⟩ := R
  exact ⟨N, E, by rw [show O = [] from h1]⟩
theorem wp_mki {op : Oper} {a : Act} {w : World} {K : Act → World → Prop} {Q : Exit → Act → World → Prop} {x y : Operand}
    (ho : op.op = .makeSlice 48 x y) (hx : a.eval x = .int .i64 16) (hy : a.eval y = .int .i64 16)
    (h : K (a.put op.dst (.slice (some ⟨w.heap.size, 0, none⟩) 16 16)) (w.alloc (.cells (arrV (zs 16)) 3))) : op.wp Tryz.prog a w K Q := by
  obtain ⟨i0, hi, hz0, hz1, hz2⟩ := info_parts info_int1
  have hr := run_makeSlice (P := Tryz.prog) w 48 3 i0 (.int .i64 0) Tryz.underlying48 hi hz0 .i64 .i64 16 16 (by omega) (Int.le_refl _) (by rw [hz1]; omega) (by rw [hz2]; omega) (by omega)
  rw [hz1] at hr
  have e : madeCells (Value.int .i64 0).cells (((16 : Int).toNat) * 1) = arrV (zs 16) := by kernel_rfl
  rw [e] at hr
  unfold Oper.wp execOp
  simp only [ho, hx, hy, Sem.run_bind, hr, Result.andThen_ok]
  exact h
set_option maxRecDepth 100000 in
theorem fld_1 (e s : Value) (w : World) (h : s.oneCell' = true) (p : Option Addr) (n c : Nat) (hs : s = .slice p n c) : (Instr.field 46 (.agg #[e, s]) 1).run Tryz.prog w = .ok s w := by subst hs; kernel_rfl
set_option maxRecDepth 100000 in
set_option maxHeartbeats 16000000 in
theorem MSilent_any {a b c : Int} (ha : 0 ≤ a ∧ a ≤ 255) (hb : 0 ≤ b ∧ b ≤ 255) (hc : 0 ≤ c ∧ c ≤ 255) {av : Value} {zz : List Int} {w : World} (hA : NumsIn w .u8 av zz) (hW : BandsW w) :
    Calls Tryz.prog 7 #[.int .u8 a, .int .u8 b, .int .u8 c, av] w fun r w' => r = .returned (.bool true) ∧ Below w.heap.size w w' := by
  have hBW : Blk w 0 bandC 164 := hW
  have hB0 := hW.lt
  obtain ⟨p, cap, rfl, hlc, hcm, hcell⟩ := hA
  obtain ⟨L, hL⟩ : ∃ L, zz.length = L := ⟨_, rfl⟩
  rw [hL] at hlc ⊢
  have HL := Lib.hid hL
  have HC := Lib.hid hcell
  clear hL hcell hW
  obtain ⟨m, n, k, hm, hn, hk, hpol⟩ := Policy24_any ha hb hc
  have HPOL := Lib.hid hpol
  have hnew := fun w => New_right 1024 (10 + (m : Int)) (1 + (n : Int)) (1 + (k : Int)) (by decide) (by unfold rightP everyP; simp; omega) w
  have hok := newM_ok (pages := 1024) (sz := 10 + (m : Int)) (sy := 1 + (n : Int)) (ck := 1 + (k : Int)) (by omega) (by omega) (by omega) (by omega)
  have hsil := @new_sil (10 + (m : Int)) (1 + (n : Int)) (1 + (k : Int))
  obtain ⟨M0, hM0⟩ : ∃ M, newM 1024 (10 + (m : Int)) (1 + (n : Int)) (1 + (k : Int)) = M := ⟨_, rfl⟩
  simp only [hM0] at hnew hok hsil
  have HNEW := Lib.hid hnew
  clear hnew hM0 hpol
  obtain ⟨B, hB⟩ : ∃ B, w.heap.size = B := ⟨_, rfl⟩
  rw [hB] at hB0
  have hfar := Below.refl B w
  have hsz : B ≤ w.heap.size := by omega
  by_cases hL40 : (40 : Int) < L
  · go_enter Tryz.func7, Tryz.ntmps7
    go_wp2_with fail
    refine (awake25_any _ hBW).mono ?_
    rintro e w1 ⟨rfl, hb1⟩
    replace hBW := hBW.newB hb1
    replace hfar := hfar.trans (hb1.mono (by omega))
    replace hsz := Nat.le_trans hsz hb1.size
    go_wp2_with fail
    refine (awake25_any _ hBW).mono ?_
    rintro e w2 ⟨rfl, hb2⟩
    replace hBW := hBW.newB hb2
    replace hfar := hfar.trans (hb2.mono (by omega))
    replace hsz := Nat.le_trans hsz hb2.size
    go_wp2_with fail
    go_ret
    exact ⟨rfl, (by (try rw [hB]); exact bl_)⟩
  · go_enter Tryz.func7, Tryz.ntmps7
    go_wp2_with fail
    refine (awake25_any _ hBW).mono ?_
    rintro e w1 ⟨rfl, hb1⟩
    replace hBW := hBW.newB hb1
    replace hfar := hfar.trans (hb1.mono (by omega))
    replace hsz := Nat.le_trans hsz hb1.size
    go_wp2_with fail
    refine (HPOL.out _).mono ?_
    rintro e w2 ⟨rfl, hb2⟩
    replace hBW := hBW.newB hb2
    replace hfar := hfar.trans (hb2.mono (by omega))
    replace hsz := Nat.le_trans hsz hb2.size
    go_wp2_with fail
    refine (HNEW.out _).mono ?_
    rintro e w3 ⟨g, rfl, hg, h, hb3⟩
    have hs1 := hb1.size
    have hs2 := hb2.size
    have hgB : B ≤ g := by omega
    replace hBW := hBW.newB hb3
    replace hfar := hfar.trans (hb3.mono (by omega))
    replace hsz := Nat.le_trans hsz hb3.size
    go_wp2_with fail
    go_loopw [11] (fun i wr => ∃ (j : Nat) (M : Mst) (v : Value), j ≤ L ∧ i = .int .i64 j ∧ M.Ok j (2 * j) ∧ Sil M (2 * j) ∧ MB wr g M v ∧ Blk wr 0 bandC 164 ∧ Below B w wr ∧ B ≤ wr.heap.size) (fun i _ => L - (intOf i).toNat)
    case atStart => exact ⟨0, M0, _, by omega, rfl, hok, hsil, h, hBW, hfar, hsz⟩
    case round =>
      clear hBW h hfar hsz hok hsil
      obtain ⟨j, M, v, hj, rfl, hO, hS, h, hBW, hfar, hsz⟩ := hrel
      by_cases hlt : j < L
      · have hlti : (j : Int) < L := by omega
        obtain ⟨x, hx⟩ : ∃ x, zz[j]? = some x := ⟨_, List.getElem?_eq_getElem (by rw [HL.out]; exact hlt)⟩
        obtain ⟨ad, rfl, hab, hac, hwf⟩ := HC.out j x hx
        have hx8 := wf_u8' hwf
        obtain ⟨r, hr, hr6⟩ := tmod_nat hx8.1 6 (by omega)
        have hr' : x.tmod 6 = r := hr
        have hr3 : x % 6 = r := by rw [← Int.tmod_eq_emod_of_nonneg hx8.1]; exact hr
        obtain ⟨hx0, hx1⟩ := hx8
        have hwx : IntKind.i64.wrap x = x := IntWalk.i64_in _ (by omega)
        have hab2 : (ad.add j).block < B := by rw [← hB]; exact addr_block ad j ▸ hab
        have hcr : wr.cell? (ad.add j) = some (.int .u8 x) := (hfar.cell hab2).trans hac
        clear hab hac
        obtain ⟨N, E, hd⟩ := @quiet_ex M ⟨r, z16, 0⟩ ⟨by show (0 : Int) ≤ r; omega, by show (r : Int) ≤ 5; omega⟩
        have hON := hO.act (a := ⟨r, z16, 0⟩) (by show (0 : Int) ≤ _; omega)
        have hSN := hS.act (by omega) hO (a := ⟨r, z16, 0⟩) ⟨by show (0 : Int) ≤ r; omega, by show (r : Int) ≤ 5; omega⟩ rfl
        rw [hd] at hON hSN
        have hdo : ∀ w' D, MB w' g M v → BandsW w' → Blk w' D (arrV (zs 16)) 3 → D ≠ g → v.ownBlock ≠ some D → Calls Tryz.prog 15 #[.pointer (some ⟨g, 0, none⟩), .agg #[.int .i64 r, .slice (some ⟨D, 0, none⟩) 16 16, .int .i64 0]] w' (RetX w' g v N E) :=
          fun w' D h hW hD h1 h2 => Do_err (a := ⟨r, z16, 0⟩) (p := some ⟨D, 0, none⟩) (cap := 16) h hO (by omega) (by omega) hW (frin_new hD h1 h2) (by show (16 : Nat) ≤ 1000000; omega) (by show (-9223372036854775808 : Int) ≤ r ∧ (r : Int) ≤ _; omega) hd
        have HDO := Lib.hid hdo
        have HOL := Lib.hid h.olt
        have HON := Lib.hid hON
        have HSN := Lib.hid hSN
        have hgw := h.lt
        have hvw : VB v wr.heap.size := h.vb rfl
        clear hdo hON hSN hd hO hS hx hwf hr hsz
        have hsz : B ≤ wr.heap.size := by have := hfar.size; omega
        go_upto_region 9 with (fail)
        refine wp_region_held_drew (S := fun W => Kept (fun k => k = g ∨ v.ownBlock = some k) wr W) (by kernel_rfl) ((Kept.refl _ wr).drew) (fun hH => ?_)
        refine tk 0 hH (y := yp) (k := ?_)
        refine tk 1 hH (y := yp) (k := ?_)
        refine tk 2 hH (y := yp) (k := ?_)
        refine tk 3 hH (y := yp) (k := ?_)
        refine tk 4 hH (y := (.inl ⟨by rfl, fun w hS => by (have c := (hS.cell (Nat.lt_of_lt_of_le hab2 hsz) (Or.rec (by omega) (fun e => by have := (HOL.out _ e).1; omega))).trans hcr; go_simp; try rfl)⟩)) (k := ?_)
        refine tk 5 hH (y := yp) (k := ?_)
        refine tk 6 hH (y := yp) (k := ?_)
        refine wpAnyH_ready (rs := [7]) (by kernel_rfl) (by simp) ?_
        refine rc (h := fun K hK => ?_) (r := AllReadyH.nil)
        refine wp_mki rfl rfl rfl ?_
        refine hK.out _ _ (hH.alloc _) (fun hH => ?_)
        clear hK K
        try simp only [Act.put, sa, List.set_cons_zero, List.set_cons_succ]
        refine tk 8 hH (v := .agg #[.int .i64 r, .slice (some ⟨wr.drew.heap.size, 0, none⟩) 16 16, .int .i64 0]) (y := (yieldsIf_bd (parts := #[(0, .tmp 44), (1, .tmp 45)]) (vs := [(0, .int .i64 r), (1, .slice (some ⟨wr.drew.heap.size, 0, none⟩) 16 16)]) (by rfl) 50 rfl rfl (mact_f _ _ _ _))) (k := ?_)
        refine wpAnyH_ready (rs := [9]) (by kernel_rfl) (by simp) ?_
        refine rc (h := fun K hK => ?_) (r := AllReadyH.nil)
        go_simp
        refine (HDO.out _ _ (h.drew.alloc _) (hBW.drew.alloc _) (Blk.newAt rfl) (by show wr.heap.size ≠ g; omega) (fun e => by have := hvw.out _ e; simp only [World.size_drew] at this; omega)).mono ?_
        rintro r wq ⟨v', q', cp', rfl, h', hb⟩
        have hbs := hb.size
        try simp only [World.size_alloc, World.size_setCell, World.size_drew, size_setRow] at hbs
        go_wp2_with fail
        refine hK.out _ _ (hH.andThen hb.kept (fun i hi => .inl hi)) (fun hH => ?_)
        clear hK K
        try simp only [Act.put, sa, List.set_cons_zero, List.set_cons_succ]
        refine wpAnyH_done (by kernel_rfl) ?_ _
        go_wp2_with fail
        go_roundw
        case rel =>
          have hgv := mb_bands h hBW
          have hf' : Below B w wq := (hfar.drew.alloc hsz _).trans (hb.below (h.drew.alloc _) hgB)
          have hs' := hf'.size
          exact ⟨j + 1, N, v', hlt, by go_num, HON.out, HSN.out, h', hb.blk (hBW.drew.alloc _) (by omega) hgv.2, hf', by omega⟩
        case measure => simp [intOf]; omega
      · obtain rfl : j = L := by omega
        have hj40 : j ≤ 40 := by omega
        have hn1 := hO.ents
        have hcnt := foldO_count zs_len38 zs_right38 M.ents
        have hle := foldO_le (zs 38) M.ents
        have hout := hS.out
        obtain ⟨A, hA⟩ : ∃ A, foldO (zs 38) M.ents = A := ⟨_, rfl⟩
        have hdo : ∀ w', MB w' g M v → BandsW w' → Calls Tryz.prog 15 #[.pointer (some ⟨g, 0, none⟩), .agg (actV ⟨6, [], 0⟩ none 0)] w' (RetD w' g v (M, 0, A)) := fun w' h hW => by
          have := Do_any h hO (by omega) (by omega) hW (a := ⟨6, [], 0⟩) (p := none) (cap := 0) (FrIn.nil _ _ _ _ (by omega)) (by show 0 ≤ 1000000; omega) (by show (-9223372036854775808 : Int) ≤ 6 ∧ (6 : Int) ≤ _; omega)
          rw [do_six, hA] at this; exact this
        rw [hA] at hcnt hle hout
        obtain ⟨q, hq⟩ : ∃ q, A.length = q := ⟨_, rfl⟩
        rw [hq] at hcnt hle
        have hen : ∀ w v, MB w g M v → Calls Tryz.prog 22 #[.pointer (some ⟨g, 0, none⟩)] w (RetEn w M.ents M.ents.length) := fun w v h => MEntries_any h (by omega)
        obtain ⟨n5, hn5⟩ : ∃ n, M.ents.length = n := ⟨_, rfl⟩
        have hso : ∀ w p lo hi cap, SL w lo hi 3 p n5 cap (flE M.ents) → Calls Tryz.prog 27 #[.slice p n5 cap] w fun r w' => r = .returned (.int .i64 (q : Nat)) ∧ Below w.heap.size w w' := fun w p lo hi cap hE => by
          rw [hcnt]; exact Sounds_any hn5 (by omega) hE
        rw [hn5] at hen hle hn1
        have hfz : ∀ w v, MB w g M v → Calls Tryz.prog 18 #[.pointer (some ⟨g, 0, none⟩)] w fun r w' => r = .returned (.bool false) ∧ w = w' := fun w v h => by
          have := Frozen_any h; rw [hS.fro] at this; exact this
        have HDO := Lib.hid hdo
        have HOUT := Lib.hid hout
        have HEN := Lib.hid hen
        have HSO := Lib.hid hso
        have HFZ := Lib.hid hfz
        have HQ := Lib.hid hq
        have hq80 : q ≤ 80 := by omega
        have hsz : B ≤ wr.heap.size := by have := hfar.size; omega
        clear hdo hS hO hout hen hso hfz hq hA hcnt hn5 hle hn1
        go_wp2_with (refine bd 50 rfl (by rfl) rfl (mact_d _) ?_)
        refine (HDO.out _ h hBW).mono ?_
        rintro e w4 ⟨v4, q4, n4, c4, lo, hi, rfl, hn4, hs4, hlo4, h4, ht4⟩
        dsimp only at hn4 hs4 h4 ⊢
        rw [HQ.out] at hn4
        subst hn4
        have hfar4 : Below B w w4 := hfar.trans (ht4.below h hgB)
        have hfd : ∀ w, (Instr.field 46 (.agg #[.int .i64 0, .slice q4 n4 c4]) 1).run Tryz.prog w = .ok (.slice q4 n4 c4) w := fun w => fld_1 (.int .i64 0) (.slice q4 n4 c4) w rfl q4 n4 c4 rfl
        clear h hfar hsz ht4 hBW hlo4 HDO
        go_wp2_with fail
        clear hfd
        go_loopw [13] (fun i wx => ∃ k : Nat, k ≤ n4 ∧ i = .int .i64 k ∧ SL wx lo hi 16 q4 n4 c4 (A.flatMap intsV) ∧ MB wx g M v4 ∧ Below B w wx) (fun i _ => n4 - (intOf i).toNat)
        case atStart => exact ⟨0, by omega, rfl, hs4, h4, hfar4⟩
        case round =>
          clear hs4 h4 hfar4
          obtain ⟨k, hk, rfl, hsl, h, hfar⟩ := hrel
          by_cases hlt : k < n4
          · have hkA : k < A.length := by rw [HQ.out]; exact hlt
            have hz : A[k]? = some (zs 16) := by
              rw [List.getElem?_eq_getElem hkA, HOUT.out _ (List.getElem_mem hkA)]; rfl
            have hbs : BS wr lo hi q4 c4 A := by unfold BS; rw [HQ.out]; exact hsl
            obtain ⟨gb, o, rfl, hb1, hb2, hr⟩ := hbs.get (fun b hb => by rw [HOUT.out b hb]; rfl) hz
            have hra : wr.rangeAt gb (o + k * 16) (arrV (zs 16)).toList := by simpa using hr
            have LZ16 := Len.zs 16
            clear hkA hz hbs hr
            go_wp2_with (first | (refine ldr 26 rfl (by rfl) w_Block rfl hra LZ16.sz ?_) | (refine bd 26 rfl (by rfl) rfl block_zs ?_) | (refine nqw 26 rfl (by rfl) rfl rfl eg_Block (eq_block_self LZ16.out) ?_))
            go_roundw
            case rel => exact ⟨k + 1, hlt, by go_num, hsl, h, hfar⟩
            case measure => simp [intOf]; omega
          · obtain rfl : k = n4 := by omega
            have hsz : B ≤ wr.heap.size := by have := hfar.size; omega
            go_wp2_with fail
            refine (HEN.out _ _ h).mono ?_
            rintro e w6 ⟨p6, c6, lo6, hi6, rfl, hs6, hlo6, hb6⟩
            clear hlo6 hsl
            replace h := h.newB hb6
            replace hfar := hfar.trans (hb6.mono (by omega))
            replace hsz := Nat.le_trans hsz hb6.size
            go_wp2_with fail
            refine (HSO.out _ _ _ _ _ hs6).mono ?_
            rintro e w7 ⟨rfl, hb7⟩
            replace h := h.newB hb7
            replace hfar := hfar.trans (hb7.mono (by omega))
            replace hsz := Nat.le_trans hsz hb7.size
            go_wp2_with fail
            refine (HFZ.out _ _ h).mono ?_
            rintro e w8 ⟨rfl, rfl⟩
            go_wp2_with fail
            go_ret
            exact ⟨rfl, (by (try rw [hB]); exact bl_)⟩
end Go.Proofs.YtkoljgmapclhkaaGreatDoor
