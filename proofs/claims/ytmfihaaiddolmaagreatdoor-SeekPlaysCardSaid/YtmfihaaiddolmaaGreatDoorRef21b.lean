/- The walk of the document's Truths (spoolref21). -/
import Derived.Test.YtmfihaaiddolmaaGreatDoorRef21
set_option linter.unusedSimpArgs false
set_option linter.unusedVariables false
namespace Go.Proofs.YtmfihaaiddolmaaGreatDoor
open Go.RowKit

theorem slh {ops : Array Oper} {rest : List Oper} {op : Oper} {a : Act} {w : World} {Q : Exit → Act → World → Prop} (t : TypeId) {x y : Operand} (ho : op.op = .slice t x none (some y) none) (hwd : Region.wanted op (yielded ops a.tmps) = true) {p : Option Addr} {n cap : Nat} (hx : a.eval x = .slice p n cap) {k : Nat} (hy : a.eval y = .int .i64 (k : Nat))
    {e : TypeId} {s : Nat} (ht : Tryz.prog.underlying t = some (.slice e)) (hs : ∀ w, (sizeOf e).run Tryz.prog w = .ok s w) (hk : k ≤ cap) (h : wpList Tryz.prog ops Q rest (a.put op.dst (.slice p k cap)) w) : wpList Tryz.prog ops Q (op :: rest) a w :=
  wpList_step fun K hK => by
    rw [if_pos hwd]
    have he : Tryz.prog.elem t = e := by unfold Program.elem; rw [ht]
    have ht2 : Tryz.prog.underlying t = some (.slice (Tryz.prog.elem t)) := by rw [he]; exact ht
    unfold Oper.wp execOp
    simp only [ho, hx, hy, Option.map_some, Option.map_none, Sem.run_bind]
    rw [run_sliceAt_slice w t _ _ _ _ ht2, run_slice_h w t p n cap ht2 .i64 k (by omega) (by omega), he, hs]
    simp only [Result.andThen, sliced0]
    exact hK _ _ h
theorem sz_REntry : ∀ w, (sizeOf 58).run Tryz.prog w = .ok 3 w := fun _ => by kernel_rfl
theorem rstate_zs : Tryz.prog.built 25 [] = some (arrV (zs 38)) := by kernel_rfl
set_option maxRecDepth 100000 in
set_option maxHeartbeats 8000000 in
theorem RTruths_any (l : List Ent) (hl : l.length ≤ 1000) (p : Option Addr) (cap : Nat) (w : World) (hE : EntIn w p cap l) :
    Calls Tryz.prog 19 #[.slice p l.length cap] w fun r w' => r = .returned (.int .i64 (truthsE (zs 38) l : Nat)) ∧ Below w.heap.size w w' := by
  obtain ⟨n, hn⟩ : ∃ n, l.length = n := ⟨_, rfl⟩
  have HN := Lib.hid hn
  have hc1 := hE.1
  have hc2 := hE.2.1
  have htl := truths_le (zs 38) l
  have hat := fun (k : Nat) (e : Ent) (he : l[k]? = some e) (hk : k < truthsE (zs 38) l) => true_at he hk
  have hst := fun (e : Ent) (he : l[truthsE (zs 38) l]? = some e) => true_stop he
  obtain ⟨T, hT⟩ : ∃ T, truthsE (zs 38) l = T := ⟨_, rfl⟩
  rw [hT] at htl
  simp only [hT] at hat hst ⊢
  have HAT := Lib.hid hat
  have HST := Lib.hid hst
  rw [hn] at hl hc1 htl ⊢
  obtain ⟨B, hB⟩ : ∃ B, w.heap.size = B := ⟨_, rfl⟩
  have HE := Lib.hid hE
  have hfar := Below.refl B w
  have hsz : B ≤ w.heap.size := by omega
  clear hE hn hT hat hst
  go_enter Tryz.func19, Tryz.ntmps19
  go_wp2_with fail
  go_loopw [3] (fun i wr => ∃ k : Nat, k ≤ n ∧ i = .int .i64 k ∧ k ≤ T ∧ Below B w wr ∧ B ≤ wr.heap.size) (fun i _ => n - (intOf i).toNat)
  case atStart => exact ⟨0, by omega, rfl, by omega, hfar, hsz⟩
  case round =>
    clear hfar hsz
    obtain ⟨k, hk, rfl, hkT, hfar, hsz⟩ := hrel
    by_cases hlt : k < n
    · have hlti : (k : Int) < (n : Int) := by omega
      have hkl : k < l.length := by rw [HN.out]; exact hlt
      obtain ⟨e, he⟩ : ∃ e, l[k]? = some e := ⟨_, List.getElem?_eq_getElem hkl⟩
      have htr : trueE (foldS (zs 38) (l.take k)) e = decide (k < T) := by
        by_cases h : k < T
        · rw [HAT.out _ _ he h, decide_eq_true h]
        · obtain rfl : k = T := by omega
          rw [HST.out _ he, decide_eq_false h]
      have hfo := fun W (hW : Below B w W) => RFold_any (zs 38) zs_len38 zs_right38 (l.take k) (by rw [List.length_take, HN.out]; omega) p cap W ((HE.out.below hB.symm hW).take k)
      rw [show (l.take k).length = k by rw [List.length_take, HN.out]; omega] at hfo
      have hMl := foldS_len zs_len38 (l.take k)
      have hMr := foldS_right zs_len38 zs_right38 (l.take k)
      obtain ⟨M, hM⟩ : ∃ M, foldS (zs 38) (l.take k) = M := ⟨_, rfl⟩
      rw [hM] at htr hMl hMr
      simp only [hM] at hfo
      have LM := Len.mk hMl
      have HFO := Lib.hid hfo
      have hent : ∀ W, Below B w W → ∃ a, p = some a ∧ a.block < W.heap.size ∧ W.cell? (a.add (k * 3)) = some (.int .i64 e.kind) ∧ W.cell? ⟨(a.add (k * 3)).block, (a.add (k * 3)).off + 1, none⟩ = some (.int .u32 e.stamp) ∧ W.cell? ⟨(a.add (k * 3)).block, (a.add (k * 3)).off + 2, none⟩ = some (.string e.data) ∧ EntOk e := fun W hW => (HE.out.below hB.symm hW).2.2 k e he
      obtain ⟨a, rfl, _⟩ := hent _ hfar
      have hent1 : ∀ W, Below B w W → W.cell? (a.add (k * 3)) = some (.int .i64 e.kind) ∧ W.cell? ⟨(a.add (k * 3)).block, (a.add (k * 3)).off + 1, none⟩ = some (.int .u32 e.stamp) ∧ W.cell? ⟨(a.add (k * 3)).block, (a.add (k * 3)).off + 2, none⟩ = some (.string e.data) := fun W hW => by
        obtain ⟨a', h1, _, c0, c1, c2, _⟩ := hent W hW
        cases h1; exact ⟨c0, c1, c2⟩
      have HENT := Lib.hid hent1
      have hre := fun w => RERight_any e w
      have hby := fun w => RBytes_any M hMl hMr w
      have htE : trueE M e = (rightS M && rightE e && (!decide (e.kind = 3) || readSt e.data == M)) := rfl
      rw [htr, hMr, Bool.true_and] at htE
      have hchk : e.kind = 3 → rightE e = true → (readSt e.data = M ↔ e.data = bytesS M) := fun h3 hR => by
        unfold rightE at hR
        rw [if_neg (by omega), if_neg (by omega), if_pos h3] at hR
        exact check_data_iff hMl hMr (by simpa using hR)
      obtain ⟨R, hRe⟩ : ∃ R, rightE e = R := ⟨_, rfl⟩
      obtain ⟨D, hDe⟩ : ∃ D, bytesS M = D := ⟨_, rfl⟩
      rw [hRe] at htE hchk
      rw [hDe] at hchk
      simp only [hRe] at hre
      simp only [hDe] at hby
      have HRE := Lib.hid hre
      have HBY := Lib.hid hby
      have HTE := Lib.hid htE
      have HCH := Lib.hid hchk
      obtain ⟨ek, sp, s⟩ := e
      simp only at HRE HTE HCH HENT
      clear hent hent1 hre hby htE hchk hRe hDe he hkl htr hfo hMl hMr hM
      go_wp2_with (first | (refine bd 25 rfl (by rfl) rfl rstate_zs ?_) | (refine slh 43 rfl (by rfl) rfl rfl Tryz.underlying43 sz_REntry (by omega) ?_))
      refine (HFO.out _ hfar).mono ?_
      rintro r w2 ⟨v2, rfl, hv2, hb2⟩
      replace hfar := hfar.trans (hb2.mono (by omega))
      replace hsz := Nat.le_trans hsz hb2.size
      clear hv2
      obtain ⟨g, hg⟩ : ∃ g, w2.heap.size = g := ⟨_, rfl⟩
      have hBg : B ≤ g := by omega
      go_upto_region 5 with (refine st 25 rfl (by rfl) w_RState rfl rfl bk_ lz_ lz_ one_ ?_)
      refine wp_gen (fun W => Blk W (g) (arrV M) 25 ∧ Below (B) w W ∧ g + 1 ≤ W.heap.size) ⟨bk_, bl_, sz_⟩ ?_
      clear hfar hsz
      rintro w3 ⟨hS, hfar, hsz⟩
      cases R with
      | false =>
        have hT : T = k := by
          have h := HTE.out
          simp at h; omega
        subst hT
        refine wp_region_held_drew (S := fun W => Blk W (g) (arrV M) 25 ∧ Below (B) w W ∧ g + 1 ≤ W.heap.size) (by kernel_rfl) (⟨hS.drew, hfar.drew, hsz⟩) (fun hH => ?_)
        have hH2 := hH
        obtain ⟨hS, hfar, hsz⟩ := hH2
        refine wpAnyH_take (i := 0) (oi := { dst := some 20, op := Op.move (Operand.tmp 0), type := 43, pos := "ref.go:35", after := _, guard := none }) (v := _) rfl (by kernel_rfl) (by kernel_rfl) (by kernel_rfl) (fun _ _ _ h => h) (.inl ⟨by rfl, fun w hS => by (go_simp; try rfl)⟩) hH ?_
        try simp only [Act.put, List.setIfInBounds_toArray, List.set_cons_zero, List.set_cons_succ]
        refine wpAnyH_take (i := 1) (oi := { dst := some 21, op := Op.move (Operand.tmp 3), type := 3, pos := "ref.go:35", after := _, guard := none }) (v := _) rfl (by kernel_rfl) (by kernel_rfl) (by kernel_rfl) (fun _ _ _ h => h) (.inl ⟨by rfl, fun w hS => by (go_simp; try rfl)⟩) hH ?_
        try simp only [Act.put, List.setIfInBounds_toArray, List.set_cons_zero, List.set_cons_succ]
        refine wpAnyH_take (i := 2) (oi := { dst := some 22, op := Op.indexAddr 43 (Operand.tmp 20) (Operand.tmp 21), type := 0, pos := "ref.go:35", after := _, guard := none }) (v := _) rfl (by kernel_rfl) (by kernel_rfl) (by kernel_rfl) (fun _ _ _ h => h) (.inl ⟨by rfl, fun w hS => by (go_simp; try rfl)⟩) hH ?_
        try simp only [Act.put, List.setIfInBounds_toArray, List.set_cons_zero, List.set_cons_succ]
        refine wpAnyH_take (i := 3) (oi := { dst := some 23, op := Op.load 58 (Operand.tmp 22), type := 58, pos := "ref.go:35", after := _, guard := none }) (v := .agg (entV ⟨ek, sp, s⟩)) rfl (by kernel_rfl) (by kernel_rfl) (by kernel_rfl) (fun _ _ _ h => h) (.inl ⟨by rfl, fun w hS => by (obtain ⟨c0, c1, c2⟩ := HENT.out _ hS.2.1; go_simp; try rfl)⟩) hH ?_
        try simp only [Act.put, List.setIfInBounds_toArray, List.set_cons_zero, List.set_cons_succ]
        refine wpAnyH_ready (rs := [4]) (by kernel_rfl) (by simp) ?_
        refine AllReadyH.cons (o := { dst := some 24, op := Op.call { callee := Callee.value (Operand.func 62), args := #[Operand.tmp 23], argTypes := #[58] }, type := 4, pos := "ref.go:35", after := _, guard := none }) rfl (fun K hK => ?_) AllReadyH.nil
        rw [if_pos (by rfl)]
        go_simp
        refine (HRE.out _).mono ?_
        rintro r wq ⟨rfl, hb⟩
        have hbs := hb.size
        try simp only [World.size_alloc, World.size_setCell, World.size_drew, size_setRow] at hbs
        go_wp2_with fail
        refine hK.out _ _ ⟨bk_, bl_, Nat.le_trans (sz_) hb.size⟩ (fun hH2 => ?_)
        clear hH
        have hH := hH2
        obtain ⟨hS, hfar, hsz⟩ := hH2
        clear hK K
        try simp only [Act.put, List.setIfInBounds_toArray, List.set_cons_zero, List.set_cons_succ]
        refine wpAnyH_take (i := 5) (oi := { dst := some 25, op := Op.unOp UnOp.not 4 (Operand.tmp 24), type := 4, pos := "ref.go:35", after := _, guard := none }) (v := _) rfl (by kernel_rfl) (by kernel_rfl) (by kernel_rfl) (fun _ _ _ h => h) (.inl ⟨by rfl, fun w hS => by (go_simp; try rfl)⟩) hH ?_
        try simp only [Act.put, List.setIfInBounds_toArray, List.set_cons_zero, List.set_cons_succ]
        refine wpAnyH_take (i := 6) (oi := { dst := some 26, op := Op.move (Operand.tmp 25), type := 4, pos := "ref.go:35", after := _, guard := none }) (v := _) rfl (by kernel_rfl) (by kernel_rfl) (by kernel_rfl) (fun _ _ _ h => h) (.inl ⟨by rfl, fun w hS => by (go_simp; try rfl)⟩) hH ?_
        try simp only [Act.put, List.setIfInBounds_toArray, List.set_cons_zero, List.set_cons_succ]
        refine wpAnyH_take (i := 7) (oi := { dst := some 27, op := Op.move (Operand.tmp 0), type := 43, pos := "ref.go:35", after := _, guard := some (6, false) }) (v := undef) rfl (by kernel_rfl) (by kernel_rfl) (by kernel_rfl) (fun _ _ _ h => h) (.inr ⟨by rfl, rfl⟩) hH ?_
        try simp only [Act.put, List.setIfInBounds_toArray, List.set_cons_zero, List.set_cons_succ]
        refine wpAnyH_take (i := 8) (oi := { dst := some 28, op := Op.move (Operand.tmp 3), type := 3, pos := "ref.go:35", after := _, guard := some (6, false) }) (v := undef) rfl (by kernel_rfl) (by kernel_rfl) (by kernel_rfl) (fun _ _ _ h => h) (.inr ⟨by rfl, rfl⟩) hH ?_
        try simp only [Act.put, List.setIfInBounds_toArray, List.set_cons_zero, List.set_cons_succ]
        refine wpAnyH_take (i := 9) (oi := { dst := some 29, op := Op.indexAddr 43 (Operand.tmp 27) (Operand.tmp 28), type := 0, pos := "ref.go:35", after := _, guard := some (6, false) }) (v := undef) rfl (by kernel_rfl) (by kernel_rfl) (by kernel_rfl) (fun _ _ _ h => h) (.inr ⟨by rfl, rfl⟩) hH ?_
        try simp only [Act.put, List.setIfInBounds_toArray, List.set_cons_zero, List.set_cons_succ]
        refine wpAnyH_take (i := 10) (oi := { dst := some 30, op := Op.fieldAddr 58 (Operand.tmp 29) 0, type := 0, pos := "ref.go:35", after := _, guard := some (6, false) }) (v := undef) rfl (by kernel_rfl) (by kernel_rfl) (by kernel_rfl) (fun _ _ _ h => h) (.inr ⟨by rfl, rfl⟩) hH ?_
        try simp only [Act.put, List.setIfInBounds_toArray, List.set_cons_zero, List.set_cons_succ]
        refine wpAnyH_take (i := 11) (oi := { dst := some 31, op := Op.load 3 (Operand.tmp 30), type := 3, pos := "ref.go:35", after := _, guard := some (6, false) }) (v := undef) rfl (by kernel_rfl) (by kernel_rfl) (by kernel_rfl) (fun _ _ _ h => h) (.inr ⟨by rfl, rfl⟩) hH ?_
        try simp only [Act.put, List.setIfInBounds_toArray, List.set_cons_zero, List.set_cons_succ]
        refine wpAnyH_take (i := 12) (oi := { dst := some 32, op := Op.binOp BinOp.eql 3 (Operand.tmp 31) (Operand.const (Value.int IntKind.i64 3)) 3, type := 4, pos := "ref.go:35", after := _, guard := some (6, false) }) (v := undef) rfl (by kernel_rfl) (by kernel_rfl) (by kernel_rfl) (fun _ _ _ h => h) (.inr ⟨by rfl, rfl⟩) hH ?_
        try simp only [Act.put, List.setIfInBounds_toArray, List.set_cons_zero, List.set_cons_succ]
        refine wpAnyH_take (i := 13) (oi := { dst := some 33, op := Op.move (Operand.tmp 32), type := 4, pos := "ref.go:35", after := _, guard := some (6, false) }) (v := undef) rfl (by kernel_rfl) (by kernel_rfl) (by kernel_rfl) (fun _ _ _ h => h) (.inr ⟨by rfl, rfl⟩) hH ?_
        try simp only [Act.put, List.setIfInBounds_toArray, List.set_cons_zero, List.set_cons_succ]
        refine wpAnyH_take (i := 14) (oi := { dst := some 34, op := Op.move (Operand.tmp 0), type := 43, pos := "ref.go:35", after := _, guard := some (13, true) }) (v := undef) rfl (by kernel_rfl) (by kernel_rfl) (by kernel_rfl) (fun _ _ _ h => h) (.inr ⟨by rfl, rfl⟩) hH ?_
        try simp only [Act.put, List.setIfInBounds_toArray, List.set_cons_zero, List.set_cons_succ]
        refine wpAnyH_take (i := 15) (oi := { dst := some 35, op := Op.move (Operand.tmp 3), type := 3, pos := "ref.go:35", after := _, guard := some (13, true) }) (v := undef) rfl (by kernel_rfl) (by kernel_rfl) (by kernel_rfl) (fun _ _ _ h => h) (.inr ⟨by rfl, rfl⟩) hH ?_
        try simp only [Act.put, List.setIfInBounds_toArray, List.set_cons_zero, List.set_cons_succ]
        refine wpAnyH_take (i := 16) (oi := { dst := some 36, op := Op.indexAddr 43 (Operand.tmp 34) (Operand.tmp 35), type := 0, pos := "ref.go:35", after := _, guard := some (13, true) }) (v := undef) rfl (by kernel_rfl) (by kernel_rfl) (by kernel_rfl) (fun _ _ _ h => h) (.inr ⟨by rfl, rfl⟩) hH ?_
        try simp only [Act.put, List.setIfInBounds_toArray, List.set_cons_zero, List.set_cons_succ]
        refine wpAnyH_take (i := 17) (oi := { dst := some 37, op := Op.fieldAddr 58 (Operand.tmp 36) 2, type := 0, pos := "ref.go:35", after := _, guard := some (13, true) }) (v := undef) rfl (by kernel_rfl) (by kernel_rfl) (by kernel_rfl) (fun _ _ _ h => h) (.inr ⟨by rfl, rfl⟩) hH ?_
        try simp only [Act.put, List.setIfInBounds_toArray, List.set_cons_zero, List.set_cons_succ]
        refine wpAnyH_take (i := 18) (oi := { dst := some 38, op := Op.load 9 (Operand.tmp 37), type := 9, pos := "ref.go:35", after := _, guard := some (13, true) }) (v := undef) rfl (by kernel_rfl) (by kernel_rfl) (by kernel_rfl) (fun _ _ _ h => h) (.inr ⟨by rfl, rfl⟩) hH ?_
        try simp only [Act.put, List.setIfInBounds_toArray, List.set_cons_zero, List.set_cons_succ]
        refine wpAnyH_take (i := 19) (oi := { dst := some 39, op := Op.load 25 (Operand.tmp 5), type := 25, pos := "ref.go:35", after := _, guard := some (13, true) }) (v := undef) rfl (by kernel_rfl) (by kernel_rfl) (by kernel_rfl) (fun _ _ _ h => h) (.inr ⟨by rfl, rfl⟩) hH ?_
        try simp only [Act.put, List.setIfInBounds_toArray, List.set_cons_zero, List.set_cons_succ]
        refine wpAnyH_take (i := 20) (oi := { dst := some 40, op := Op.call { callee := Callee.value (Operand.func 63), args := #[Operand.tmp 39], argTypes := #[25] }, type := 9, pos := "ref.go:35", after := _, guard := some (13, true) }) (v := undef) rfl (by kernel_rfl) (by kernel_rfl) (by kernel_rfl) (fun _ _ _ h => h) (.inr ⟨by rfl, rfl⟩) hH ?_
        try simp only [Act.put, List.setIfInBounds_toArray, List.set_cons_zero, List.set_cons_succ]
        refine wpAnyH_take (i := 21) (oi := { dst := some 41, op := Op.binOp BinOp.neq 9 (Operand.tmp 38) (Operand.tmp 40) 9, type := 4, pos := "ref.go:35", after := _, guard := some (13, true) }) (v := undef) rfl (by kernel_rfl) (by kernel_rfl) (by kernel_rfl) (fun _ _ _ h => h) (.inr ⟨by rfl, rfl⟩) hH ?_
        try simp only [Act.put, List.setIfInBounds_toArray, List.set_cons_zero, List.set_cons_succ]
        refine wpAnyH_take (i := 22) (oi := { dst := some 42, op := Op.pick (Operand.tmp 33) (Operand.tmp 41) (Operand.const (Value.bool false)), type := 4, pos := "ref.go:35", after := _, guard := some (6, false) }) (v := undef) rfl (by kernel_rfl) (by kernel_rfl) (by kernel_rfl) (fun _ _ _ h => h) (.inr ⟨by rfl, rfl⟩) hH ?_
        try simp only [Act.put, List.setIfInBounds_toArray, List.set_cons_zero, List.set_cons_succ]
        refine wpAnyH_take (i := 23) (oi := { dst := some 43, op := Op.pick (Operand.tmp 26) (Operand.const (Value.bool true)) (Operand.tmp 42), type := 4, pos := "ref.go:35", after := _, guard := none }) (v := _) rfl (by kernel_rfl) (by kernel_rfl) (by kernel_rfl) (fun _ _ _ h => h) (.inl ⟨by rfl, fun w hS => by (go_simp; try rfl)⟩) hH ?_
        try simp only [Act.put, List.setIfInBounds_toArray, List.set_cons_zero, List.set_cons_succ]
        refine wpAnyH_done (by kernel_rfl) ?_ _
        go_wp2_with fail
        go_ret
        exact ⟨rfl, (by (try rw [hB]); exact bl_)⟩
      | true =>
        by_cases h3 : ek = 3
        · subst h3
          have hio := HCH.out rfl rfl
          by_cases hD : s = D
          · have hlt2 : k < T := by
              have h := HTE.out
              rw [hio.2 hD] at h
              simpa using h
            subst hD
            refine wp_region_held_drew (S := fun W => Blk W (g) (arrV M) 25 ∧ Below (B) w W ∧ g + 1 ≤ W.heap.size) (by kernel_rfl) (⟨hS.drew, hfar.drew, hsz⟩) (fun hH => ?_)
            have hH2 := hH
            obtain ⟨hS, hfar, hsz⟩ := hH2
            refine wpAnyH_take (i := 0) (oi := { dst := some 20, op := Op.move (Operand.tmp 0), type := 43, pos := "ref.go:35", after := _, guard := none }) (v := _) rfl (by kernel_rfl) (by kernel_rfl) (by kernel_rfl) (fun _ _ _ h => h) (.inl ⟨by rfl, fun w hS => by (go_simp; try rfl)⟩) hH ?_
            try simp only [Act.put, List.setIfInBounds_toArray, List.set_cons_zero, List.set_cons_succ]
            refine wpAnyH_take (i := 1) (oi := { dst := some 21, op := Op.move (Operand.tmp 3), type := 3, pos := "ref.go:35", after := _, guard := none }) (v := _) rfl (by kernel_rfl) (by kernel_rfl) (by kernel_rfl) (fun _ _ _ h => h) (.inl ⟨by rfl, fun w hS => by (go_simp; try rfl)⟩) hH ?_
            try simp only [Act.put, List.setIfInBounds_toArray, List.set_cons_zero, List.set_cons_succ]
            refine wpAnyH_take (i := 2) (oi := { dst := some 22, op := Op.indexAddr 43 (Operand.tmp 20) (Operand.tmp 21), type := 0, pos := "ref.go:35", after := _, guard := none }) (v := _) rfl (by kernel_rfl) (by kernel_rfl) (by kernel_rfl) (fun _ _ _ h => h) (.inl ⟨by rfl, fun w hS => by (go_simp; try rfl)⟩) hH ?_
            try simp only [Act.put, List.setIfInBounds_toArray, List.set_cons_zero, List.set_cons_succ]
            refine wpAnyH_take (i := 3) (oi := { dst := some 23, op := Op.load 58 (Operand.tmp 22), type := 58, pos := "ref.go:35", after := _, guard := none }) (v := .agg (entV ⟨3, sp, s⟩)) rfl (by kernel_rfl) (by kernel_rfl) (by kernel_rfl) (fun _ _ _ h => h) (.inl ⟨by rfl, fun w hS => by (obtain ⟨c0, c1, c2⟩ := HENT.out _ hS.2.1; go_simp; try rfl)⟩) hH ?_
            try simp only [Act.put, List.setIfInBounds_toArray, List.set_cons_zero, List.set_cons_succ]
            refine wpAnyH_ready (rs := [4]) (by kernel_rfl) (by simp) ?_
            refine AllReadyH.cons (o := { dst := some 24, op := Op.call { callee := Callee.value (Operand.func 62), args := #[Operand.tmp 23], argTypes := #[58] }, type := 4, pos := "ref.go:35", after := _, guard := none }) rfl (fun K hK => ?_) AllReadyH.nil
            rw [if_pos (by rfl)]
            go_simp
            refine (HRE.out _).mono ?_
            rintro r wq ⟨rfl, hb⟩
            have hbs := hb.size
            try simp only [World.size_alloc, World.size_setCell, World.size_drew, size_setRow] at hbs
            go_wp2_with fail
            refine hK.out _ _ ⟨bk_, bl_, Nat.le_trans (sz_) hb.size⟩ (fun hH2 => ?_)
            clear hH
            have hH := hH2
            obtain ⟨hS, hfar, hsz⟩ := hH2
            clear hK K
            try simp only [Act.put, List.setIfInBounds_toArray, List.set_cons_zero, List.set_cons_succ]
            refine wpAnyH_take (i := 5) (oi := { dst := some 25, op := Op.unOp UnOp.not 4 (Operand.tmp 24), type := 4, pos := "ref.go:35", after := _, guard := none }) (v := _) rfl (by kernel_rfl) (by kernel_rfl) (by kernel_rfl) (fun _ _ _ h => h) (.inl ⟨by rfl, fun w hS => by (go_simp; try rfl)⟩) hH ?_
            try simp only [Act.put, List.setIfInBounds_toArray, List.set_cons_zero, List.set_cons_succ]
            refine wpAnyH_take (i := 6) (oi := { dst := some 26, op := Op.move (Operand.tmp 25), type := 4, pos := "ref.go:35", after := _, guard := none }) (v := _) rfl (by kernel_rfl) (by kernel_rfl) (by kernel_rfl) (fun _ _ _ h => h) (.inl ⟨by rfl, fun w hS => by (go_simp; try rfl)⟩) hH ?_
            try simp only [Act.put, List.setIfInBounds_toArray, List.set_cons_zero, List.set_cons_succ]
            refine wpAnyH_take (i := 7) (oi := { dst := some 27, op := Op.move (Operand.tmp 0), type := 43, pos := "ref.go:35", after := _, guard := some (6, false) }) (v := _) rfl (by kernel_rfl) (by kernel_rfl) (by kernel_rfl) (fun _ _ _ h => h) (.inl ⟨by rfl, fun w hS => by (go_simp; try rfl)⟩) hH ?_
            try simp only [Act.put, List.setIfInBounds_toArray, List.set_cons_zero, List.set_cons_succ]
            refine wpAnyH_take (i := 8) (oi := { dst := some 28, op := Op.move (Operand.tmp 3), type := 3, pos := "ref.go:35", after := _, guard := some (6, false) }) (v := _) rfl (by kernel_rfl) (by kernel_rfl) (by kernel_rfl) (fun _ _ _ h => h) (.inl ⟨by rfl, fun w hS => by (go_simp; try rfl)⟩) hH ?_
            try simp only [Act.put, List.setIfInBounds_toArray, List.set_cons_zero, List.set_cons_succ]
            refine wpAnyH_take (i := 9) (oi := { dst := some 29, op := Op.indexAddr 43 (Operand.tmp 27) (Operand.tmp 28), type := 0, pos := "ref.go:35", after := _, guard := some (6, false) }) (v := _) rfl (by kernel_rfl) (by kernel_rfl) (by kernel_rfl) (fun _ _ _ h => h) (.inl ⟨by rfl, fun w hS => by (go_simp; try rfl)⟩) hH ?_
            try simp only [Act.put, List.setIfInBounds_toArray, List.set_cons_zero, List.set_cons_succ]
            refine wpAnyH_take (i := 10) (oi := { dst := some 30, op := Op.fieldAddr 58 (Operand.tmp 29) 0, type := 0, pos := "ref.go:35", after := _, guard := some (6, false) }) (v := _) rfl (by kernel_rfl) (by kernel_rfl) (by kernel_rfl) (fun _ _ _ h => h) (.inl ⟨by rfl, fun w hS => by (go_simp; try rfl)⟩) hH ?_
            try simp only [Act.put, List.setIfInBounds_toArray, List.set_cons_zero, List.set_cons_succ]
            refine wpAnyH_take (i := 11) (oi := { dst := some 31, op := Op.load 3 (Operand.tmp 30), type := 3, pos := "ref.go:35", after := _, guard := some (6, false) }) (v := _) rfl (by kernel_rfl) (by kernel_rfl) (by kernel_rfl) (fun _ _ _ h => h) (.inl ⟨by rfl, fun w hS => by (have c := (HENT.out _ hS.2.1).1; go_simp; try rfl)⟩) hH ?_
            try simp only [Act.put, List.setIfInBounds_toArray, List.set_cons_zero, List.set_cons_succ]
            refine wpAnyH_take (i := 12) (oi := { dst := some 32, op := Op.binOp BinOp.eql 3 (Operand.tmp 31) (Operand.const (Value.int IntKind.i64 3)) 3, type := 4, pos := "ref.go:35", after := _, guard := some (6, false) }) (v := .bool true) rfl (by kernel_rfl) (by kernel_rfl) (by kernel_rfl) (fun _ _ _ h => h) (.inl ⟨by rfl, fun w hS => by go_simp⟩) hH ?_
            try simp only [Act.put, List.setIfInBounds_toArray, List.set_cons_zero, List.set_cons_succ]
            refine wpAnyH_take (i := 13) (oi := { dst := some 33, op := Op.move (Operand.tmp 32), type := 4, pos := "ref.go:35", after := _, guard := some (6, false) }) (v := _) rfl (by kernel_rfl) (by kernel_rfl) (by kernel_rfl) (fun _ _ _ h => h) (.inl ⟨by rfl, fun w hS => by (go_simp; try rfl)⟩) hH ?_
            try simp only [Act.put, List.setIfInBounds_toArray, List.set_cons_zero, List.set_cons_succ]
            refine wpAnyH_take (i := 14) (oi := { dst := some 34, op := Op.move (Operand.tmp 0), type := 43, pos := "ref.go:35", after := _, guard := some (13, true) }) (v := _) rfl (by kernel_rfl) (by kernel_rfl) (by kernel_rfl) (fun _ _ _ h => h) (.inl ⟨by rfl, fun w hS => by (go_simp; try rfl)⟩) hH ?_
            try simp only [Act.put, List.setIfInBounds_toArray, List.set_cons_zero, List.set_cons_succ]
            refine wpAnyH_take (i := 15) (oi := { dst := some 35, op := Op.move (Operand.tmp 3), type := 3, pos := "ref.go:35", after := _, guard := some (13, true) }) (v := _) rfl (by kernel_rfl) (by kernel_rfl) (by kernel_rfl) (fun _ _ _ h => h) (.inl ⟨by rfl, fun w hS => by (go_simp; try rfl)⟩) hH ?_
            try simp only [Act.put, List.setIfInBounds_toArray, List.set_cons_zero, List.set_cons_succ]
            refine wpAnyH_take (i := 16) (oi := { dst := some 36, op := Op.indexAddr 43 (Operand.tmp 34) (Operand.tmp 35), type := 0, pos := "ref.go:35", after := _, guard := some (13, true) }) (v := _) rfl (by kernel_rfl) (by kernel_rfl) (by kernel_rfl) (fun _ _ _ h => h) (.inl ⟨by rfl, fun w hS => by (go_simp; try rfl)⟩) hH ?_
            try simp only [Act.put, List.setIfInBounds_toArray, List.set_cons_zero, List.set_cons_succ]
            refine wpAnyH_take (i := 17) (oi := { dst := some 37, op := Op.fieldAddr 58 (Operand.tmp 36) 2, type := 0, pos := "ref.go:35", after := _, guard := some (13, true) }) (v := _) rfl (by kernel_rfl) (by kernel_rfl) (by kernel_rfl) (fun _ _ _ h => h) (.inl ⟨by rfl, fun w hS => by (go_simp; try rfl)⟩) hH ?_
            try simp only [Act.put, List.setIfInBounds_toArray, List.set_cons_zero, List.set_cons_succ]
            refine wpAnyH_take (i := 18) (oi := { dst := some 38, op := Op.load 9 (Operand.tmp 37), type := 9, pos := "ref.go:35", after := _, guard := some (13, true) }) (v := _) rfl (by kernel_rfl) (by kernel_rfl) (by kernel_rfl) (fun _ _ _ h => h) (.inl ⟨by rfl, fun w hS => by (have c := (HENT.out _ hS.2.1).2.2; go_simp; try rfl)⟩) hH ?_
            try simp only [Act.put, List.setIfInBounds_toArray, List.set_cons_zero, List.set_cons_succ]
            refine wpAnyH_take (i := 19) (oi := { dst := some 39, op := Op.load 25 (Operand.tmp 5), type := 25, pos := "ref.go:35", after := _, guard := some (13, true) }) (v := .agg (arrV M)) rfl (by kernel_rfl) (by kernel_rfl) (by kernel_rfl) (fun _ _ _ h => h) (yieldsIf_ld (by rfl) 25 rfl w_RState rfl (fun _ hS => hS.1) zz_) hH ?_
            try simp only [Act.put, List.setIfInBounds_toArray, List.set_cons_zero, List.set_cons_succ]
            refine wpAnyH_ready (rs := [20]) (by kernel_rfl) (by simp) ?_
            refine AllReadyH.cons (o := { dst := some 40, op := Op.call { callee := Callee.value (Operand.func 63), args := #[Operand.tmp 39], argTypes := #[25] }, type := 9, pos := "ref.go:35", after := _, guard := some (13, true) }) rfl (fun K hK => ?_) AllReadyH.nil
            rw [if_pos (by rfl)]
            go_simp
            refine (HBY.out _).mono ?_
            rintro r wq ⟨rfl, hb⟩
            have hbs := hb.size
            try simp only [World.size_alloc, World.size_setCell, World.size_drew, size_setRow] at hbs
            go_wp2_with fail
            refine hK.out _ _ ⟨bk_, bl_, Nat.le_trans (sz_) hb.size⟩ (fun hH2 => ?_)
            clear hH
            have hH := hH2
            obtain ⟨hS, hfar, hsz⟩ := hH2
            clear hK K
            try simp only [Act.put, List.setIfInBounds_toArray, List.set_cons_zero, List.set_cons_succ]
            refine wpAnyH_take (i := 21) (oi := { dst := some 41, op := Op.binOp BinOp.neq 9 (Operand.tmp 38) (Operand.tmp 40) 9, type := 4, pos := "ref.go:35", after := _, guard := some (13, true) }) (v := .bool false) rfl (by kernel_rfl) (by kernel_rfl) (by kernel_rfl) (fun _ _ _ h => h) (.inl ⟨by rfl, fun w hS => by go_simp⟩) hH ?_
            try simp only [Act.put, List.setIfInBounds_toArray, List.set_cons_zero, List.set_cons_succ]
            refine wpAnyH_take (i := 22) (oi := { dst := some 42, op := Op.pick (Operand.tmp 33) (Operand.tmp 41) (Operand.const (Value.bool false)), type := 4, pos := "ref.go:35", after := _, guard := some (6, false) }) (v := _) rfl (by kernel_rfl) (by kernel_rfl) (by kernel_rfl) (fun _ _ _ h => h) (.inl ⟨by rfl, fun w hS => by (go_simp; try rfl)⟩) hH ?_
            try simp only [Act.put, List.setIfInBounds_toArray, List.set_cons_zero, List.set_cons_succ]
            refine wpAnyH_take (i := 23) (oi := { dst := some 43, op := Op.pick (Operand.tmp 26) (Operand.const (Value.bool true)) (Operand.tmp 42), type := 4, pos := "ref.go:35", after := _, guard := none }) (v := _) rfl (by kernel_rfl) (by kernel_rfl) (by kernel_rfl) (fun _ _ _ h => h) (.inl ⟨by rfl, fun w hS => by (go_simp; try rfl)⟩) hH ?_
            try simp only [Act.put, List.setIfInBounds_toArray, List.set_cons_zero, List.set_cons_succ]
            refine wpAnyH_done (by kernel_rfl) ?_ _
            go_wp2_with fail
            go_roundw
            case rel => exact ⟨k + 1, hlt, by go_num, hlt2, by exact bl_, by exact sz_⟩
            case measure => simp [intOf]; omega
          · have hT : T = k := by
              have h := HTE.out
              have hne : (readSt s == M) = false := by
                cases hb : (readSt s == M) with
                | false => rfl
                | true => exact absurd (hio.1 (by simpa using hb)) hD
              rw [hne] at h
              simp at h; omega
            have hnl : ¬ s.toList = D.toList := fun h => hD (by rw [toList_str, toList_str] at h; exact ByteArray.ext (Array.toList_inj.1 h))
            subst hT
            refine wp_region_held_drew (S := fun W => Blk W (g) (arrV M) 25 ∧ Below (B) w W ∧ g + 1 ≤ W.heap.size) (by kernel_rfl) (⟨hS.drew, hfar.drew, hsz⟩) (fun hH => ?_)
            have hH2 := hH
            obtain ⟨hS, hfar, hsz⟩ := hH2
            refine wpAnyH_take (i := 0) (oi := { dst := some 20, op := Op.move (Operand.tmp 0), type := 43, pos := "ref.go:35", after := _, guard := none }) (v := _) rfl (by kernel_rfl) (by kernel_rfl) (by kernel_rfl) (fun _ _ _ h => h) (.inl ⟨by rfl, fun w hS => by (go_simp; try rfl)⟩) hH ?_
            try simp only [Act.put, List.setIfInBounds_toArray, List.set_cons_zero, List.set_cons_succ]
            refine wpAnyH_take (i := 1) (oi := { dst := some 21, op := Op.move (Operand.tmp 3), type := 3, pos := "ref.go:35", after := _, guard := none }) (v := _) rfl (by kernel_rfl) (by kernel_rfl) (by kernel_rfl) (fun _ _ _ h => h) (.inl ⟨by rfl, fun w hS => by (go_simp; try rfl)⟩) hH ?_
            try simp only [Act.put, List.setIfInBounds_toArray, List.set_cons_zero, List.set_cons_succ]
            refine wpAnyH_take (i := 2) (oi := { dst := some 22, op := Op.indexAddr 43 (Operand.tmp 20) (Operand.tmp 21), type := 0, pos := "ref.go:35", after := _, guard := none }) (v := _) rfl (by kernel_rfl) (by kernel_rfl) (by kernel_rfl) (fun _ _ _ h => h) (.inl ⟨by rfl, fun w hS => by (go_simp; try rfl)⟩) hH ?_
            try simp only [Act.put, List.setIfInBounds_toArray, List.set_cons_zero, List.set_cons_succ]
            refine wpAnyH_take (i := 3) (oi := { dst := some 23, op := Op.load 58 (Operand.tmp 22), type := 58, pos := "ref.go:35", after := _, guard := none }) (v := .agg (entV ⟨3, sp, s⟩)) rfl (by kernel_rfl) (by kernel_rfl) (by kernel_rfl) (fun _ _ _ h => h) (.inl ⟨by rfl, fun w hS => by (obtain ⟨c0, c1, c2⟩ := HENT.out _ hS.2.1; go_simp; try rfl)⟩) hH ?_
            try simp only [Act.put, List.setIfInBounds_toArray, List.set_cons_zero, List.set_cons_succ]
            refine wpAnyH_ready (rs := [4]) (by kernel_rfl) (by simp) ?_
            refine AllReadyH.cons (o := { dst := some 24, op := Op.call { callee := Callee.value (Operand.func 62), args := #[Operand.tmp 23], argTypes := #[58] }, type := 4, pos := "ref.go:35", after := _, guard := none }) rfl (fun K hK => ?_) AllReadyH.nil
            rw [if_pos (by rfl)]
            go_simp
            refine (HRE.out _).mono ?_
            rintro r wq ⟨rfl, hb⟩
            have hbs := hb.size
            try simp only [World.size_alloc, World.size_setCell, World.size_drew, size_setRow] at hbs
            go_wp2_with fail
            refine hK.out _ _ ⟨bk_, bl_, Nat.le_trans (sz_) hb.size⟩ (fun hH2 => ?_)
            clear hH
            have hH := hH2
            obtain ⟨hS, hfar, hsz⟩ := hH2
            clear hK K
            try simp only [Act.put, List.setIfInBounds_toArray, List.set_cons_zero, List.set_cons_succ]
            refine wpAnyH_take (i := 5) (oi := { dst := some 25, op := Op.unOp UnOp.not 4 (Operand.tmp 24), type := 4, pos := "ref.go:35", after := _, guard := none }) (v := _) rfl (by kernel_rfl) (by kernel_rfl) (by kernel_rfl) (fun _ _ _ h => h) (.inl ⟨by rfl, fun w hS => by (go_simp; try rfl)⟩) hH ?_
            try simp only [Act.put, List.setIfInBounds_toArray, List.set_cons_zero, List.set_cons_succ]
            refine wpAnyH_take (i := 6) (oi := { dst := some 26, op := Op.move (Operand.tmp 25), type := 4, pos := "ref.go:35", after := _, guard := none }) (v := _) rfl (by kernel_rfl) (by kernel_rfl) (by kernel_rfl) (fun _ _ _ h => h) (.inl ⟨by rfl, fun w hS => by (go_simp; try rfl)⟩) hH ?_
            try simp only [Act.put, List.setIfInBounds_toArray, List.set_cons_zero, List.set_cons_succ]
            refine wpAnyH_take (i := 7) (oi := { dst := some 27, op := Op.move (Operand.tmp 0), type := 43, pos := "ref.go:35", after := _, guard := some (6, false) }) (v := _) rfl (by kernel_rfl) (by kernel_rfl) (by kernel_rfl) (fun _ _ _ h => h) (.inl ⟨by rfl, fun w hS => by (go_simp; try rfl)⟩) hH ?_
            try simp only [Act.put, List.setIfInBounds_toArray, List.set_cons_zero, List.set_cons_succ]
            refine wpAnyH_take (i := 8) (oi := { dst := some 28, op := Op.move (Operand.tmp 3), type := 3, pos := "ref.go:35", after := _, guard := some (6, false) }) (v := _) rfl (by kernel_rfl) (by kernel_rfl) (by kernel_rfl) (fun _ _ _ h => h) (.inl ⟨by rfl, fun w hS => by (go_simp; try rfl)⟩) hH ?_
            try simp only [Act.put, List.setIfInBounds_toArray, List.set_cons_zero, List.set_cons_succ]
            refine wpAnyH_take (i := 9) (oi := { dst := some 29, op := Op.indexAddr 43 (Operand.tmp 27) (Operand.tmp 28), type := 0, pos := "ref.go:35", after := _, guard := some (6, false) }) (v := _) rfl (by kernel_rfl) (by kernel_rfl) (by kernel_rfl) (fun _ _ _ h => h) (.inl ⟨by rfl, fun w hS => by (go_simp; try rfl)⟩) hH ?_
            try simp only [Act.put, List.setIfInBounds_toArray, List.set_cons_zero, List.set_cons_succ]
            refine wpAnyH_take (i := 10) (oi := { dst := some 30, op := Op.fieldAddr 58 (Operand.tmp 29) 0, type := 0, pos := "ref.go:35", after := _, guard := some (6, false) }) (v := _) rfl (by kernel_rfl) (by kernel_rfl) (by kernel_rfl) (fun _ _ _ h => h) (.inl ⟨by rfl, fun w hS => by (go_simp; try rfl)⟩) hH ?_
            try simp only [Act.put, List.setIfInBounds_toArray, List.set_cons_zero, List.set_cons_succ]
            refine wpAnyH_take (i := 11) (oi := { dst := some 31, op := Op.load 3 (Operand.tmp 30), type := 3, pos := "ref.go:35", after := _, guard := some (6, false) }) (v := _) rfl (by kernel_rfl) (by kernel_rfl) (by kernel_rfl) (fun _ _ _ h => h) (.inl ⟨by rfl, fun w hS => by (have c := (HENT.out _ hS.2.1).1; go_simp; try rfl)⟩) hH ?_
            try simp only [Act.put, List.setIfInBounds_toArray, List.set_cons_zero, List.set_cons_succ]
            refine wpAnyH_take (i := 12) (oi := { dst := some 32, op := Op.binOp BinOp.eql 3 (Operand.tmp 31) (Operand.const (Value.int IntKind.i64 3)) 3, type := 4, pos := "ref.go:35", after := _, guard := some (6, false) }) (v := .bool true) rfl (by kernel_rfl) (by kernel_rfl) (by kernel_rfl) (fun _ _ _ h => h) (.inl ⟨by rfl, fun w hS => by go_simp⟩) hH ?_
            try simp only [Act.put, List.setIfInBounds_toArray, List.set_cons_zero, List.set_cons_succ]
            refine wpAnyH_take (i := 13) (oi := { dst := some 33, op := Op.move (Operand.tmp 32), type := 4, pos := "ref.go:35", after := _, guard := some (6, false) }) (v := _) rfl (by kernel_rfl) (by kernel_rfl) (by kernel_rfl) (fun _ _ _ h => h) (.inl ⟨by rfl, fun w hS => by (go_simp; try rfl)⟩) hH ?_
            try simp only [Act.put, List.setIfInBounds_toArray, List.set_cons_zero, List.set_cons_succ]
            refine wpAnyH_take (i := 14) (oi := { dst := some 34, op := Op.move (Operand.tmp 0), type := 43, pos := "ref.go:35", after := _, guard := some (13, true) }) (v := _) rfl (by kernel_rfl) (by kernel_rfl) (by kernel_rfl) (fun _ _ _ h => h) (.inl ⟨by rfl, fun w hS => by (go_simp; try rfl)⟩) hH ?_
            try simp only [Act.put, List.setIfInBounds_toArray, List.set_cons_zero, List.set_cons_succ]
            refine wpAnyH_take (i := 15) (oi := { dst := some 35, op := Op.move (Operand.tmp 3), type := 3, pos := "ref.go:35", after := _, guard := some (13, true) }) (v := _) rfl (by kernel_rfl) (by kernel_rfl) (by kernel_rfl) (fun _ _ _ h => h) (.inl ⟨by rfl, fun w hS => by (go_simp; try rfl)⟩) hH ?_
            try simp only [Act.put, List.setIfInBounds_toArray, List.set_cons_zero, List.set_cons_succ]
            refine wpAnyH_take (i := 16) (oi := { dst := some 36, op := Op.indexAddr 43 (Operand.tmp 34) (Operand.tmp 35), type := 0, pos := "ref.go:35", after := _, guard := some (13, true) }) (v := _) rfl (by kernel_rfl) (by kernel_rfl) (by kernel_rfl) (fun _ _ _ h => h) (.inl ⟨by rfl, fun w hS => by (go_simp; try rfl)⟩) hH ?_
            try simp only [Act.put, List.setIfInBounds_toArray, List.set_cons_zero, List.set_cons_succ]
            refine wpAnyH_take (i := 17) (oi := { dst := some 37, op := Op.fieldAddr 58 (Operand.tmp 36) 2, type := 0, pos := "ref.go:35", after := _, guard := some (13, true) }) (v := _) rfl (by kernel_rfl) (by kernel_rfl) (by kernel_rfl) (fun _ _ _ h => h) (.inl ⟨by rfl, fun w hS => by (go_simp; try rfl)⟩) hH ?_
            try simp only [Act.put, List.setIfInBounds_toArray, List.set_cons_zero, List.set_cons_succ]
            refine wpAnyH_take (i := 18) (oi := { dst := some 38, op := Op.load 9 (Operand.tmp 37), type := 9, pos := "ref.go:35", after := _, guard := some (13, true) }) (v := _) rfl (by kernel_rfl) (by kernel_rfl) (by kernel_rfl) (fun _ _ _ h => h) (.inl ⟨by rfl, fun w hS => by (have c := (HENT.out _ hS.2.1).2.2; go_simp; try rfl)⟩) hH ?_
            try simp only [Act.put, List.setIfInBounds_toArray, List.set_cons_zero, List.set_cons_succ]
            refine wpAnyH_take (i := 19) (oi := { dst := some 39, op := Op.load 25 (Operand.tmp 5), type := 25, pos := "ref.go:35", after := _, guard := some (13, true) }) (v := .agg (arrV M)) rfl (by kernel_rfl) (by kernel_rfl) (by kernel_rfl) (fun _ _ _ h => h) (yieldsIf_ld (by rfl) 25 rfl w_RState rfl (fun _ hS => hS.1) zz_) hH ?_
            try simp only [Act.put, List.setIfInBounds_toArray, List.set_cons_zero, List.set_cons_succ]
            refine wpAnyH_ready (rs := [20]) (by kernel_rfl) (by simp) ?_
            refine AllReadyH.cons (o := { dst := some 40, op := Op.call { callee := Callee.value (Operand.func 63), args := #[Operand.tmp 39], argTypes := #[25] }, type := 9, pos := "ref.go:35", after := _, guard := some (13, true) }) rfl (fun K hK => ?_) AllReadyH.nil
            rw [if_pos (by rfl)]
            go_simp
            refine (HBY.out _).mono ?_
            rintro r wq ⟨rfl, hb⟩
            have hbs := hb.size
            try simp only [World.size_alloc, World.size_setCell, World.size_drew, size_setRow] at hbs
            go_wp2_with fail
            refine hK.out _ _ ⟨bk_, bl_, Nat.le_trans (sz_) hb.size⟩ (fun hH2 => ?_)
            clear hH
            have hH := hH2
            obtain ⟨hS, hfar, hsz⟩ := hH2
            clear hK K
            try simp only [Act.put, List.setIfInBounds_toArray, List.set_cons_zero, List.set_cons_succ]
            refine wpAnyH_take (i := 21) (oi := { dst := some 41, op := Op.binOp BinOp.neq 9 (Operand.tmp 38) (Operand.tmp 40) 9, type := 4, pos := "ref.go:35", after := _, guard := some (13, true) }) (v := .bool true) rfl (by kernel_rfl) (by kernel_rfl) (by kernel_rfl) (fun _ _ _ h => h) (.inl ⟨by rfl, fun w hS => by go_simp⟩) hH ?_
            try simp only [Act.put, List.setIfInBounds_toArray, List.set_cons_zero, List.set_cons_succ]
            refine wpAnyH_take (i := 22) (oi := { dst := some 42, op := Op.pick (Operand.tmp 33) (Operand.tmp 41) (Operand.const (Value.bool false)), type := 4, pos := "ref.go:35", after := _, guard := some (6, false) }) (v := _) rfl (by kernel_rfl) (by kernel_rfl) (by kernel_rfl) (fun _ _ _ h => h) (.inl ⟨by rfl, fun w hS => by (go_simp; try rfl)⟩) hH ?_
            try simp only [Act.put, List.setIfInBounds_toArray, List.set_cons_zero, List.set_cons_succ]
            refine wpAnyH_take (i := 23) (oi := { dst := some 43, op := Op.pick (Operand.tmp 26) (Operand.const (Value.bool true)) (Operand.tmp 42), type := 4, pos := "ref.go:35", after := _, guard := none }) (v := _) rfl (by kernel_rfl) (by kernel_rfl) (by kernel_rfl) (fun _ _ _ h => h) (.inl ⟨by rfl, fun w hS => by (go_simp; try rfl)⟩) hH ?_
            try simp only [Act.put, List.setIfInBounds_toArray, List.set_cons_zero, List.set_cons_succ]
            refine wpAnyH_done (by kernel_rfl) ?_ _
            go_wp2_with fail
            go_ret
            exact ⟨rfl, (by (try rw [hB]); exact bl_)⟩
        · have hlt2 : k < T := by
            have h := HTE.out
            simpa [h3] using h
          have h3b : (ek == 3) = false := by simpa using h3
          refine wp_region_held_drew (S := fun W => Blk W (g) (arrV M) 25 ∧ Below (B) w W ∧ g + 1 ≤ W.heap.size) (by kernel_rfl) (⟨hS.drew, hfar.drew, hsz⟩) (fun hH => ?_)
          have hH2 := hH
          obtain ⟨hS, hfar, hsz⟩ := hH2
          refine wpAnyH_take (i := 0) (oi := { dst := some 20, op := Op.move (Operand.tmp 0), type := 43, pos := "ref.go:35", after := _, guard := none }) (v := _) rfl (by kernel_rfl) (by kernel_rfl) (by kernel_rfl) (fun _ _ _ h => h) (.inl ⟨by rfl, fun w hS => by (go_simp; try rfl)⟩) hH ?_
          try simp only [Act.put, List.setIfInBounds_toArray, List.set_cons_zero, List.set_cons_succ]
          refine wpAnyH_take (i := 1) (oi := { dst := some 21, op := Op.move (Operand.tmp 3), type := 3, pos := "ref.go:35", after := _, guard := none }) (v := _) rfl (by kernel_rfl) (by kernel_rfl) (by kernel_rfl) (fun _ _ _ h => h) (.inl ⟨by rfl, fun w hS => by (go_simp; try rfl)⟩) hH ?_
          try simp only [Act.put, List.setIfInBounds_toArray, List.set_cons_zero, List.set_cons_succ]
          refine wpAnyH_take (i := 2) (oi := { dst := some 22, op := Op.indexAddr 43 (Operand.tmp 20) (Operand.tmp 21), type := 0, pos := "ref.go:35", after := _, guard := none }) (v := _) rfl (by kernel_rfl) (by kernel_rfl) (by kernel_rfl) (fun _ _ _ h => h) (.inl ⟨by rfl, fun w hS => by (go_simp; try rfl)⟩) hH ?_
          try simp only [Act.put, List.setIfInBounds_toArray, List.set_cons_zero, List.set_cons_succ]
          refine wpAnyH_take (i := 3) (oi := { dst := some 23, op := Op.load 58 (Operand.tmp 22), type := 58, pos := "ref.go:35", after := _, guard := none }) (v := .agg (entV ⟨ek, sp, s⟩)) rfl (by kernel_rfl) (by kernel_rfl) (by kernel_rfl) (fun _ _ _ h => h) (.inl ⟨by rfl, fun w hS => by (obtain ⟨c0, c1, c2⟩ := HENT.out _ hS.2.1; go_simp; try rfl)⟩) hH ?_
          try simp only [Act.put, List.setIfInBounds_toArray, List.set_cons_zero, List.set_cons_succ]
          refine wpAnyH_ready (rs := [4]) (by kernel_rfl) (by simp) ?_
          refine AllReadyH.cons (o := { dst := some 24, op := Op.call { callee := Callee.value (Operand.func 62), args := #[Operand.tmp 23], argTypes := #[58] }, type := 4, pos := "ref.go:35", after := _, guard := none }) rfl (fun K hK => ?_) AllReadyH.nil
          rw [if_pos (by rfl)]
          go_simp
          refine (HRE.out _).mono ?_
          rintro r wq ⟨rfl, hb⟩
          have hbs := hb.size
          try simp only [World.size_alloc, World.size_setCell, World.size_drew, size_setRow] at hbs
          go_wp2_with fail
          refine hK.out _ _ ⟨bk_, bl_, Nat.le_trans (sz_) hb.size⟩ (fun hH2 => ?_)
          clear hH
          have hH := hH2
          obtain ⟨hS, hfar, hsz⟩ := hH2
          clear hK K
          try simp only [Act.put, List.setIfInBounds_toArray, List.set_cons_zero, List.set_cons_succ]
          refine wpAnyH_take (i := 5) (oi := { dst := some 25, op := Op.unOp UnOp.not 4 (Operand.tmp 24), type := 4, pos := "ref.go:35", after := _, guard := none }) (v := _) rfl (by kernel_rfl) (by kernel_rfl) (by kernel_rfl) (fun _ _ _ h => h) (.inl ⟨by rfl, fun w hS => by (go_simp; try rfl)⟩) hH ?_
          try simp only [Act.put, List.setIfInBounds_toArray, List.set_cons_zero, List.set_cons_succ]
          refine wpAnyH_take (i := 6) (oi := { dst := some 26, op := Op.move (Operand.tmp 25), type := 4, pos := "ref.go:35", after := _, guard := none }) (v := _) rfl (by kernel_rfl) (by kernel_rfl) (by kernel_rfl) (fun _ _ _ h => h) (.inl ⟨by rfl, fun w hS => by (go_simp; try rfl)⟩) hH ?_
          try simp only [Act.put, List.setIfInBounds_toArray, List.set_cons_zero, List.set_cons_succ]
          refine wpAnyH_take (i := 7) (oi := { dst := some 27, op := Op.move (Operand.tmp 0), type := 43, pos := "ref.go:35", after := _, guard := some (6, false) }) (v := _) rfl (by kernel_rfl) (by kernel_rfl) (by kernel_rfl) (fun _ _ _ h => h) (.inl ⟨by rfl, fun w hS => by (go_simp; try rfl)⟩) hH ?_
          try simp only [Act.put, List.setIfInBounds_toArray, List.set_cons_zero, List.set_cons_succ]
          refine wpAnyH_take (i := 8) (oi := { dst := some 28, op := Op.move (Operand.tmp 3), type := 3, pos := "ref.go:35", after := _, guard := some (6, false) }) (v := _) rfl (by kernel_rfl) (by kernel_rfl) (by kernel_rfl) (fun _ _ _ h => h) (.inl ⟨by rfl, fun w hS => by (go_simp; try rfl)⟩) hH ?_
          try simp only [Act.put, List.setIfInBounds_toArray, List.set_cons_zero, List.set_cons_succ]
          refine wpAnyH_take (i := 9) (oi := { dst := some 29, op := Op.indexAddr 43 (Operand.tmp 27) (Operand.tmp 28), type := 0, pos := "ref.go:35", after := _, guard := some (6, false) }) (v := _) rfl (by kernel_rfl) (by kernel_rfl) (by kernel_rfl) (fun _ _ _ h => h) (.inl ⟨by rfl, fun w hS => by (go_simp; try rfl)⟩) hH ?_
          try simp only [Act.put, List.setIfInBounds_toArray, List.set_cons_zero, List.set_cons_succ]
          refine wpAnyH_take (i := 10) (oi := { dst := some 30, op := Op.fieldAddr 58 (Operand.tmp 29) 0, type := 0, pos := "ref.go:35", after := _, guard := some (6, false) }) (v := _) rfl (by kernel_rfl) (by kernel_rfl) (by kernel_rfl) (fun _ _ _ h => h) (.inl ⟨by rfl, fun w hS => by (go_simp; try rfl)⟩) hH ?_
          try simp only [Act.put, List.setIfInBounds_toArray, List.set_cons_zero, List.set_cons_succ]
          refine wpAnyH_take (i := 11) (oi := { dst := some 31, op := Op.load 3 (Operand.tmp 30), type := 3, pos := "ref.go:35", after := _, guard := some (6, false) }) (v := _) rfl (by kernel_rfl) (by kernel_rfl) (by kernel_rfl) (fun _ _ _ h => h) (.inl ⟨by rfl, fun w hS => by (have c := (HENT.out _ hS.2.1).1; go_simp; try rfl)⟩) hH ?_
          try simp only [Act.put, List.setIfInBounds_toArray, List.set_cons_zero, List.set_cons_succ]
          refine wpAnyH_take (i := 12) (oi := { dst := some 32, op := Op.binOp BinOp.eql 3 (Operand.tmp 31) (Operand.const (Value.int IntKind.i64 3)) 3, type := 4, pos := "ref.go:35", after := _, guard := some (6, false) }) (v := .bool false) rfl (by kernel_rfl) (by kernel_rfl) (by kernel_rfl) (fun _ _ _ h => h) (.inl ⟨by rfl, fun w hS => by go_simp⟩) hH ?_
          try simp only [Act.put, List.setIfInBounds_toArray, List.set_cons_zero, List.set_cons_succ]
          refine wpAnyH_take (i := 13) (oi := { dst := some 33, op := Op.move (Operand.tmp 32), type := 4, pos := "ref.go:35", after := _, guard := some (6, false) }) (v := _) rfl (by kernel_rfl) (by kernel_rfl) (by kernel_rfl) (fun _ _ _ h => h) (.inl ⟨by rfl, fun w hS => by (go_simp; try rfl)⟩) hH ?_
          try simp only [Act.put, List.setIfInBounds_toArray, List.set_cons_zero, List.set_cons_succ]
          refine wpAnyH_take (i := 14) (oi := { dst := some 34, op := Op.move (Operand.tmp 0), type := 43, pos := "ref.go:35", after := _, guard := some (13, true) }) (v := undef) rfl (by kernel_rfl) (by kernel_rfl) (by kernel_rfl) (fun _ _ _ h => h) (.inr ⟨by rfl, rfl⟩) hH ?_
          try simp only [Act.put, List.setIfInBounds_toArray, List.set_cons_zero, List.set_cons_succ]
          refine wpAnyH_take (i := 15) (oi := { dst := some 35, op := Op.move (Operand.tmp 3), type := 3, pos := "ref.go:35", after := _, guard := some (13, true) }) (v := undef) rfl (by kernel_rfl) (by kernel_rfl) (by kernel_rfl) (fun _ _ _ h => h) (.inr ⟨by rfl, rfl⟩) hH ?_
          try simp only [Act.put, List.setIfInBounds_toArray, List.set_cons_zero, List.set_cons_succ]
          refine wpAnyH_take (i := 16) (oi := { dst := some 36, op := Op.indexAddr 43 (Operand.tmp 34) (Operand.tmp 35), type := 0, pos := "ref.go:35", after := _, guard := some (13, true) }) (v := undef) rfl (by kernel_rfl) (by kernel_rfl) (by kernel_rfl) (fun _ _ _ h => h) (.inr ⟨by rfl, rfl⟩) hH ?_
          try simp only [Act.put, List.setIfInBounds_toArray, List.set_cons_zero, List.set_cons_succ]
          refine wpAnyH_take (i := 17) (oi := { dst := some 37, op := Op.fieldAddr 58 (Operand.tmp 36) 2, type := 0, pos := "ref.go:35", after := _, guard := some (13, true) }) (v := undef) rfl (by kernel_rfl) (by kernel_rfl) (by kernel_rfl) (fun _ _ _ h => h) (.inr ⟨by rfl, rfl⟩) hH ?_
          try simp only [Act.put, List.setIfInBounds_toArray, List.set_cons_zero, List.set_cons_succ]
          refine wpAnyH_take (i := 18) (oi := { dst := some 38, op := Op.load 9 (Operand.tmp 37), type := 9, pos := "ref.go:35", after := _, guard := some (13, true) }) (v := undef) rfl (by kernel_rfl) (by kernel_rfl) (by kernel_rfl) (fun _ _ _ h => h) (.inr ⟨by rfl, rfl⟩) hH ?_
          try simp only [Act.put, List.setIfInBounds_toArray, List.set_cons_zero, List.set_cons_succ]
          refine wpAnyH_take (i := 19) (oi := { dst := some 39, op := Op.load 25 (Operand.tmp 5), type := 25, pos := "ref.go:35", after := _, guard := some (13, true) }) (v := undef) rfl (by kernel_rfl) (by kernel_rfl) (by kernel_rfl) (fun _ _ _ h => h) (.inr ⟨by rfl, rfl⟩) hH ?_
          try simp only [Act.put, List.setIfInBounds_toArray, List.set_cons_zero, List.set_cons_succ]
          refine wpAnyH_take (i := 20) (oi := { dst := some 40, op := Op.call { callee := Callee.value (Operand.func 63), args := #[Operand.tmp 39], argTypes := #[25] }, type := 9, pos := "ref.go:35", after := _, guard := some (13, true) }) (v := undef) rfl (by kernel_rfl) (by kernel_rfl) (by kernel_rfl) (fun _ _ _ h => h) (.inr ⟨by rfl, rfl⟩) hH ?_
          try simp only [Act.put, List.setIfInBounds_toArray, List.set_cons_zero, List.set_cons_succ]
          refine wpAnyH_take (i := 21) (oi := { dst := some 41, op := Op.binOp BinOp.neq 9 (Operand.tmp 38) (Operand.tmp 40) 9, type := 4, pos := "ref.go:35", after := _, guard := some (13, true) }) (v := undef) rfl (by kernel_rfl) (by kernel_rfl) (by kernel_rfl) (fun _ _ _ h => h) (.inr ⟨by rfl, rfl⟩) hH ?_
          try simp only [Act.put, List.setIfInBounds_toArray, List.set_cons_zero, List.set_cons_succ]
          refine wpAnyH_take (i := 22) (oi := { dst := some 42, op := Op.pick (Operand.tmp 33) (Operand.tmp 41) (Operand.const (Value.bool false)), type := 4, pos := "ref.go:35", after := _, guard := some (6, false) }) (v := _) rfl (by kernel_rfl) (by kernel_rfl) (by kernel_rfl) (fun _ _ _ h => h) (.inl ⟨by rfl, fun w hS => by (go_simp; try rfl)⟩) hH ?_
          try simp only [Act.put, List.setIfInBounds_toArray, List.set_cons_zero, List.set_cons_succ]
          refine wpAnyH_take (i := 23) (oi := { dst := some 43, op := Op.pick (Operand.tmp 26) (Operand.const (Value.bool true)) (Operand.tmp 42), type := 4, pos := "ref.go:35", after := _, guard := none }) (v := _) rfl (by kernel_rfl) (by kernel_rfl) (by kernel_rfl) (fun _ _ _ h => h) (.inl ⟨by rfl, fun w hS => by (go_simp; try rfl)⟩) hH ?_
          try simp only [Act.put, List.setIfInBounds_toArray, List.set_cons_zero, List.set_cons_succ]
          refine wpAnyH_done (by kernel_rfl) ?_ _
          go_wp2_with fail
          go_roundw
          case rel => exact ⟨k + 1, hlt, by go_num, hlt2, by exact bl_, by exact sz_⟩
          case measure => simp [intOf]; omega
    · obtain rfl : k = n := by omega
      have hT : T = k := by omega
      subst hT
      go_wp2_with fail
      go_ret
      exact ⟨rfl, (by (try rw [hB]); exact bl_)⟩
end Go.Proofs.YtmfihaaiddolmaaGreatDoor
