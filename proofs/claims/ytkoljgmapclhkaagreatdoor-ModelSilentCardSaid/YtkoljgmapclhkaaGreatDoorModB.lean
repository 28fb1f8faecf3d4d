/- The walks of (*model.Model).freeze, add; entry.Lay, Packet. -/
import Derived.Test.YtkoljgmapclhkaaGreatDoorModA
import Derived.Test.YtkoljgmapclhkaaGreatDoorNeed
import Derived.Test.YtkoljgmapclhkaaGreatDoorApp
set_option linter.unusedSimpArgs false
set_option linter.unusedVariables false
namespace Go.Proofs.YtkoljgmapclhkaaGreatDoor
open Go.RowKit

theorem el_u8 : ElemT 5 1 := ⟨fun _ => by kernel_rfl, .int .u8 0, fun _ => by kernel_rfl, by kernel_rfl⟩
/-- One byte as a text. -/
theorem wp_bstr {op : Oper} {a : Act} {w : World} {K : Act → World → Prop} {Q : Exit → Act → World → Prop} {x : Operand} (ho : op.op = .convert 66 9 x) {b : Nat} {k : Int} (hx : a.eval x = .slice (some ⟨b, 0, none⟩) 1 1) (hb : Blk w b #[.int .u8 k] 5) (hk : 0 ≤ k ∧ k ≤ 255)
    (h : K (a.put op.dst (.string (strOfNums [k]))) w) : op.wp Tryz.prog a w K Q := by
  have hr := run_convert_bytes_arg w 66 5 Tryz.underlying66 Tryz.underlying5 b 0 1 1 [k] rfl (fun i hi => by
    rw [Nat.zero_add, hb.cell i]
    match i, hi with
    | 0, _ => rfl) 9 Tryz.underlying9
  unfold Oper.wp execOp
  simp only [ho, hx, hr, Sem.run_bind, Result.andThen_ok]
  exact h
set_option maxRecDepth 100000 in
theorem freeze_any {w : World} {g : Nat} {M : Mst} {v : Value} (h : MB w g M v) (e : Int) : Calls Tryz.prog 78 #[.pointer (some ⟨g, 0, none⟩), .int .i64 e] w (RetE w g v (iceM M, e)) := by
  obtain ⟨_, c99, c100, _⟩ := h.cells
  have f99 := h.frz 99
  have f100 := h.frz 100
  go_enter Tryz.func78, Tryz.ntmps78
  go_wp2_with fail
  go_ret
  exact ⟨v, rfl, (h.setFro true).setRun false, ((Trn.refl g v w).here ⟨g, 100, none⟩ rfl _).here ⟨g, 99, none⟩ rfl _⟩
set_option maxRecDepth 100000 in
set_option maxHeartbeats 1000000 in
theorem Packet_any (sp : Int) (s : ByteArray) (w : World) : Calls Tryz.prog 77 #[.int .u32 sp, .string s] w fun r w' => r = .returned (.agg (entV ⟨1, sp, s⟩)) ∧ Below w.heap.size w w' := by
  obtain ⟨B, hB⟩ : ∃ B, w.heap.size = B := ⟨_, rfl⟩
  have hfar := Below.refl B w
  have hsz : B ≤ w.heap.size := by omega
  go_enter Tryz.func77, Tryz.ntmps77
  go_upto_region 1 with (fail)
  refine wp_gen (fun W => Blk W (B) (#[.int .i64 0, .int .u32 0, .string ⟨#[]⟩]) 92 ∧ Below (B) w W ∧ B + 1 ≤ W.heap.size) ⟨bk_, bl_, sz_⟩ ?_
  clear hfar hsz
  rintro w1 ⟨hR, hfar, hsz⟩
  go_wp2_with (first | (refine st 92 rfl (by rfl) w_Entry rfl rfl bk_ zz_ zz_ one_ ?_) | (refine ld 92 rfl (by rfl) w_Entry rfl bk_ zz_ ?_) | (refine bd 29 rfl (by rfl) rfl state_zs ?_) | (refine bd 26 rfl (by rfl) rfl block_zs ?_) | (refine ld 29 rfl (by rfl) w_State rfl bk_ lz_ ?_) | (refine ld 26 rfl (by rfl) w_Block rfl bk_ lz_ ?_) | (refine ldp 26 rfl (by rfl) w_Block rfl bk_ ln_ (by omega) ?_) | (refine ld 27 rfl (by rfl) w_Four rfl bk_ lz_ ?_) | (refine ldp 27 rfl (by rfl) w_Four rfl bk_ ln_ (by omega) ?_) | (refine st 29 rfl (by rfl) w_State rfl rfl bk_ lz_ lz_ one_ ?_) | (refine st 26 rfl (by rfl) w_Block rfl rfl bk_ lz_ lz_ one_ ?_) | (refine st 27 rfl (by rfl) w_Four rfl rfl bk_ lz_ lz_ one_ ?_))
  exact bodyPost_ret (v := .agg #[.int .i64 1, .int .u32 sp, .string s]) (res_c Tryz.results77 rfl w_Entry (by exact bk_) rfl) rfl ⟨rfl, (by (try rw [hB]); exact bl_)⟩
set_option maxRecDepth 100000 in
set_option maxHeartbeats 2000000 in
theorem ELay_any (x : Ent) (h0 : 0 ≤ x.stamp) (h1 : x.stamp ≤ 4294967295) (w : World) : Calls Tryz.prog 123 #[.agg (entV x)] w fun r w' => ∃ s e, r = .returned (.tuple #[.string s, e]) ∧ s.size = recN x ∧ Below w.heap.size w w' := by
  have hr := fun w => ERight_any x w
  have hN : recN x = if rightE x = true then 5 + x.data.size else 0 := rfl
  obtain ⟨R, hR⟩ : ∃ R, rightE x = R := ⟨_, rfl⟩
  have hk : R = true → 0 ≤ x.kind ∧ x.kind ≤ 255 := fun e => by
    rw [e] at hR
    unfold rightE at hR
    split at hR
    · omega
    · split at hR
      · omega
      · split at hR
        · omega
        · cases hR
  have hds0 := fun e : R = true => right_size (hR.trans e)
  rw [hR] at hN
  simp only [hR] at hr
  have hf := fun w => CFour_any x.stamp h0 h1 w
  have h4 : (strOfNums (fourN x.stamp)).size = 4 := strOfNums_size (fourN x.stamp)
  obtain ⟨F, hF⟩ : ∃ F, strOfNums (fourN x.stamp) = F := ⟨_, rfl⟩
  rw [hF] at h4
  simp only [hF] at hf
  obtain ⟨k, sp, d⟩ := x
  dsimp only at *
  have HR := Lib.hid hr
  have HF := Lib.hid hf
  have HN := Lib.hid hN
  have HK := Lib.hid hk
  clear hr hf hR hF hN hk
  obtain ⟨B, hB⟩ : ∃ B, w.heap.size = B := ⟨_, rfl⟩
  have hfar := Below.refl B w
  have hsz : B ≤ w.heap.size := by omega
  go_enter Tryz.func123, Tryz.ntmps123
  go_upto_region 1 with (fail)
  refine wp_gen (fun W => Blk W (B) (entV ⟨k, sp, d⟩) 92 ∧ Below (B) w W ∧ B + 1 ≤ W.heap.size) ⟨bk_, bl_, sz_⟩ ?_
  clear hfar hsz
  rintro w1 ⟨hE, hfar, hsz⟩
  go_wp2_with (first | (refine st 92 rfl (by rfl) w_Entry rfl rfl bk_ zz_ zz_ one_ ?_) | (refine ld 92 rfl (by rfl) w_Entry rfl bk_ zz_ ?_) | (refine bd 29 rfl (by rfl) rfl state_zs ?_) | (refine bd 26 rfl (by rfl) rfl block_zs ?_) | (refine ld 29 rfl (by rfl) w_State rfl bk_ lz_ ?_) | (refine ld 26 rfl (by rfl) w_Block rfl bk_ lz_ ?_) | (refine ldp 26 rfl (by rfl) w_Block rfl bk_ ln_ (by omega) ?_) | (refine ld 27 rfl (by rfl) w_Four rfl bk_ lz_ ?_) | (refine ldp 27 rfl (by rfl) w_Four rfl bk_ ln_ (by omega) ?_) | (refine st 29 rfl (by rfl) w_State rfl rfl bk_ lz_ lz_ one_ ?_) | (refine st 26 rfl (by rfl) w_Block rfl rfl bk_ lz_ lz_ one_ ?_) | (refine st 27 rfl (by rfl) w_Four rfl rfl bk_ lz_ lz_ one_ ?_))
  refine (HR.out _).mono ?_
  rintro e w2 ⟨rfl, hb2⟩
  replace hE := hE.newB hb2
  replace hfar := hfar.trans (hb2.mono (by omega))
  replace hsz := Nat.le_trans hsz hb2.size
  cases R with
  | false =>
    go_wp2_with fail
    go_ret2
    exact ⟨_, _, rfl, by rw [HN.out]; rfl, (by (try rw [hB]); exact bl_)⟩
  | true =>
    obtain ⟨hk0, hk1⟩ := HK.out rfl
    have hkw : IntKind.u8.wrap k = k := by rw [IntKind.wrap_u8]; omega
    go_upto_region 3 with (fail)
    obtain ⟨N, hNN⟩ : ∃ N, w2.heap.size = N := ⟨_, rfl⟩
    have hBN : B + 1 ≤ N := by omega
    have HNN := Lib.hid hNN
    clear hNN
    have h1b : (strOfNums [k]).size = 1 := strOfNums_size [k]
    have hds := hds0 trivial
    refine wp_region_held_drew (S := fun W => Below N w2 W) (by kernel_rfl) ((Below.refl N w2).drew) (fun hH => ?_)
    refine tk 0 hH (y := yp) (k := ?_)
    refine tk 1 hH (y := (.inl ⟨by rfl, fun w hS => by (have c := ((hE.below hS (by omega)).cell 0); go_simp; try rfl)⟩)) (k := ?_)
    refine tk 2 hH (y := yp) (k := ?_)
    refine tk 5 hH (y := yp) (k := ?_)
    refine tk 6 hH (y := (.inl ⟨by rfl, fun w hS => by (have c := ((hE.below hS (by omega)).cell 1); go_simp; try rfl)⟩)) (k := ?_)
    refine tk 9 hH (y := yp) (k := ?_)
    refine tk 10 hH (y := (.inl ⟨by rfl, fun w hS => by (have c := ((hE.below hS (by omega)).cell 2); go_simp; try rfl)⟩)) (k := ?_)
    refine wpAnyH_ready (rs := [3, 7]) (by kernel_rfl) (by simp) ?_
    refine rc (h := fun K hK => ?_) (r := ?_)
    · refine wp_bs1v 66 rfl rfl rfl Tryz.underlying66 el_u8 (fun g5 w5 hg5 hn5 hb5 hs5 => ?_)
      clear hg5
      refine hK.out _ _ (hH.trans (hb5.mono (Nat.le_trans (Nat.le_of_eq HNN.out.symm) hH.size))) (fun hH => ?_)
      clear hK K
      try simp only [Act.put, sa, List.set_cons_zero, List.set_cons_succ]
      refine wpAnyH_ready (rs := [4, 7]) (by kernel_rfl) (by simp) ?_
      refine rc (h := fun K hK => ?_) (r := ?_)
      · refine wp_bstr rfl rfl (by first | exact hn5 | exact hn5.newB hb) ⟨hk0, hk1⟩ ?_
        refine hK.out _ _ hH (fun hH => ?_)
        clear hK K
        try simp only [Act.put, sa, List.set_cons_zero, List.set_cons_succ]
        refine wpAnyH_ready (rs := [7]) (by kernel_rfl) (by simp) ?_
        refine rc (h := fun K hK => ?_) (r := AllReadyH.nil)
        go_simp
        refine (HF.out _).mono ?_
        rintro r wq ⟨rfl, hb⟩
        have hbs := hb.size
        try simp only [World.size_alloc, World.size_setCell, World.size_drew, size_setRow] at hbs
        go_wp2_with fail
        refine hK.out _ _ (hH.trans (hb.mono (Nat.le_trans (Nat.le_of_eq HNN.out.symm) hH.size))) (fun hH => ?_)
        clear hK K
        try simp only [Act.put, sa, List.set_cons_zero, List.set_cons_succ]
        refine tk 8 hH (y := yp) (k := ?_)
        refine tk 11 hH (v := .string (strOfNums [k] ++ F ++ d)) (y := (.inl ⟨by rfl, fun w hS => by (go_simp; try omega)⟩)) (k := ?_)
        refine tk 12 hH (y := yp) (k := ?_)
        refine tk 13 hH (y := yp) (k := ?_)
        refine wpAnyH_done (by kernel_rfl) ?_ _
        go_wp2_with fail
        go_ret2
        exact ⟨_, _, rfl, by rw [HN.out]; simp [ByteArray.size_append, h4, h1b], by (try rw [hB]); exact hfar.trans (hH.mono (by omega))⟩
      refine rc (h := fun K hK => ?_) (r := AllReadyH.nil)
      go_simp
      refine (HF.out _).mono ?_
      rintro r wq ⟨rfl, hb⟩
      have hbs := hb.size
      try simp only [World.size_alloc, World.size_setCell, World.size_drew, size_setRow] at hbs
      go_wp2_with fail
      refine hK.out _ _ (hH.trans (hb.mono (Nat.le_trans (Nat.le_of_eq HNN.out.symm) hH.size))) (fun hH => ?_)
      clear hK K
      try simp only [Act.put, sa, List.set_cons_zero, List.set_cons_succ]
      refine wpAnyH_ready (rs := [4]) (by kernel_rfl) (by simp) ?_
      refine rc (h := fun K hK => ?_) (r := AllReadyH.nil)
      refine wp_bstr rfl rfl (by first | exact hn5 | exact hn5.newB hb) ⟨hk0, hk1⟩ ?_
      refine hK.out _ _ hH (fun hH => ?_)
      clear hK K
      try simp only [Act.put, sa, List.set_cons_zero, List.set_cons_succ]
      refine tk 8 hH (y := yp) (k := ?_)
      refine tk 11 hH (v := .string (strOfNums [k] ++ F ++ d)) (y := (.inl ⟨by rfl, fun w hS => by (go_simp; try omega)⟩)) (k := ?_)
      refine tk 12 hH (y := yp) (k := ?_)
      refine tk 13 hH (y := yp) (k := ?_)
      refine wpAnyH_done (by kernel_rfl) ?_ _
      go_wp2_with fail
      go_ret2
      exact ⟨_, _, rfl, by rw [HN.out]; simp [ByteArray.size_append, h4, h1b], by (try rw [hB]); exact hfar.trans (hH.mono (by omega))⟩
    refine rc (h := fun K hK => ?_) (r := AllReadyH.nil)
    go_simp
    refine (HF.out _).mono ?_
    rintro r wq ⟨rfl, hb⟩
    have hbs := hb.size
    try simp only [World.size_alloc, World.size_setCell, World.size_drew, size_setRow] at hbs
    go_wp2_with fail
    refine hK.out _ _ (hH.trans (hb.mono (Nat.le_trans (Nat.le_of_eq HNN.out.symm) hH.size))) (fun hH => ?_)
    clear hK K
    try simp only [Act.put, sa, List.set_cons_zero, List.set_cons_succ]
    refine wpAnyH_ready (rs := [3]) (by kernel_rfl) (by simp) ?_
    refine rc (h := fun K hK => ?_) (r := AllReadyH.nil)
    refine wp_bs1v 66 rfl rfl rfl Tryz.underlying66 el_u8 (fun g5 w5 hg5 hn5 hb5 hs5 => ?_)
    clear hg5
    refine hK.out _ _ (hH.trans (hb5.mono (Nat.le_trans (Nat.le_of_eq HNN.out.symm) hH.size))) (fun hH => ?_)
    clear hK K
    try simp only [Act.put, sa, List.set_cons_zero, List.set_cons_succ]
    refine wpAnyH_ready (rs := [4]) (by kernel_rfl) (by simp) ?_
    refine rc (h := fun K hK => ?_) (r := AllReadyH.nil)
    refine wp_bstr rfl rfl (by first | exact hn5 | exact hn5.newB hb) ⟨hk0, hk1⟩ ?_
    refine hK.out _ _ hH (fun hH => ?_)
    clear hK K
    try simp only [Act.put, sa, List.set_cons_zero, List.set_cons_succ]
    refine tk 8 hH (y := yp) (k := ?_)
    refine tk 11 hH (v := .string (strOfNums [k] ++ F ++ d)) (y := (.inl ⟨by rfl, fun w hS => by (go_simp; try omega)⟩)) (k := ?_)
    refine tk 12 hH (y := yp) (k := ?_)
    refine tk 13 hH (y := yp) (k := ?_)
    refine wpAnyH_done (by kernel_rfl) ?_ _
    go_wp2_with fail
    go_ret2
    exact ⟨_, _, rfl, by rw [HN.out]; simp [ByteArray.size_append, h4, h1b], by (try rw [hB]); exact hfar.trans (hH.mono (by omega))⟩
/-- An append of one entry. -/
theorem wp_ape {op : Oper} {a : Act} {w : World} {K : Act → World → Prop} {Q : Exit → Act → World → Prop} {s x : Operand} {ts : Array TypeId}
    (ho : op.op = .call { callee := .builtin .append, args := #[s, x], argTypes := ts }) (hts : ts = #[57, 57])
    {g : Nat} {v : Value} {l : List Ent} (hv : a.eval s = v) (hown : w.ownsRow (g + 1) 92 3 v l.length (flE l)) (hl : l.length ≤ 1000) {e : Ent} {b : Nat} (hx : a.eval x = .slice (some ⟨b, 0, none⟩) 1 1) (hb : Blk w b (entV e) 92) (hg : g < w.heap.size)
    (h : ∀ v' w', w'.ownsRow (g + 1) 92 3 v' (l ++ [e]).length (flE (l ++ [e])) → w.grownBy w' v.ownBlock → (∀ k, v'.ownBlock = some k → v.ownBlock = some k ∨ w.heap.size ≤ k) → K (a.put op.dst v') w') : op.wp Tryz.prog a w K Q := by
  subst hts
  obtain ⟨i, hi, hz0, hz1, hz2⟩ := info_parts info_Entry
  obtain ⟨v', w', hr, h2, h3, _, h5⟩ := run_append_own_at (P := Tryz.prog) w (g + 1) 57 op.type 92 i (.agg #[.int .i64 0, .int .u32 0, .string ⟨#[]⟩]) 3 32 Tryz.underlying57 hi hz0 hz1 hz2 rfl (by omega) v l.length (flE l) hown ⟨b, 0, none⟩ 1 1 (entV e).toList rfl
    (fun j u hu => by rw [Addr.add_mid, hb.cell, Nat.zero_add]; simpa using hu) (fun u hu => by
      simp only [List.mem_cons, List.not_mem_nil, or_false] at hu
      rcases hu with rfl | rfl | rfl <;> rfl) (by unfold maxLen; omega) (by omega) (by omega)
  unfold Oper.wp execOp
  simp only [ho, resolve, invoke, builtin, Sem.run_bind, Sem.run_pure, Result.andThen_ok, List.map_toArray, List.map_cons, List.map_nil, hv, hx, hr]
  refine h v' w' ?_ h3 (fun k hk => ?_)
  · have e1 : flE (l ++ [e]) = flE l ++ (entV e).toList := by show (l ++ [e]).flatMap _ = _; rw [List.flatMap_append]; rfl
    rw [e1, List.length_append]; exact h2
  · rcases h5 with h5 | h5
    · exact .inl (h5.symm.trans hk)
    · rw [h5] at hk; cases hk; exact .inr (Nat.le_refl _)
set_option maxRecDepth 100000 in
set_option maxHeartbeats 8000000 in
theorem add_any {w : World} {g : Nat} {M : Mst} {v : Value} (h : MB w g M v) {k n : Nat} (hO : M.Ok k n) (hn : n ≤ 900) (hW : BandsW w) {x : Ent} (hx0 : 0 ≤ x.stamp) (hx1 : x.stamp ≤ 4294967295) :
    Calls Tryz.prog 74 #[.pointer (some ⟨g, 0, none⟩), .agg (entV x)] w (RetE w g v (addM M x)) := by
  have hBW : Blk w 0 bandC 164 := hW
  have hla := fun w => ELay_any x hx0 hx1 w
  have hrl := rec_le x
  have hnl := need_le (e := x) M.next
  have hpg := hO.pages
  have hnx := hO.next
  have hfu := hO.fuse
  have hel := hO.ents
  have hnd := fun w => Need_any M.next (recN x) (by omega) (by omega) w
  have hst := fun w hW => Step_any M.st hO.st_len x w hW
  have LS := Len.mk (stepS_len hO.st_len x)
  have hA : addM M x = addM M x := rfl
  conv at hA => rhs; unfold addM
  obtain ⟨R, hR⟩ : ∃ R, addM M x = R := ⟨_, rfl⟩
  rw [hR] at hA ⊢
  obtain ⟨q, hq⟩ : ∃ q, needE M.next (recN x) = q := ⟨_, rfl⟩
  obtain ⟨m, hm⟩ : ∃ m, recN x = m := ⟨_, rfl⟩
  obtain ⟨S, hS⟩ : ∃ S, stepS M.st x = S := ⟨_, rfl⟩
  obtain ⟨O, hO2⟩ : ∃ O, stepO M.st x = O := ⟨_, rfl⟩
  simp only [hq, hS] at hA hnl hnd
  simp only [hm] at hla hnd
  simp only [hS, hO2] at hst LS
  have HA := Lib.hid hA
  have HLA := Lib.hid hla
  have HND := Lib.hid hnd
  have HST := Lib.hid hst
  have hg := h.lt
  have hg0 := mb_bands h hW
  have hvo := h.olt
  have HVO := Lib.hid hvo
  clear hA hla hnd hst hR hq hm hS hO2 hW hvo
  obtain ⟨B, hB⟩ : ∃ B, w.heap.size = B := ⟨_, rfl⟩
  have hfar := Kept.refl (fun k => k = g ∨ v.ownBlock = some k) w
  have hsz : B ≤ w.heap.size := by omega
  rw [hB] at hg
  go_enter Tryz.func74, Tryz.ntmps74
  go_upto_region 1 with (fail)
  refine wp_gen (fun W => Blk W (0) (bandC) 164 ∧ MB W (g) (M) (v) ∧ Blk W (B) (entV x) 92 ∧ Kept (fun k => k = g ∨ v.ownBlock = some k) w W ∧ B + 1 ≤ W.heap.size) ⟨bk_, mb_, bk_, kq_, sz_⟩ ?_
  clear hBW h hfar hsz
  rintro w1 ⟨hBW, h, hE, hfar, hsz⟩
  go_wp2_with (first | (refine st 92 rfl (by rfl) w_Entry rfl rfl bk_ zz_ zz_ one_ ?_) | (refine ld 92 rfl (by rfl) w_Entry rfl bk_ zz_ ?_) | (refine bd 29 rfl (by rfl) rfl state_zs ?_) | (refine bd 26 rfl (by rfl) rfl block_zs ?_) | (refine ld 29 rfl (by rfl) w_State rfl bk_ lz_ ?_) | (refine ld 26 rfl (by rfl) w_Block rfl bk_ lz_ ?_) | (refine ldp 26 rfl (by rfl) w_Block rfl bk_ ln_ (by omega) ?_) | (refine ld 27 rfl (by rfl) w_Four rfl bk_ lz_ ?_) | (refine ldp 27 rfl (by rfl) w_Four rfl bk_ ln_ (by omega) ?_) | (refine st 29 rfl (by rfl) w_State rfl rfl bk_ lz_ lz_ one_ ?_) | (refine st 26 rfl (by rfl) w_Block rfl rfl bk_ lz_ lz_ one_ ?_) | (refine st 27 rfl (by rfl) w_Four rfl rfl bk_ lz_ lz_ one_ ?_))
  refine (HLA.out _).mono ?_
  rintro e w2 ⟨s, er, rfl, hs, hb2⟩
  replace hBW := hBW.newB hb2
  replace h := h.newB hb2
  replace hE := hE.newB hb2
  replace hfar := hfar.thenBelow hb2
  replace hsz := Nat.le_trans hsz hb2.size
  obtain ⟨⟨_, _, _, c3, c4, c5⟩, c99, c100, _, _, _, c104⟩ := h.cells
  go_wp2_with fail
  refine (HND.out _).mono ?_
  rintro e w3 ⟨rfl, rfl⟩
  clear hs
  cases hf : M.fro with
  | true =>
    rw [hf] at c100
    obtain rfl : R = (M, 8) := by rw [HA.out, if_pos hf]
    go_wp2_with fail
    go_ret
    exact ⟨v, rfl, h, ⟨hfar, fun _ hk => .inl hk⟩⟩
  | false =>
    rw [hf] at c100
    by_cases hfull : M.pages < M.next + q
    · obtain rfl : R = (iceM M, 5) := by rw [HA.out, if_neg (by rw [hf]; decide), if_pos hfull]
      have hgt : (M.pages : Int) - M.next < q := by omega
      go_upto_region 5 with (fail)
      go_quiet (fail)
      go_upto_region 6 with (fail)
      refine wp_gen (fun W => Blk W 0 bandC 164 ∧ MB W g M v ∧ Blk W B (entV x) 92 ∧ Kept (fun k => k = g ∨ v.ownBlock = some k) w W ∧ B + 1 ≤ W.heap.size) ⟨hBW.drewN _, h.drewN _, hE.drewN _, hfar.drewN _, hsz⟩ ?_
      clear hBW h hE hfar hsz
      rintro w4 ⟨hBW, h, hE, hfar, hsz⟩
      clear c3 c4 c5 c99 c100 c104
      obtain ⟨⟨_, _, _, c3, c4, c5⟩, c99, c100, _, _, _, c104⟩ := h.cells
      go_wp2_with fail
      refine (freeze_any h 5).mono ?_
      rintro e w5 ⟨v5, rfl, h5, ht5⟩
      go_wp2_with fail
      go_ret
      exact ⟨v5, rfl, h5, Trn.trans ⟨hfar, fun _ hk => .inl hk⟩ ht5⟩
    · have hgt : ¬ (M.pages : Int) - M.next < q := by omega
      by_cases hcf : 0 ≤ M.fuse ∧ M.fuse < q
      · obtain rfl : R = (iceM { M with fuse := 0 }, 6) := by rw [HA.out, if_neg (by rw [hf]; decide), if_neg hfull, if_pos hcf]
        obtain ⟨hcf1, hcf2⟩ := hcf
        go_upto_region 5 with (fail)
        go_quiet (fail)
        go_upto_region 7 with (fail)
        refine wp_gen (fun W => Blk W 0 bandC 164 ∧ MB W g M v ∧ Blk W B (entV x) 92 ∧ Kept (fun k => k = g ∨ v.ownBlock = some k) w W ∧ B + 1 ≤ W.heap.size) ⟨hBW.drewN _, h.drewN _, hE.drewN _, hfar.drewN _, hsz⟩ ?_
        clear hBW h hE hfar hsz
        rintro w4 ⟨hBW, h, hE, hfar, hsz⟩
        clear c3 c4 c5 c99 c100 c104
        obtain ⟨⟨_, _, _, c3, c4, c5⟩, c99, c100, _, _, _, c104⟩ := h.cells
        have f104 := h.frz 104
        go_wp2_with fail
        have h' := h.setFuse 0
        refine (freeze_any h' 6).mono ?_
        rintro e w5 ⟨v5, rfl, h5, ht5⟩
        go_wp2_with fail
        go_ret
        exact ⟨v5, rfl, h5, Trn.trans ⟨hfar.setCell (.inl (.inl rfl)) _, fun _ hk => .inl hk⟩ ht5⟩
      · obtain ⟨F, hF⟩ : ∃ F, (if 0 ≤ M.fuse then M.fuse - q else M.fuse) = F := ⟨_, rfl⟩
        obtain rfl : R = ({ M with next := M.next + q, ents := M.ents ++ [x], st := S, fuse := F }, 0) := by rw [HA.out, if_neg (by rw [hf]; decide), if_neg hfull, if_neg hcf, hF]
        have HF := Lib.hid hF
        have HCF := Lib.hid hcf
        clear hF hcf HA
        go_upto_region 5 with (fail)
        go_quiet (fail)
        go_upto_region 7 with (fail)
        refine wp_gen (fun W => Blk W 0 bandC 164 ∧ MB W g M v ∧ Blk W B (entV x) 92 ∧ Kept (fun k => k = g ∨ v.ownBlock = some k) w W ∧ B + 1 ≤ W.heap.size) ⟨hBW.drewN _, h.drewN _, hE.drewN _, hfar.drewN _, hsz⟩ ?_
        clear hBW h hE hfar hsz
        rintro w4 ⟨hBW, h, hE, hfar, hsz⟩
        clear c3 c4 c5 c99 c100 c104
        obtain ⟨⟨_, _, _, c3, c4, c5⟩, c99, c100, _, _, _, c104⟩ := h.cells
        go_cut [39] from 40 to 57 (fun s39 wx => s39 = .bool false ∧ wx = w4)
        case first =>
          by_cases hfp : 0 ≤ M.fuse
          · have hfl : ¬ M.fuse < q := fun e => HCF.out ⟨hfp, e⟩
            go_wp2_with fail
            go_meet
            case rel => exact ⟨rfl, rfl⟩
          · go_wp2_with fail
            go_meet
            case rel => exact ⟨rfl, rfl⟩
        case rest =>
          obtain ⟨rfl, rfl⟩ := hcut
          have f104 := h.frz 104
          go_upto_if 62 with (fail)
          go_cut [] from 63 to 70 (fun wx => Blk wx 0 bandC 164 ∧ MB wx g { M with fuse := F } v ∧ Blk wx B (entV x) 92 ∧ Kept (fun k => k = g ∨ v.ownBlock = some k) w wx ∧ B + 1 ≤ wx.heap.size)
          case first =>
            by_cases hfp : 0 ≤ M.fuse
            · obtain rfl : F = M.fuse - q := by rw [← HF.out, if_pos hfp]
              go_wp2_with fail
              go_meet
              case rel => exact ⟨hBW.other (show 0 ≠ g by omega) _, h.setFuse _, hE.other (show B ≠ g by omega) _, hfar.setCell (.inl (.inl rfl)) _, by rw [World.size_setCell]; exact hsz⟩
            · obtain rfl : F = M.fuse := by rw [← HF.out, if_neg hfp]
              go_wp2_with fail
              go_meet
              case rel => exact ⟨hBW, h, hE, hfar, hsz⟩
          case rest =>
            clear hBW h hE hfar hsz c3 c4 c5 c99 c100 c104 f104
            obtain ⟨hBW, h, hE, hfar, hsz⟩ := hcut
            obtain ⟨⟨_, _, _, _, c4, _⟩, _⟩ := h.cells
            have f4 := h.frz 4
            go_upto_region 13 with (fail)
            have h' := h.setNext (x := (M.next : Int) + q) (n := M.next + q) (by omega)
            refine wp_gen (fun W => Blk W 0 bandC 164 ∧ MB W g { M with fuse := F, next := M.next + q } v ∧ Blk W B (entV x) 92 ∧ Kept (fun k => k = g ∨ v.ownBlock = some k) w W ∧ B + 1 ≤ W.heap.size) ⟨hBW.other (show 0 ≠ g by omega) _, h', hE.other (show B ≠ g by omega) _, hfar.setCell (.inl (.inl rfl)) _, by rw [World.size_setCell]; exact hsz⟩ ?_
            clear hBW h h' hE hfar hsz c4 f4
            rintro w5 ⟨hBW, h, hE, hfar, hsz⟩
            go_cut [] from 79 to 90 (fun wx => Blk wx 0 bandC 164 ∧ MB wx g { M with fuse := F, next := M.next + q, st := S } v ∧ Blk wx B (entV x) 92 ∧ Kept (fun k => k = g ∨ v.ownBlock = some k) w wx ∧ B + 1 ≤ wx.heap.size)
            case first =>
              refine wp_region_held_drew (S := fun W => Kept (· = g) w5 W) (by kernel_rfl) ((Kept.refl _ w5).drew) (fun hH => ?_)
              refine tk 0 hH (y := yp) (k := ?_)
              refine tk 1 hH (y := yp) (k := ?_)
              refine tk 2 hH (y := yp) (k := ?_)
              refine tk 3 hH (y := yp) (k := ?_)
              refine tk 5 hH (v := .agg (entV x)) (y := (yieldsIf_ld (by rfl) 92 rfl w_Entry rfl (fun _ hS => hE.keep hS (by omega)) rfl)) (k := ?_)
              refine wpAnyH_ready (rs := [4]) (by kernel_rfl) (by simp) ?_
              refine rc (h := fun K hK => ?_) (r := AllReadyH.nil)
              refine wp_ldr 29 rfl w_State rfl h.drew.atSt (by rw [arr_size]; exact h.l38) ?_
              refine hK.out _ _ hH (fun hH => ?_)
              clear hK K
              try simp only [Act.put, sa, List.set_cons_zero, List.set_cons_succ]
              refine wpAnyH_ready (rs := [6]) (by kernel_rfl) (by simp) ?_
              refine rc (h := fun K hK => ?_) (r := AllReadyH.nil)
              go_simp
              refine (HST.out _ hBW.drew).mono ?_
              rintro r wq ⟨vq, rfl, hvq, hb⟩
              have hbs := hb.size
              try simp only [World.size_alloc, World.size_setCell, World.size_drew, size_setRow] at hbs
              have h9 := h.drew.newB hb
              have hBW9 := hBW.drew.newB hb
              have hE9 := hE.drew.newB hb
              have hfar9 := hfar.drew.thenBelow hb
              have hsz9 := Nat.le_trans hsz hb.size
              go_wp2_with fail
              refine hK.out _ _ (hH.thenBelow hb) (fun hH => ?_)
              clear hK K
              try simp only [Act.put, sa, List.set_cons_zero, List.set_cons_succ]
              refine tk 7 hH (y := yp) (k := ?_)
              refine tk 8 hH (y := yp) (k := ?_)
              refine tk 9 hH (y := yp) (k := ?_)
              refine tk 10 hH (y := yp) (k := ?_)
              refine tk 11 hH (y := yp) (k := ?_)
              refine wpAnyH_ready (rs := [12]) (by kernel_rfl) (by simp) ?_
              refine rc (h := fun K hK => ?_) (r := AllReadyH.nil)
              refine wp_stm 29 rfl w_State rfl rfl h9.blk (by rw [h9.size]; omega) LS.sz one_ ?_
              refine hK.out _ _ (Kept.setCells _ _ hH (.inl rfl)) (fun hH => ?_)
              clear hK K
              try simp only [Act.put]
              refine wpAnyH_done (by kernel_rfl) ?_ _
              go_wp2_with fail
              go_meet
              case rel => exact ⟨hBW9.keep (Kept.setCells (S := fun k => k = g) _ _ (Kept.refl _ _) (.inl rfl)) (by omega), h9.setSt LS.out, hE9.keep (Kept.setCells (S := fun k => k = g) _ _ (Kept.refl _ _) (.inl rfl)) (by omega), Kept.setCells _ _ hfar9 (.inl (.inl rfl)), by rw [size_setCells]; exact hsz9⟩
            case rest =>
              clear hBW h hE hfar hsz
              obtain ⟨hBW, h, hE, hfar, hsz⟩ := hcut
              have hEB : ¬ (B = g ∨ v.ownBlock = some B) := fun e => by
                rcases e with e | e
                · omega
                · have := (HVO.out B e).2; omega
              have HEB := Lib.hid hEB
              clear hEB
              obtain ⟨C, hC⟩ : ∃ C, wc.heap.size = C := ⟨_, rfl⟩
              obtain ⟨ln, hln⟩ : ∃ l, (M.ents ++ [x]).length = l := ⟨_, rfl⟩
              have HLN := Lib.hid hln
              clear hln
              go_upto_region 14 with (fail)
              refine wp_region_held_drew (S := fun W => Kept (fun k => k = g ∨ v.ownBlock = some k) wc W) (by kernel_rfl) ((Kept.refl _ wc).drew) (fun hH => ?_)
              refine tk 0 hH (y := yp) (k := ?_)
              refine tk 1 hH (y := yp) (k := ?_)
              refine tk 2 hH (y := yp) (k := ?_)
              refine tk 3 hH (y := yp) (k := ?_)
              refine tk 5 hH (v := .agg (entV x)) (y := (yieldsIf_ld (by rfl) 92 rfl w_Entry rfl (fun _ hS => hE.keep hS HEB.out) rfl)) (k := ?_)
              refine wpAnyH_ready (rs := [4, 6]) (by kernel_rfl) (by simp) ?_
              refine rc (h := fun K hK => ?_) (r := ?_)
              · (try have c5 := (h.drew.newB hb5).cells.1.2.2.2.2.2)
                (try have c5 := h.drew.cells.1.2.2.2.2.2)
                go_simp
                refine hK.out _ _ hH (fun hH => ?_)
                clear hK K
                try simp only [Act.put, sa, List.set_cons_zero, List.set_cons_succ]
                refine wpAnyH_ready (rs := [6]) (by kernel_rfl) (by simp) ?_
                refine rc (h := fun K hK => ?_) (r := AllReadyH.nil)
                refine wp_bs1b 57 rfl rfl Tryz.underlying57 el_Entry (by omega) (by omega) rfl (fun g5 w5 hg5 hn5 hb5 hs5 => ?_)
                clear hg5
                refine hK.out _ _ (hH.thenBelow hb5) (fun hH => ?_)
                clear hK K
                try simp only [Act.put, sa, List.set_cons_zero, List.set_cons_succ]
                refine wpAnyH_ready (rs := [7]) (by kernel_rfl) (by simp) ?_
                refine rc (h := fun K hK => ?_) (r := AllReadyH.nil)
                refine wp_ape (l := M.ents) (e := x) rfl rfl rfl (h.drew.newB hb5).own (by omega) rfl hn5 (h.drew.newB hb5).lt (fun v6 w6 hown6 hgr6 hrow6 => ?_)
                rw [HLN.out] at hown6
                obtain ⟨p6, c6, rfl, hs6⟩ := SL.own hown6
                have h6b := (h.drew.newB hb5).blk.kept hgr6 (fun e => by have := (HVO.out _ e.symm).1; omega)
                have d5 := h6b.cell 5
                have f5 := h6b.frozen 5
                have hs5' := hb5.size
                try simp only [World.size_drew] at hs5'
                refine hK.out _ _ (hH.grown hgr6 (fun k hk => .inl (.inr hk))) (fun hH => ?_)
                clear hK K
                try simp only [Act.put, sa, List.set_cons_zero, List.set_cons_succ]
                refine tk 8 hH (y := yp) (k := ?_)
                refine tk 9 hH (y := yp) (k := ?_)
                refine wpAnyH_ready (rs := [10]) (by kernel_rfl) (by simp) ?_
                refine rc (h := fun K hK => ?_) (r := AllReadyH.nil)
                go_simp
                refine hK.out _ _ (hH.setCell (.inl (.inl rfl)) _) (fun hH => ?_)
                clear hK K
                try simp only [Act.put]
                refine wpAnyH_done (by kernel_rfl) ?_ _
                go_wp2_with fail
                go_ret
                exact ⟨_, rfl, by
                  have e := MB.setEnts h6b h.l38 h.l55 (xs := M.ents ++ [x]) (by rw [HLN.out]; exact hown6)
                  dsimp only at e
                  rw [hf] at e
                  exact e, ⟨hfar.trans hH, fun k hk => by
                  rcases hrow6 k hk with e | e
                  · exact .inl e
                  · exact .inr (by omega)⟩⟩
              refine rc (h := fun K hK => ?_) (r := AllReadyH.nil)
              refine wp_bs1b 57 rfl rfl Tryz.underlying57 el_Entry (by omega) (by omega) rfl (fun g5 w5 hg5 hn5 hb5 hs5 => ?_)
              clear hg5
              refine hK.out _ _ (hH.thenBelow hb5) (fun hH => ?_)
              clear hK K
              try simp only [Act.put, sa, List.set_cons_zero, List.set_cons_succ]
              refine wpAnyH_ready (rs := [4]) (by kernel_rfl) (by simp) ?_
              refine rc (h := fun K hK => ?_) (r := AllReadyH.nil)
              (try have c5 := (h.drew.newB hb5).cells.1.2.2.2.2.2)
              (try have c5 := h.drew.cells.1.2.2.2.2.2)
              go_simp
              refine hK.out _ _ hH (fun hH => ?_)
              clear hK K
              try simp only [Act.put, sa, List.set_cons_zero, List.set_cons_succ]
              refine wpAnyH_ready (rs := [7]) (by kernel_rfl) (by simp) ?_
              refine rc (h := fun K hK => ?_) (r := AllReadyH.nil)
              refine wp_ape (l := M.ents) (e := x) rfl rfl rfl (h.drew.newB hb5).own (by omega) rfl hn5 (h.drew.newB hb5).lt (fun v6 w6 hown6 hgr6 hrow6 => ?_)
              rw [HLN.out] at hown6
              obtain ⟨p6, c6, rfl, hs6⟩ := SL.own hown6
              have h6b := (h.drew.newB hb5).blk.kept hgr6 (fun e => by have := (HVO.out _ e.symm).1; omega)
              have d5 := h6b.cell 5
              have f5 := h6b.frozen 5
              have hs5' := hb5.size
              try simp only [World.size_drew] at hs5'
              refine hK.out _ _ (hH.grown hgr6 (fun k hk => .inl (.inr hk))) (fun hH => ?_)
              clear hK K
              try simp only [Act.put, sa, List.set_cons_zero, List.set_cons_succ]
              refine tk 8 hH (y := yp) (k := ?_)
              refine tk 9 hH (y := yp) (k := ?_)
              refine wpAnyH_ready (rs := [10]) (by kernel_rfl) (by simp) ?_
              refine rc (h := fun K hK => ?_) (r := AllReadyH.nil)
              go_simp
              refine hK.out _ _ (hH.setCell (.inl (.inl rfl)) _) (fun hH => ?_)
              clear hK K
              try simp only [Act.put]
              refine wpAnyH_done (by kernel_rfl) ?_ _
              go_wp2_with fail
              go_ret
              exact ⟨_, rfl, by
                have e := MB.setEnts h6b h.l38 h.l55 (xs := M.ents ++ [x]) (by rw [HLN.out]; exact hown6)
                dsimp only at e
                rw [hf] at e
                exact e, ⟨hfar.trans hH, fun k hk => by
                rcases hrow6 k hk with e | e
                · exact .inl e
                · exact .inr (by omega)⟩⟩
end Go.Proofs.YtkoljgmapclhkaaGreatDoor
