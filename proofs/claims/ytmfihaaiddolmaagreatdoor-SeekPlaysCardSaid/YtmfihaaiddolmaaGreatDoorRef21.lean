/- The walks of the document's Fold and Truths (spoolref21). -/
import Derived.Test.YtmfihaaiddolmaaGreatDoorRef20
import Derived.Test.YtmfihaaiddolmaaGreatDoorRef14
import Derived.Test.YtmfihaaiddolmaaGreatDoorRef12b
import Derived.Test.YtmfihaaiddolmaaGreatDoorLot14
import Derived.Test.YtmfihaaiddolmaaGreatDoorSpecBack2
import Derived.Deep.Slices
set_option linter.unusedSimpArgs false
set_option linter.unusedVariables false
namespace Go.Proofs.YtmfihaaiddolmaaGreatDoor
open Go.RowKit

theorem el_Sixteen : ElemT 22 16 := ⟨fun _ => by kernel_rfl, .agg #[.int .i64 0, .int .i64 0, .int .i64 0, .int .i64 0, .int .i64 0, .int .i64 0, .int .i64 0, .int .i64 0, .int .i64 0, .int .i64 0, .int .i64 0, .int .i64 0, .int .i64 0, .int .i64 0, .int .i64 0, .int .i64 0], fun _ => by kernel_rfl, by kernel_rfl⟩
theorem info_Sixteen : (Tryz.prog.info? 22).map (fun i => (i.zero, i.size, i.bytes)) = some (some (.agg #[.int .i64 0, .int .i64 0, .int .i64 0, .int .i64 0, .int .i64 0, .int .i64 0, .int .i64 0, .int .i64 0, .int .i64 0, .int .i64 0, .int .i64 0, .int .i64 0, .int .i64 0, .int .i64 0, .int .i64 0, .int .i64 0]), 16, 128) := by kernel_rfl
def RetRS (w : World) (l : List (List Int)) (L : List Int) (e : Ending) (w' : World) : Prop :=
  ∃ v, e = .returned (.tuple #[v, .agg (arrV L)]) ∧ w'.ownsRow w.heap.size 22 16 v l.length (l.flatMap intsV) ∧ Below w.heap.size w w'
theorem EntIn.take {W : World} {p : Option Addr} {cap : Nat} {l : List Ent} (h : EntIn W p cap l) (k : Nat) : EntIn W p cap (l.take k) := by
  obtain ⟨h1, h2, h3⟩ := h
  refine ⟨by rw [List.length_take]; omega, h2, fun i e he => ?_⟩
  have hi := (List.getElem?_eq_some_iff.1 he).1
  rw [List.length_take] at hi
  rw [List.getElem?_take, if_pos (by omega)] at he
  exact h3 i e he
theorem EntIn.drop {W : World} {p : Option Addr} {cap : Nat} {l : List Ent} (h : EntIn W p cap l) {k : Nat} (hk : k ≤ l.length) : EntIn W (if cap = k then p else p.map (·.add (k * 3))) (cap - k) (l.drop k) := by
  obtain ⟨h1, h2, h3⟩ := h
  refine ⟨by rw [List.length_drop]; omega, by omega, fun i e he => ?_⟩
  have hi := (List.getElem?_eq_some_iff.1 he).1
  rw [List.length_drop] at hi
  rw [List.getElem?_drop] at he
  obtain ⟨a, hp, hb, c0, c1, c2, ho⟩ := h3 (k + i) e he
  refine ⟨a.add (k * 3), by rw [if_neg (by omega), hp]; rfl, by rw [addr_block]; exact hb, ?_⟩
  rw [Go.Deep.add_add, show k * 3 + i * 3 = (k + i) * 3 by omega]
  exact ⟨c0, c1, c2, ho⟩
theorem foldO_snoc (L : List Int) (l : List Ent) {k : Nat} {e : Ent} (h : l[k]? = some e) : foldO L (l.take (k + 1)) = foldO L (l.take k) ++ stepO (foldS L (l.take k)) e := by
  rw [List.take_add_one, h, Option.toList_some, foldO_app]
  congr 1
  simp [foldO]
theorem foldS_snoc (L : List Int) (l : List Ent) {k : Nat} {e : Ent} (h : l[k]? = some e) : foldS L (l.take (k + 1)) = stepS (foldS L (l.take k)) e := by
  rw [List.take_add_one, h, Option.toList_some, foldS_app]
  rfl
theorem ow_wide {W : World} {base hi size n : Nat} {e : TypeId} {v : Value} {xs : List Value} (h : OW W base hi e size v n xs) : OW W base W.heap.size e size v n xs := ⟨h.1, fun k hk => Nat.lt_of_lt_of_le (h.2.1 k hk) h.2.2, Nat.le_refl _⟩
theorem arr_each (l : List Int) : ∀ u ∈ (arrV l).toList, u.oneCell' = true := by
  intro u hu
  have : u ∈ intsV l := by simpa using hu
  obtain ⟨x, _, rfl⟩ := List.mem_map.1 this
  rfl
theorem flat_snoc (O : List (List Int)) (b : List Int) : O.flatMap intsV ++ (arrV b).toList = (O ++ [b]).flatMap intsV := by simp
theorem own_lower {W : World} {e : TypeId} {size n : Nat} {v : Value} {xs : List Value} {lo lo' : Nat} (h : W.ownsRow lo e size v n xs) (hl : lo' ≤ lo) : W.ownsRow lo' e size v n xs := by
  refine ⟨h.1, ?_⟩
  rcases h.2 with hn | ⟨g, cap, cur, rfl, hb, rest⟩
  · exact .inl hn
  · exact .inr ⟨g, cap, cur, rfl, Nat.le_trans hl hb, rest⟩
/-- Memory while the document folds. -/
structure FoldW (w wr : World) (B : Nat) (L : List Int) (v : Value) (O : List (List Int)) : Prop where
  s : Blk wr B (arrV L) 25
  r : Blk wr (B + 1) (arrV (zs 38)) 25
  o : OW wr (B + 2) wr.heap.size 22 16 v O.length (O.flatMap intsV)
  far : Below B w wr
  size : B + 2 ≤ wr.heap.size
set_option maxRecDepth 100000 in
set_option maxHeartbeats 8000000 in
theorem RFold_any (L : List Int) (hL : L.length = 38) (hr : rightS L = true) (l : List Ent) (hl : l.length ≤ 1000) (p : Option Addr) (cap : Nat) (w : World) (hE : EntIn w p cap l) :
    Calls Tryz.prog 20 #[.agg (arrV L), .slice p l.length cap] w (RetRS w (foldO L l) (foldS L l)) := by
  obtain ⟨i0, hi, hz0, hz1, hz2⟩ := info_parts info_Sixteen
  obtain ⟨n, hn⟩ : ∃ n, l.length = n := ⟨_, rfl⟩
  have HN := Lib.hid hn
  have hc1 := hE.1
  have hc2 := hE.2.1
  rw [hn] at hl hc1 ⊢
  obtain ⟨B, hB⟩ : ∃ B, w.heap.size = B := ⟨_, rfl⟩
  have HE := Lib.hid hE
  have hfar := Below.refl B w
  have hsz : B ≤ w.heap.size := by omega
  have LM := Len.mk (foldS_len hL l)
  obtain ⟨RS, hRS⟩ : ∃ x, foldS L l = x := ⟨_, rfl⟩
  rw [hRS] at LM ⊢
  have HRS := Lib.hid hRS
  have LRS := Lib.hid LM
  clear hE hn hRS LM
  go_enter Tryz.func20, Tryz.ntmps20
  go_upto_region 1 with (fail)
  refine wp_gen (fun W => Blk W (B) (arrV L) 25 ∧ Blk W (B + 1) (arrV (zs 38)) 25 ∧ Below (B) w W ∧ B + 2 ≤ W.heap.size) ⟨bk_, bk_, bl_, sz_⟩ ?_
  clear hfar hsz
  rintro w1 ⟨hS, hR, hfar, hsz⟩
  go_wp2_with fail
  go_loopw [6, 7] (fun v i wr => ∃ k : Nat, k ≤ n ∧ i = .int .i64 k ∧ FoldW w wr B (foldS L (l.take k)) v (foldO L (l.take k))) (fun _ i _ => n - (intOf i).toNat)
  case atStart => exact ⟨0, by omega, rfl, hS, hR, OW.nil _ _ _ _ _ (Nat.le_refl _), hfar, hsz⟩
  case round =>
    clear hS hR hfar hsz
    obtain ⟨k, hk, rfl, hS, hR, hO, hfar, hsz⟩ := hrel
    by_cases hlt : k < n
    · have hlti : (k : Int) < (n : Int) := by omega
      have hkl : k < l.length := by rw [HN.out]; exact hlt
      obtain ⟨e, he⟩ : ∃ e, l[k]? = some e := ⟨_, List.getElem?_eq_getElem hkl⟩
      have ho1 := foldO_snoc L l he
      have hs1 := foldS_snoc L l he
      have hSl := foldS_len hL (l.take k)
      have hSr := foldS_right hL hr (l.take k)
      have hol := foldO_le L (l.take k)
      rw [List.length_take] at hol
      obtain ⟨M, hM⟩ : ∃ M, foldS L (l.take k) = M := ⟨_, rfl⟩
      obtain ⟨O, hOe⟩ : ∃ O, foldO L (l.take k) = O := ⟨_, rfl⟩
      rw [hM, hOe] at ho1
      rw [hM] at hs1 hSl hSr hS
      rw [hOe] at hO hol
      have HO1 := Lib.hid ho1
      have HS1 := Lib.hid hs1
      have LM := Len.mk hSl
      have hent : ∀ W, Below B w W → ∃ a, p = some a ∧ a.block < W.heap.size ∧ W.cell? (a.add (k * 3)) = some (.int .i64 e.kind) ∧ W.cell? ⟨(a.add (k * 3)).block, (a.add (k * 3)).off + 1, none⟩ = some (.int .u32 e.stamp) ∧ W.cell? ⟨(a.add (k * 3)).block, (a.add (k * 3)).off + 2, none⟩ = some (.string e.data) ∧ EntOk e := fun W hW => (HE.out.below hB.symm hW).2.2 k e he
      obtain ⟨a, rfl, _⟩ := hent _ hfar
      have hent1 : ∀ W, Below B w W → W.cell? (a.add (k * 3)) = some (.int .i64 e.kind) ∧ W.cell? ⟨(a.add (k * 3)).block, (a.add (k * 3)).off + 1, none⟩ = some (.int .u32 e.stamp) ∧ W.cell? ⟨(a.add (k * 3)).block, (a.add (k * 3)).off + 2, none⟩ = some (.string e.data) := fun W hW => by
        obtain ⟨a', h1, _, c0, c1, c2, _⟩ := hent W hW
        cases h1; exact ⟨c0, c1, c2⟩
      have HENT := Lib.hid hent1
      have hre := fun w => RERight_any e w
      have hstO : stepO M e = if rightE e && rightS M then (if e.kind = 1 then [decO M e.data] else if e.kind = 2 then [loseO M] else []) else [] := rfl
      have hstS : stepS M e = if rightE e && rightS M then (if e.kind = 1 then decSt M e.data else if e.kind = 2 then List.replicate 38 0 else M) else M := rfl
      rw [hSr, Bool.and_true] at hstO hstS
      have hrE : rightE e = if e.kind = 1 then decide (10 ≤ e.data.size) && decide (e.data.size ≤ 32) else if e.kind = 2 then decide (e.data.size = 0) else if e.kind = 3 then readE e.data == 0 else false := rfl
      obtain ⟨R, hRe⟩ : ∃ R, rightE e = R := ⟨_, rfl⟩
      rw [hRe] at hstO hstS hrE
      simp only [hRe] at hre
      have HRE := Lib.hid hre
      have HSTO := Lib.hid hstO
      have HSTS := Lib.hid hstS
      have HRE2 := Lib.hid hrE
      obtain ⟨c0, c1, c2⟩ := hent1 _ hfar
      obtain ⟨ek, sp, s⟩ := e
      simp only at c0 c1 c2 HRE HSTO HSTS HRE2 HO1 HS1 HENT
      clear ho1 hs1 hSl hM hOe hent hent1 hre hstO hstS hrE hRe he hkl
      obtain ⟨H, hH⟩ : ∃ H, wr.heap.size = H := ⟨_, rfl⟩
      rw [hH] at hO
      have hHw : H ≤ wr.heap.size := by omega
      have hBH : B + 2 ≤ H := by omega
      clear hsz hH
      have hsz := hHw
      go_wp2_with fail
      refine (HRE.out _).mono ?_
      rintro e w2 ⟨rfl, hb2⟩
      replace hS := hS.newB hb2
      replace hR := hR.newB hb2
      replace hO := hO.newB hb2
      replace hfar := hfar.trans (hb2.mono (by omega))
      replace hsz := Nat.le_trans hsz hb2.size
      obtain ⟨c0, c1, c2⟩ := HENT.out _ hfar
      cases R with
      | false =>
        have eO : stepO M ⟨ek, sp, s⟩ = [] := HSTO.out
        have eS : stepS M ⟨ek, sp, s⟩ = M := HSTS.out
        rw [eO, List.append_nil] at HO1
        rw [eS] at HS1
        go_wp2_with fail
        go_roundw
        case rel => exact ⟨k + 1, hlt, by go_num, by rw [HS1.out]; exact hS, hR, by rw [HO1.out]; exact ow_wide hO, hfar, by omega⟩
        case measure => simp [intOf]; omega
      | true =>
        by_cases h3 : ek = 3
        · subst h3
          have eO : stepO M ⟨3, sp, s⟩ = [] := HSTO.out
          have eS : stepS M ⟨3, sp, s⟩ = M := HSTS.out
          rw [eO, List.append_nil] at HO1
          rw [eS] at HS1
          go_wp2_with fail
          go_roundw
          case rel => exact ⟨k + 1, hlt, by go_num, by rw [HS1.out]; exact hS, hR, by rw [HO1.out]; exact ow_wide hO, hfar, by omega⟩
          case measure => simp [intOf]; omega
        · have h3b : (ek == 3) = false := by simpa using h3
          by_cases h1 : ek = 1
          · subst h1
            have eO : stepO M ⟨1, sp, s⟩ = [decO M s] := HSTO.out
            have eS : stepS M ⟨1, sp, s⟩ = decSt M s := HSTS.out
            have hsz1 := HRE2.out
            rw [if_pos rfl] at hsz1
            have hss : 10 ≤ s.size ∧ s.size ≤ 32 := by simpa using hsz1.symm
            have hrd := fun w => RDecode_any M LM.out hSr s hss.1 hss.2 w
            obtain ⟨l1, l2⟩ := dec_lens M s
            rw [eO] at HO1
            rw [eS] at HS1
            obtain ⟨O1, hO1⟩ : ∃ x, decO M s = x := ⟨_, rfl⟩
            obtain ⟨S1, hS1⟩ : ∃ x, decSt M s = x := ⟨_, rfl⟩
            rw [hO1] at l1 HO1
            rw [hS1] at l2 HS1
            simp only [hO1, hS1] at hrd
            have LO1 := Len.mk l1
            have LS1 := Len.mk l2
            have HRD := Lib.hid hrd
            clear eO eS hsz1 hss hrd hO1 hS1 l1 l2
            go_upto_region 7 with (fail)
            go_cut [8, 9] from 38 to 47 (fun s8 s9 wx => ∃ a9 b9 : Nat, s8 = .pointer (some ⟨a9, 0, none⟩) ∧ s9 = .pointer (some ⟨b9, 0, none⟩) ∧ a9 ≠ b9 ∧ H ≤ a9 ∧ H ≤ b9 ∧ Blk wx B (arrV M) 25 ∧ Blk wx (B + 1) (arrV (zs 38)) 25 ∧ OW wx (B + 2) H 22 16 u6 O.length (O.flatMap intsV) ∧ Blk wx a9 (arrV O1) 22 ∧ Blk wx b9 (arrV S1) 25 ∧ Below B w wx ∧ H ≤ wx.heap.size)
            case first =>
              refine wp_region_held_drew (S := fun W => Blk W (B) (arrV M) 25 ∧ Blk W (B + 1) (arrV (zs 38)) 25 ∧ OW W (B + 2) (H) (22) (16) (u6) (O.length) (O.flatMap intsV) ∧ Below (B) w W ∧ H ≤ W.heap.size) (by kernel_rfl) (⟨hS.drew, hR.drew, hO.drew, hfar.drew, hsz⟩) (fun hH => ?_)
              have hH2 := hH
              obtain ⟨hS, hR, hO, hfar, hsz⟩ := hH2
              refine wpAnyH_take (i := 0) (oi := { dst := some 39, op := Op.load 25 (Operand.tmp 2), type := 25, pos := "ref.go:19", after := _, guard := none }) (v := .agg (arrV M)) rfl (by kernel_rfl) (by kernel_rfl) (by kernel_rfl) (fun _ _ _ h => h) (yieldsIf_ld (by rfl) 25 rfl w_RState rfl (fun _ hS => hS.1) zz_) hH ?_
              try simp only [Act.put, List.setIfInBounds_toArray, List.set_cons_zero, List.set_cons_succ]
              refine wpAnyH_take (i := 1) (oi := { dst := some 40, op := Op.move (Operand.tmp 1), type := 43, pos := "ref.go:19", after := _, guard := none }) (v := _) rfl (by kernel_rfl) (by kernel_rfl) (by kernel_rfl) (fun _ _ _ h => h) (.inl ⟨by rfl, fun w hS => by (go_simp; try rfl)⟩) hH ?_
              try simp only [Act.put, List.setIfInBounds_toArray, List.set_cons_zero, List.set_cons_succ]
              refine wpAnyH_take (i := 2) (oi := { dst := some 41, op := Op.move (Operand.tmp 7), type := 3, pos := "ref.go:19", after := _, guard := none }) (v := _) rfl (by kernel_rfl) (by kernel_rfl) (by kernel_rfl) (fun _ _ _ h => h) (.inl ⟨by rfl, fun w hS => by (go_simp; try rfl)⟩) hH ?_
              try simp only [Act.put, List.setIfInBounds_toArray, List.set_cons_zero, List.set_cons_succ]
              refine wpAnyH_take (i := 3) (oi := { dst := some 42, op := Op.indexAddr 43 (Operand.tmp 40) (Operand.tmp 41), type := 0, pos := "ref.go:19", after := _, guard := none }) (v := _) rfl (by kernel_rfl) (by kernel_rfl) (by kernel_rfl) (fun _ _ _ h => h) (.inl ⟨by rfl, fun w hS => by (go_simp; try rfl)⟩) hH ?_
              try simp only [Act.put, List.setIfInBounds_toArray, List.set_cons_zero, List.set_cons_succ]
              refine wpAnyH_take (i := 4) (oi := { dst := some 43, op := Op.fieldAddr 58 (Operand.tmp 42) 2, type := 0, pos := "ref.go:19", after := _, guard := none }) (v := _) rfl (by kernel_rfl) (by kernel_rfl) (by kernel_rfl) (fun _ _ _ h => h) (.inl ⟨by rfl, fun w hS => by (go_simp; try rfl)⟩) hH ?_
              try simp only [Act.put, List.setIfInBounds_toArray, List.set_cons_zero, List.set_cons_succ]
              refine wpAnyH_take (i := 5) (oi := { dst := some 44, op := Op.load 9 (Operand.tmp 43), type := 9, pos := "ref.go:19", after := _, guard := none }) (v := _) rfl (by kernel_rfl) (by kernel_rfl) (by kernel_rfl) (fun _ _ _ h => h) (.inl ⟨by rfl, fun w hS => by (have c := (HENT.out _ hS.2.2.2.1).2.2; go_simp; try rfl)⟩) hH ?_
              try simp only [Act.put, List.setIfInBounds_toArray, List.set_cons_zero, List.set_cons_succ]
              refine wpAnyH_ready (rs := [6, 10, 11]) (by kernel_rfl) (by simp) ?_
              refine AllReadyH.cons (o := { dst := some 45, op := Op.call { callee := Callee.value (Operand.func 12), args := #[Operand.tmp 39, Operand.tmp 44], argTypes := #[25, 9] }, type := 39, pos := "ref.go:19", after := _, guard := none }) rfl (fun K hK => ?_) ?_
              · rw [if_pos (by rfl)]
                go_simp
                refine (HRD.out _).mono ?_
                rintro r wq ⟨rfl, hb⟩
                have hbs := hb.size
                try simp only [World.size_alloc, World.size_setCell, World.size_drew, size_setRow] at hbs
                go_wp2_with fail
                refine hK.out _ _ ⟨bk_, bk_, ow_, bl_, Nat.le_trans (sz_) hb.size⟩ (fun hH2 => ?_)
                clear hH
                have hH := hH2
                obtain ⟨hS, hR, hO, hfar, hsz⟩ := hH2
                clear hK K
                try simp only [Act.put, List.setIfInBounds_toArray, List.set_cons_zero, List.set_cons_succ]
                refine wpAnyH_take (i := 7) (oi := { dst := some 38, op := Op.move (Operand.tmp 45), type := 39, pos := "ref.go:19", after := _, guard := none }) (v := _) rfl (by kernel_rfl) (by kernel_rfl) (by kernel_rfl) (fun _ _ _ h => h) (.inl ⟨by rfl, fun w hS => by (go_simp; try rfl)⟩) hH ?_
                try simp only [Act.put, List.setIfInBounds_toArray, List.set_cons_zero, List.set_cons_succ]
                refine wpAnyH_take (i := 8) (oi := { dst := some 46, op := Op.extract (Operand.tmp 38) 0, type := 22, pos := "ref.go:19", after := _, guard := none }) (v := _) rfl (by kernel_rfl) (by kernel_rfl) (by kernel_rfl) (fun _ _ _ h => h) (.inl ⟨by rfl, fun w hS => by (go_simp; try rfl)⟩) hH ?_
                try simp only [Act.put, List.setIfInBounds_toArray, List.set_cons_zero, List.set_cons_succ]
                refine wpAnyH_take (i := 9) (oi := { dst := some 47, op := Op.extract (Operand.tmp 38) 1, type := 25, pos := "ref.go:19", after := _, guard := none }) (v := _) rfl (by kernel_rfl) (by kernel_rfl) (by kernel_rfl) (fun _ _ _ h => h) (.inl ⟨by rfl, fun w hS => by (go_simp; try rfl)⟩) hH ?_
                try simp only [Act.put, List.setIfInBounds_toArray, List.set_cons_zero, List.set_cons_succ]
                refine wpAnyH_ready (rs := [10, 11]) (by kernel_rfl) (by simp) ?_
                refine AllReadyH.cons (o := { dst := some 8, op := Op.alloc 22, type := 0, pos := "ref.go:19", after := _, guard := none }) rfl (fun K hK => ?_) ?_
                · rw [if_pos (by rfl)]
                  go_simp
                  refine hK.out _ _ ⟨bk_, bk_, ow_, bl_, sz_⟩ (fun hH2 => ?_)
                  clear hH
                  have hH := hH2
                  obtain ⟨hS, hR, hO, hfar, hsz⟩ := hH2
                  clear hK K
                  try simp only [Act.put, List.setIfInBounds_toArray, List.set_cons_zero, List.set_cons_succ]
                  refine wpAnyH_ready (rs := [11]) (by kernel_rfl) (by simp) ?_
                  refine AllReadyH.cons (o := { dst := some 9, op := Op.alloc 25, type := 0, pos := "ref.go:19", after := _, guard := none }) rfl (fun K hK => ?_) AllReadyH.nil
                  rw [if_pos (by rfl)]
                  go_simp
                  refine hK.out _ _ ⟨bk_, bk_, ow_, bl_, sz_⟩ (fun hH2 => ?_)
                  clear hH
                  have hH := hH2
                  obtain ⟨hS, hR, hO, hfar, hsz⟩ := hH2
                  clear hK K
                  try simp only [Act.put, List.setIfInBounds_toArray, List.set_cons_zero, List.set_cons_succ]
                  refine wpAnyH_ready (rs := [12]) (by kernel_rfl) (by simp) ?_
                  refine AllReadyH.cons (o := { dst := none, op := Op.store 22 (Operand.tmp 8) (Operand.tmp 46), type := 0, pos := "ref.go:19", after := _, guard := none }) rfl (fun K hK => ?_) AllReadyH.nil
                  rw [if_pos (by rfl)]
                  refine wp_st 22 rfl w_Sixteen rfl rfl bk_ zz_ zz_ one_ ?_
                  refine hK.out _ _ ⟨bk_, bk_, ow_, bl_, sz_⟩ (fun hH2 => ?_)
                  clear hH
                  have hH := hH2
                  obtain ⟨hS, hR, hO, hfar, hsz⟩ := hH2
                  clear hK K
                  try simp only [Act.put]
                  refine wpAnyH_ready (rs := [13]) (by kernel_rfl) (by simp) ?_
                  refine AllReadyH.cons (o := { dst := none, op := Op.store 25 (Operand.tmp 9) (Operand.tmp 47), type := 0, pos := "ref.go:19", after := _, guard := none }) rfl (fun K hK => ?_) AllReadyH.nil
                  rw [if_pos (by rfl)]
                  refine wp_st 25 rfl w_RState rfl rfl bk_ zz_ zz_ one_ ?_
                  refine hK.out _ _ ⟨bk_, bk_, ow_, bl_, sz_⟩ (fun hH2 => ?_)
                  clear hH
                  have hH := hH2
                  obtain ⟨hS, hR, hO, hfar, hsz⟩ := hH2
                  clear hK K
                  try simp only [Act.put]
                  refine wpAnyH_done (by kernel_rfl) ?_ _
                  go_wp2_with fail
                  go_meet
                  case rel => exact ⟨_, _, rfl, rfl, by exact sz_, by exact sz_, by exact sz_, by exact bk_, by exact bk_, by exact ow_, by exact bk_, by exact bk_, by exact bl_, by exact sz_⟩
                refine AllReadyH.cons (o := { dst := some 9, op := Op.alloc 25, type := 0, pos := "ref.go:19", after := _, guard := none }) rfl (fun K hK => ?_) AllReadyH.nil
                rw [if_pos (by rfl)]
                go_simp
                refine hK.out _ _ ⟨bk_, bk_, ow_, bl_, sz_⟩ (fun hH2 => ?_)
                clear hH
                have hH := hH2
                obtain ⟨hS, hR, hO, hfar, hsz⟩ := hH2
                clear hK K
                try simp only [Act.put, List.setIfInBounds_toArray, List.set_cons_zero, List.set_cons_succ]
                refine wpAnyH_ready (rs := [10]) (by kernel_rfl) (by simp) ?_
                refine AllReadyH.cons (o := { dst := some 8, op := Op.alloc 22, type := 0, pos := "ref.go:19", after := _, guard := none }) rfl (fun K hK => ?_) AllReadyH.nil
                rw [if_pos (by rfl)]
                go_simp
                refine hK.out _ _ ⟨bk_, bk_, ow_, bl_, sz_⟩ (fun hH2 => ?_)
                clear hH
                have hH := hH2
                obtain ⟨hS, hR, hO, hfar, hsz⟩ := hH2
                clear hK K
                try simp only [Act.put, List.setIfInBounds_toArray, List.set_cons_zero, List.set_cons_succ]
                refine wpAnyH_ready (rs := [12]) (by kernel_rfl) (by simp) ?_
                refine AllReadyH.cons (o := { dst := none, op := Op.store 22 (Operand.tmp 8) (Operand.tmp 46), type := 0, pos := "ref.go:19", after := _, guard := none }) rfl (fun K hK => ?_) AllReadyH.nil
                rw [if_pos (by rfl)]
                refine wp_st 22 rfl w_Sixteen rfl rfl bk_ zz_ zz_ one_ ?_
                refine hK.out _ _ ⟨bk_, bk_, ow_, bl_, sz_⟩ (fun hH2 => ?_)
                clear hH
                have hH := hH2
                obtain ⟨hS, hR, hO, hfar, hsz⟩ := hH2
                clear hK K
                try simp only [Act.put]
                refine wpAnyH_ready (rs := [13]) (by kernel_rfl) (by simp) ?_
                refine AllReadyH.cons (o := { dst := none, op := Op.store 25 (Operand.tmp 9) (Operand.tmp 47), type := 0, pos := "ref.go:19", after := _, guard := none }) rfl (fun K hK => ?_) AllReadyH.nil
                rw [if_pos (by rfl)]
                refine wp_st 25 rfl w_RState rfl rfl bk_ zz_ zz_ one_ ?_
                refine hK.out _ _ ⟨bk_, bk_, ow_, bl_, sz_⟩ (fun hH2 => ?_)
                clear hH
                have hH := hH2
                obtain ⟨hS, hR, hO, hfar, hsz⟩ := hH2
                clear hK K
                try simp only [Act.put]
                refine wpAnyH_done (by kernel_rfl) ?_ _
                go_wp2_with fail
                go_meet
                case rel => exact ⟨_, _, rfl, rfl, by exact sz_, by exact sz_, by exact sz_, by exact bk_, by exact bk_, by exact ow_, by exact bk_, by exact bk_, by exact bl_, by exact sz_⟩
              refine AllReadyH.cons (o := { dst := some 8, op := Op.alloc 22, type := 0, pos := "ref.go:19", after := _, guard := none }) rfl (fun K hK => ?_) ?_
              · rw [if_pos (by rfl)]
                go_simp
                refine hK.out _ _ ⟨bk_, bk_, ow_, bl_, sz_⟩ (fun hH2 => ?_)
                clear hH
                have hH := hH2
                obtain ⟨hS, hR, hO, hfar, hsz⟩ := hH2
                clear hK K
                try simp only [Act.put, List.setIfInBounds_toArray, List.set_cons_zero, List.set_cons_succ]
                refine wpAnyH_ready (rs := [6, 11]) (by kernel_rfl) (by simp) ?_
                refine AllReadyH.cons (o := { dst := some 45, op := Op.call { callee := Callee.value (Operand.func 12), args := #[Operand.tmp 39, Operand.tmp 44], argTypes := #[25, 9] }, type := 39, pos := "ref.go:19", after := _, guard := none }) rfl (fun K hK => ?_) ?_
                · rw [if_pos (by rfl)]
                  go_simp
                  refine (HRD.out _).mono ?_
                  rintro r wq ⟨rfl, hb⟩
                  have hbs := hb.size
                  try simp only [World.size_alloc, World.size_setCell, World.size_drew, size_setRow] at hbs
                  go_wp2_with fail
                  refine hK.out _ _ ⟨bk_, bk_, ow_, bl_, Nat.le_trans (sz_) hb.size⟩ (fun hH2 => ?_)
                  clear hH
                  have hH := hH2
                  obtain ⟨hS, hR, hO, hfar, hsz⟩ := hH2
                  clear hK K
                  try simp only [Act.put, List.setIfInBounds_toArray, List.set_cons_zero, List.set_cons_succ]
                  refine wpAnyH_take (i := 7) (oi := { dst := some 38, op := Op.move (Operand.tmp 45), type := 39, pos := "ref.go:19", after := _, guard := none }) (v := _) rfl (by kernel_rfl) (by kernel_rfl) (by kernel_rfl) (fun _ _ _ h => h) (.inl ⟨by rfl, fun w hS => by (go_simp; try rfl)⟩) hH ?_
                  try simp only [Act.put, List.setIfInBounds_toArray, List.set_cons_zero, List.set_cons_succ]
                  refine wpAnyH_take (i := 8) (oi := { dst := some 46, op := Op.extract (Operand.tmp 38) 0, type := 22, pos := "ref.go:19", after := _, guard := none }) (v := _) rfl (by kernel_rfl) (by kernel_rfl) (by kernel_rfl) (fun _ _ _ h => h) (.inl ⟨by rfl, fun w hS => by (go_simp; try rfl)⟩) hH ?_
                  try simp only [Act.put, List.setIfInBounds_toArray, List.set_cons_zero, List.set_cons_succ]
                  refine wpAnyH_take (i := 9) (oi := { dst := some 47, op := Op.extract (Operand.tmp 38) 1, type := 25, pos := "ref.go:19", after := _, guard := none }) (v := _) rfl (by kernel_rfl) (by kernel_rfl) (by kernel_rfl) (fun _ _ _ h => h) (.inl ⟨by rfl, fun w hS => by (go_simp; try rfl)⟩) hH ?_
                  try simp only [Act.put, List.setIfInBounds_toArray, List.set_cons_zero, List.set_cons_succ]
                  refine wpAnyH_ready (rs := [11]) (by kernel_rfl) (by simp) ?_
                  refine AllReadyH.cons (o := { dst := some 9, op := Op.alloc 25, type := 0, pos := "ref.go:19", after := _, guard := none }) rfl (fun K hK => ?_) AllReadyH.nil
                  rw [if_pos (by rfl)]
                  go_simp
                  refine hK.out _ _ ⟨bk_, bk_, ow_, bl_, sz_⟩ (fun hH2 => ?_)
                  clear hH
                  have hH := hH2
                  obtain ⟨hS, hR, hO, hfar, hsz⟩ := hH2
                  clear hK K
                  try simp only [Act.put, List.setIfInBounds_toArray, List.set_cons_zero, List.set_cons_succ]
                  refine wpAnyH_ready (rs := [12]) (by kernel_rfl) (by simp) ?_
                  refine AllReadyH.cons (o := { dst := none, op := Op.store 22 (Operand.tmp 8) (Operand.tmp 46), type := 0, pos := "ref.go:19", after := _, guard := none }) rfl (fun K hK => ?_) AllReadyH.nil
                  rw [if_pos (by rfl)]
                  refine wp_st 22 rfl w_Sixteen rfl rfl bk_ zz_ zz_ one_ ?_
                  refine hK.out _ _ ⟨bk_, bk_, ow_, bl_, sz_⟩ (fun hH2 => ?_)
                  clear hH
                  have hH := hH2
                  obtain ⟨hS, hR, hO, hfar, hsz⟩ := hH2
                  clear hK K
                  try simp only [Act.put]
                  refine wpAnyH_ready (rs := [13]) (by kernel_rfl) (by simp) ?_
                  refine AllReadyH.cons (o := { dst := none, op := Op.store 25 (Operand.tmp 9) (Operand.tmp 47), type := 0, pos := "ref.go:19", after := _, guard := none }) rfl (fun K hK => ?_) AllReadyH.nil
                  rw [if_pos (by rfl)]
                  refine wp_st 25 rfl w_RState rfl rfl bk_ zz_ zz_ one_ ?_
                  refine hK.out _ _ ⟨bk_, bk_, ow_, bl_, sz_⟩ (fun hH2 => ?_)
                  clear hH
                  have hH := hH2
                  obtain ⟨hS, hR, hO, hfar, hsz⟩ := hH2
                  clear hK K
                  try simp only [Act.put]
                  refine wpAnyH_done (by kernel_rfl) ?_ _
                  go_wp2_with fail
                  go_meet
                  case rel => exact ⟨_, _, rfl, rfl, by exact sz_, by exact sz_, by exact sz_, by exact bk_, by exact bk_, by exact ow_, by exact bk_, by exact bk_, by exact bl_, by exact sz_⟩
                refine AllReadyH.cons (o := { dst := some 9, op := Op.alloc 25, type := 0, pos := "ref.go:19", after := _, guard := none }) rfl (fun K hK => ?_) AllReadyH.nil
                rw [if_pos (by rfl)]
                go_simp
                refine hK.out _ _ ⟨bk_, bk_, ow_, bl_, sz_⟩ (fun hH2 => ?_)
                clear hH
                have hH := hH2
                obtain ⟨hS, hR, hO, hfar, hsz⟩ := hH2
                clear hK K
                try simp only [Act.put, List.setIfInBounds_toArray, List.set_cons_zero, List.set_cons_succ]
                refine wpAnyH_ready (rs := [6]) (by kernel_rfl) (by simp) ?_
                refine AllReadyH.cons (o := { dst := some 45, op := Op.call { callee := Callee.value (Operand.func 12), args := #[Operand.tmp 39, Operand.tmp 44], argTypes := #[25, 9] }, type := 39, pos := "ref.go:19", after := _, guard := none }) rfl (fun K hK => ?_) AllReadyH.nil
                rw [if_pos (by rfl)]
                go_simp
                refine (HRD.out _).mono ?_
                rintro r wq ⟨rfl, hb⟩
                have hbs := hb.size
                try simp only [World.size_alloc, World.size_setCell, World.size_drew, size_setRow] at hbs
                go_wp2_with fail
                refine hK.out _ _ ⟨bk_, bk_, ow_, bl_, Nat.le_trans (sz_) hb.size⟩ (fun hH2 => ?_)
                clear hH
                have hH := hH2
                obtain ⟨hS, hR, hO, hfar, hsz⟩ := hH2
                clear hK K
                try simp only [Act.put, List.setIfInBounds_toArray, List.set_cons_zero, List.set_cons_succ]
                refine wpAnyH_take (i := 7) (oi := { dst := some 38, op := Op.move (Operand.tmp 45), type := 39, pos := "ref.go:19", after := _, guard := none }) (v := _) rfl (by kernel_rfl) (by kernel_rfl) (by kernel_rfl) (fun _ _ _ h => h) (.inl ⟨by rfl, fun w hS => by (go_simp; try rfl)⟩) hH ?_
                try simp only [Act.put, List.setIfInBounds_toArray, List.set_cons_zero, List.set_cons_succ]
                refine wpAnyH_take (i := 8) (oi := { dst := some 46, op := Op.extract (Operand.tmp 38) 0, type := 22, pos := "ref.go:19", after := _, guard := none }) (v := _) rfl (by kernel_rfl) (by kernel_rfl) (by kernel_rfl) (fun _ _ _ h => h) (.inl ⟨by rfl, fun w hS => by (go_simp; try rfl)⟩) hH ?_
                try simp only [Act.put, List.setIfInBounds_toArray, List.set_cons_zero, List.set_cons_succ]
                refine wpAnyH_take (i := 9) (oi := { dst := some 47, op := Op.extract (Operand.tmp 38) 1, type := 25, pos := "ref.go:19", after := _, guard := none }) (v := _) rfl (by kernel_rfl) (by kernel_rfl) (by kernel_rfl) (fun _ _ _ h => h) (.inl ⟨by rfl, fun w hS => by (go_simp; try rfl)⟩) hH ?_
                try simp only [Act.put, List.setIfInBounds_toArray, List.set_cons_zero, List.set_cons_succ]
                refine wpAnyH_ready (rs := [12]) (by kernel_rfl) (by simp) ?_
                refine AllReadyH.cons (o := { dst := none, op := Op.store 22 (Operand.tmp 8) (Operand.tmp 46), type := 0, pos := "ref.go:19", after := _, guard := none }) rfl (fun K hK => ?_) AllReadyH.nil
                rw [if_pos (by rfl)]
                refine wp_st 22 rfl w_Sixteen rfl rfl bk_ zz_ zz_ one_ ?_
                refine hK.out _ _ ⟨bk_, bk_, ow_, bl_, sz_⟩ (fun hH2 => ?_)
                clear hH
                have hH := hH2
                obtain ⟨hS, hR, hO, hfar, hsz⟩ := hH2
                clear hK K
                try simp only [Act.put]
                refine wpAnyH_ready (rs := [13]) (by kernel_rfl) (by simp) ?_
                refine AllReadyH.cons (o := { dst := none, op := Op.store 25 (Operand.tmp 9) (Operand.tmp 47), type := 0, pos := "ref.go:19", after := _, guard := none }) rfl (fun K hK => ?_) AllReadyH.nil
                rw [if_pos (by rfl)]
                refine wp_st 25 rfl w_RState rfl rfl bk_ zz_ zz_ one_ ?_
                refine hK.out _ _ ⟨bk_, bk_, ow_, bl_, sz_⟩ (fun hH2 => ?_)
                clear hH
                have hH := hH2
                obtain ⟨hS, hR, hO, hfar, hsz⟩ := hH2
                clear hK K
                try simp only [Act.put]
                refine wpAnyH_done (by kernel_rfl) ?_ _
                go_wp2_with fail
                go_meet
                case rel => exact ⟨_, _, rfl, rfl, by exact sz_, by exact sz_, by exact sz_, by exact bk_, by exact bk_, by exact ow_, by exact bk_, by exact bk_, by exact bl_, by exact sz_⟩
              refine AllReadyH.cons (o := { dst := some 9, op := Op.alloc 25, type := 0, pos := "ref.go:19", after := _, guard := none }) rfl (fun K hK => ?_) AllReadyH.nil
              rw [if_pos (by rfl)]
              go_simp
              refine hK.out _ _ ⟨bk_, bk_, ow_, bl_, sz_⟩ (fun hH2 => ?_)
              clear hH
              have hH := hH2
              obtain ⟨hS, hR, hO, hfar, hsz⟩ := hH2
              clear hK K
              try simp only [Act.put, List.setIfInBounds_toArray, List.set_cons_zero, List.set_cons_succ]
              refine wpAnyH_ready (rs := [6, 10]) (by kernel_rfl) (by simp) ?_
              refine AllReadyH.cons (o := { dst := some 45, op := Op.call { callee := Callee.value (Operand.func 12), args := #[Operand.tmp 39, Operand.tmp 44], argTypes := #[25, 9] }, type := 39, pos := "ref.go:19", after := _, guard := none }) rfl (fun K hK => ?_) ?_
              · rw [if_pos (by rfl)]
                go_simp
                refine (HRD.out _).mono ?_
                rintro r wq ⟨rfl, hb⟩
                have hbs := hb.size
                try simp only [World.size_alloc, World.size_setCell, World.size_drew, size_setRow] at hbs
                go_wp2_with fail
                refine hK.out _ _ ⟨bk_, bk_, ow_, bl_, Nat.le_trans (sz_) hb.size⟩ (fun hH2 => ?_)
                clear hH
                have hH := hH2
                obtain ⟨hS, hR, hO, hfar, hsz⟩ := hH2
                clear hK K
                try simp only [Act.put, List.setIfInBounds_toArray, List.set_cons_zero, List.set_cons_succ]
                refine wpAnyH_take (i := 7) (oi := { dst := some 38, op := Op.move (Operand.tmp 45), type := 39, pos := "ref.go:19", after := _, guard := none }) (v := _) rfl (by kernel_rfl) (by kernel_rfl) (by kernel_rfl) (fun _ _ _ h => h) (.inl ⟨by rfl, fun w hS => by (go_simp; try rfl)⟩) hH ?_
                try simp only [Act.put, List.setIfInBounds_toArray, List.set_cons_zero, List.set_cons_succ]
                refine wpAnyH_take (i := 8) (oi := { dst := some 46, op := Op.extract (Operand.tmp 38) 0, type := 22, pos := "ref.go:19", after := _, guard := none }) (v := _) rfl (by kernel_rfl) (by kernel_rfl) (by kernel_rfl) (fun _ _ _ h => h) (.inl ⟨by rfl, fun w hS => by (go_simp; try rfl)⟩) hH ?_
                try simp only [Act.put, List.setIfInBounds_toArray, List.set_cons_zero, List.set_cons_succ]
                refine wpAnyH_take (i := 9) (oi := { dst := some 47, op := Op.extract (Operand.tmp 38) 1, type := 25, pos := "ref.go:19", after := _, guard := none }) (v := _) rfl (by kernel_rfl) (by kernel_rfl) (by kernel_rfl) (fun _ _ _ h => h) (.inl ⟨by rfl, fun w hS => by (go_simp; try rfl)⟩) hH ?_
                try simp only [Act.put, List.setIfInBounds_toArray, List.set_cons_zero, List.set_cons_succ]
                refine wpAnyH_ready (rs := [10]) (by kernel_rfl) (by simp) ?_
                refine AllReadyH.cons (o := { dst := some 8, op := Op.alloc 22, type := 0, pos := "ref.go:19", after := _, guard := none }) rfl (fun K hK => ?_) AllReadyH.nil
                rw [if_pos (by rfl)]
                go_simp
                refine hK.out _ _ ⟨bk_, bk_, ow_, bl_, sz_⟩ (fun hH2 => ?_)
                clear hH
                have hH := hH2
                obtain ⟨hS, hR, hO, hfar, hsz⟩ := hH2
                clear hK K
                try simp only [Act.put, List.setIfInBounds_toArray, List.set_cons_zero, List.set_cons_succ]
                refine wpAnyH_ready (rs := [12]) (by kernel_rfl) (by simp) ?_
                refine AllReadyH.cons (o := { dst := none, op := Op.store 22 (Operand.tmp 8) (Operand.tmp 46), type := 0, pos := "ref.go:19", after := _, guard := none }) rfl (fun K hK => ?_) AllReadyH.nil
                rw [if_pos (by rfl)]
                refine wp_st 22 rfl w_Sixteen rfl rfl bk_ zz_ zz_ one_ ?_
                refine hK.out _ _ ⟨bk_, bk_, ow_, bl_, sz_⟩ (fun hH2 => ?_)
                clear hH
                have hH := hH2
                obtain ⟨hS, hR, hO, hfar, hsz⟩ := hH2
                clear hK K
                try simp only [Act.put]
                refine wpAnyH_ready (rs := [13]) (by kernel_rfl) (by simp) ?_
                refine AllReadyH.cons (o := { dst := none, op := Op.store 25 (Operand.tmp 9) (Operand.tmp 47), type := 0, pos := "ref.go:19", after := _, guard := none }) rfl (fun K hK => ?_) AllReadyH.nil
                rw [if_pos (by rfl)]
                refine wp_st 25 rfl w_RState rfl rfl bk_ zz_ zz_ one_ ?_
                refine hK.out _ _ ⟨bk_, bk_, ow_, bl_, sz_⟩ (fun hH2 => ?_)
                clear hH
                have hH := hH2
                obtain ⟨hS, hR, hO, hfar, hsz⟩ := hH2
                clear hK K
                try simp only [Act.put]
                refine wpAnyH_done (by kernel_rfl) ?_ _
                go_wp2_with fail
                go_meet
                case rel => exact ⟨_, _, rfl, rfl, by exact sz_, by exact sz_, by exact sz_, by exact bk_, by exact bk_, by exact ow_, by exact bk_, by exact bk_, by exact bl_, by exact sz_⟩
              refine AllReadyH.cons (o := { dst := some 8, op := Op.alloc 22, type := 0, pos := "ref.go:19", after := _, guard := none }) rfl (fun K hK => ?_) AllReadyH.nil
              rw [if_pos (by rfl)]
              go_simp
              refine hK.out _ _ ⟨bk_, bk_, ow_, bl_, sz_⟩ (fun hH2 => ?_)
              clear hH
              have hH := hH2
              obtain ⟨hS, hR, hO, hfar, hsz⟩ := hH2
              clear hK K
              try simp only [Act.put, List.setIfInBounds_toArray, List.set_cons_zero, List.set_cons_succ]
              refine wpAnyH_ready (rs := [6]) (by kernel_rfl) (by simp) ?_
              refine AllReadyH.cons (o := { dst := some 45, op := Op.call { callee := Callee.value (Operand.func 12), args := #[Operand.tmp 39, Operand.tmp 44], argTypes := #[25, 9] }, type := 39, pos := "ref.go:19", after := _, guard := none }) rfl (fun K hK => ?_) AllReadyH.nil
              rw [if_pos (by rfl)]
              go_simp
              refine (HRD.out _).mono ?_
              rintro r wq ⟨rfl, hb⟩
              have hbs := hb.size
              try simp only [World.size_alloc, World.size_setCell, World.size_drew, size_setRow] at hbs
              go_wp2_with fail
              refine hK.out _ _ ⟨bk_, bk_, ow_, bl_, Nat.le_trans (sz_) hb.size⟩ (fun hH2 => ?_)
              clear hH
              have hH := hH2
              obtain ⟨hS, hR, hO, hfar, hsz⟩ := hH2
              clear hK K
              try simp only [Act.put, List.setIfInBounds_toArray, List.set_cons_zero, List.set_cons_succ]
              refine wpAnyH_take (i := 7) (oi := { dst := some 38, op := Op.move (Operand.tmp 45), type := 39, pos := "ref.go:19", after := _, guard := none }) (v := _) rfl (by kernel_rfl) (by kernel_rfl) (by kernel_rfl) (fun _ _ _ h => h) (.inl ⟨by rfl, fun w hS => by (go_simp; try rfl)⟩) hH ?_
              try simp only [Act.put, List.setIfInBounds_toArray, List.set_cons_zero, List.set_cons_succ]
              refine wpAnyH_take (i := 8) (oi := { dst := some 46, op := Op.extract (Operand.tmp 38) 0, type := 22, pos := "ref.go:19", after := _, guard := none }) (v := _) rfl (by kernel_rfl) (by kernel_rfl) (by kernel_rfl) (fun _ _ _ h => h) (.inl ⟨by rfl, fun w hS => by (go_simp; try rfl)⟩) hH ?_
              try simp only [Act.put, List.setIfInBounds_toArray, List.set_cons_zero, List.set_cons_succ]
              refine wpAnyH_take (i := 9) (oi := { dst := some 47, op := Op.extract (Operand.tmp 38) 1, type := 25, pos := "ref.go:19", after := _, guard := none }) (v := _) rfl (by kernel_rfl) (by kernel_rfl) (by kernel_rfl) (fun _ _ _ h => h) (.inl ⟨by rfl, fun w hS => by (go_simp; try rfl)⟩) hH ?_
              try simp only [Act.put, List.setIfInBounds_toArray, List.set_cons_zero, List.set_cons_succ]
              refine wpAnyH_ready (rs := [12]) (by kernel_rfl) (by simp) ?_
              refine AllReadyH.cons (o := { dst := none, op := Op.store 22 (Operand.tmp 8) (Operand.tmp 46), type := 0, pos := "ref.go:19", after := _, guard := none }) rfl (fun K hK => ?_) AllReadyH.nil
              rw [if_pos (by rfl)]
              refine wp_st 22 rfl w_Sixteen rfl rfl bk_ zz_ zz_ one_ ?_
              refine hK.out _ _ ⟨bk_, bk_, ow_, bl_, sz_⟩ (fun hH2 => ?_)
              clear hH
              have hH := hH2
              obtain ⟨hS, hR, hO, hfar, hsz⟩ := hH2
              clear hK K
              try simp only [Act.put]
              refine wpAnyH_ready (rs := [13]) (by kernel_rfl) (by simp) ?_
              refine AllReadyH.cons (o := { dst := none, op := Op.store 25 (Operand.tmp 9) (Operand.tmp 47), type := 0, pos := "ref.go:19", after := _, guard := none }) rfl (fun K hK => ?_) AllReadyH.nil
              rw [if_pos (by rfl)]
              refine wp_st 25 rfl w_RState rfl rfl bk_ zz_ zz_ one_ ?_
              refine hK.out _ _ ⟨bk_, bk_, ow_, bl_, sz_⟩ (fun hH2 => ?_)
              clear hH
              have hH := hH2
              obtain ⟨hS, hR, hO, hfar, hsz⟩ := hH2
              clear hK K
              try simp only [Act.put]
              refine wpAnyH_done (by kernel_rfl) ?_ _
              go_wp2_with fail
              go_meet
              case rel => exact ⟨_, _, rfl, rfl, by exact sz_, by exact sz_, by exact sz_, by exact bk_, by exact bk_, by exact ow_, by exact bk_, by exact bk_, by exact bl_, by exact sz_⟩
            case rest =>
              clear hS hR hO hfar hsz c0 c1 c2
              obtain ⟨a9, b9, rfl, rfl, hab, ha9, hb9, hS, hR, hO, hN, hT, hfar, hsz⟩ := hcut
              have hN2 : Blk (wc.alloc (.cells (arrV O1) 22)) wc.heap.size (arrV O1) 22 := Blk.newAt rfl
              have hRa := hO.alloc (.cells (arrV O1) 22)
              have hsl := SL.blk hN2 (n := 1) (size := 16) LO1.sz (by unfold maxLen; omega)
              go_upto_region 9 with (first | (refine ld 22 rfl (by rfl) w_Sixteen rfl hN LO1.sz ?_) | (refine bs1 52 rfl (by rfl) rfl Tryz.underlying52 el_Sixteen (by omega) (by omega) LO1.sz ?_) | (refine ap 52 rfl (by rfl) rfl (B + 2) 22 i0 (.agg #[.int .i64 0, .int .i64 0, .int .i64 0, .int .i64 0, .int .i64 0, .int .i64 0, .int .i64 0, .int .i64 0, .int .i64 0, .int .i64 0, .int .i64 0, .int .i64 0, .int .i64 0, .int .i64 0, .int .i64 0, .int .i64 0]) 16 128 Tryz.underlying52 hi hz0 hz1 hz2 rfl (by omega) rfl hRa.1 rfl hsl (arr_each _) (by unfold maxLen; omega) (by omega) (by rw [World.size_alloc]; omega) ?_; intro v5 w5 hown hgr _))
              have hvb : ∀ j, u6.ownBlock = some j → B ≤ j := fun j hj => by have := (World.ownsRow.lt hRa.1 j hj).1; omega
              have hs5 := hgr.size
              rw [World.size_alloc] at hs5
              have hS := (hS.alloc (.cells (arrV O1) 22)).apart hRa hgr (.inl (by omega))
              have hR := (hR.alloc (.cells (arrV O1) 22)).apart hRa hgr (.inl (by omega))
              have hfar : Below B w w5 := (hfar.alloc (by omega) (.cells (arrV O1) 22)).grown hgr (by rw [World.size_alloc]; omega) hvb
              rw [flat_snoc] at hown
              have hO5 : OW w5 (B + 2) w5.heap.size 22 16 v5 (O ++ [O1]).length ((O ++ [O1]).flatMap intsV) := by
                have h := OW.mk0 hown
                rwa [show O.length + 1 = (O ++ [O1]).length by simp] at h
              have hsz5 : B + 2 ≤ w5.heap.size := by omega
              have hT := (hT.alloc (.cells (arrV O1) 22)).apart hRa hgr (.inr hb9)
              go_wp2_with (first | (refine ld 25 rfl (by rfl) w_RState rfl hT LS1.sz ?_) | (refine st 25 rfl (by rfl) w_RState rfl rfl hS LM.sz LS1.sz (arr_one _) ?_))
              go_roundw
              case rel => exact ⟨k + 1, hlt, by go_num, by rw [HS1.out]; exact bk_, by exact bk_, by rw [HO1.out]; exact ow_wide (OW.setRow hO5 (.inl (by omega)) _), by exact bl_, by exact sz_⟩
              case measure => simp [intOf]; omega
          · have h1b : (ek == 1) = false := by simpa using h1
            have h2 : ek = 2 := by
              have h := HRE2.out
              rw [if_neg h1] at h
              by_cases h2 : ek = 2
              · exact h2
              · rw [if_neg h2, if_neg h3] at h; exact absurd h (by decide)
            subst h2
            have eO : stepO M ⟨2, sp, s⟩ = [loseO M] := HSTO.out
            have eS : stepS M ⟨2, sp, s⟩ = zs 38 := HSTS.out
            have hrd := fun w => RLose_any M LM.out hSr w
            have l1 := loseO_len M
            have l2 := loseSt_len LM.out
            rw [eO] at HO1
            rw [eS] at HS1
            obtain ⟨O1, hO1⟩ : ∃ x, loseO M = x := ⟨_, rfl⟩
            obtain ⟨S1, hS1⟩ : ∃ x, loseSt M = x := ⟨_, rfl⟩
            rw [hO1] at l1 HO1
            rw [hS1] at l2
            simp only [hO1, hS1] at hrd
            have LO1 := Len.mk l1
            have LS1 := Len.mk l2
            have HRD := Lib.hid hrd
            have hz38 : Tryz.prog.built 25 [] = some (arrV (zs 38)) := by kernel_rfl
            clear eO eS hrd hO1 hS1 l1 l2
            go_wp2_with (first | (refine ld 25 rfl (by rfl) w_RState rfl hS LM.sz ?_))
            refine (HRD.out _).mono ?_
            rintro e w3 ⟨rfl, hb3⟩
            replace hS := hS.newB hb3
            replace hR := hR.newB hb3
            replace hO := hO.newB hb3
            replace hfar := hfar.trans (hb3.mono (by omega))
            replace hsz := Nat.le_trans hsz hb3.size
            obtain ⟨a9, ha9e⟩ : ∃ x, w3.heap.size = x := ⟨_, rfl⟩
            have ha9 : H ≤ a9 := by omega
            go_upto_region 11 with (first | (refine st 22 rfl (by rfl) w_Sixteen rfl rfl bk_ lz_ lz_ one_ ?_) | (refine st 25 rfl (by rfl) w_RState rfl rfl bk_ lz_ lz_ one_ ?_))
            refine wp_gen (fun W => Blk W (B) (arrV M) 25 ∧ Blk W (B + 1) (arrV (zs 38)) 25 ∧ OW W (B + 2) (H) (22) (16) (u6) (O.length) (O.flatMap intsV) ∧ Blk W (a9) (arrV O1) 22 ∧ Below (B) w W ∧ a9 + 2 ≤ W.heap.size) ⟨bk_, bk_, ow_, bk_, bl_, sz_⟩ ?_
            clear hS hR hO hfar hsz
            rintro w4 ⟨hS, hR, hO, hN, hfar, hsz⟩
            have hHw4 : H ≤ w4.heap.size := by omega
            have hN2 : Blk (w4.alloc (.cells (arrV O1) 22)) w4.heap.size (arrV O1) 22 := Blk.newAt rfl
            have hRa := hO.alloc (.cells (arrV O1) 22)
            have hsl := SL.blk hN2 (n := 1) (size := 16) LO1.sz (by unfold maxLen; omega)
            go_upto_region 12 with (first | (refine ld 22 rfl (by rfl) w_Sixteen rfl hN LO1.sz ?_) | (refine bs1 52 rfl (by rfl) rfl Tryz.underlying52 el_Sixteen (by omega) (by omega) LO1.sz ?_) | (refine ap 52 rfl (by rfl) rfl (B + 2) 22 i0 (.agg #[.int .i64 0, .int .i64 0, .int .i64 0, .int .i64 0, .int .i64 0, .int .i64 0, .int .i64 0, .int .i64 0, .int .i64 0, .int .i64 0, .int .i64 0, .int .i64 0, .int .i64 0, .int .i64 0, .int .i64 0, .int .i64 0]) 16 128 Tryz.underlying52 hi hz0 hz1 hz2 rfl (by omega) rfl hRa.1 rfl hsl (arr_each _) (by unfold maxLen; omega) (by omega) (by rw [World.size_alloc]; omega) ?_; intro v5 w5 hown hgr _))
            have hvb : ∀ j, u6.ownBlock = some j → B ≤ j := fun j hj => by have := (World.ownsRow.lt hRa.1 j hj).1; omega
            have hs5 := hgr.size
            rw [World.size_alloc] at hs5
            have hS := (hS.alloc (.cells (arrV O1) 22)).apart hRa hgr (.inl (by omega))
            have hR := (hR.alloc (.cells (arrV O1) 22)).apart hRa hgr (.inl (by omega))
            have hfar : Below B w w5 := (hfar.alloc (by omega) (.cells (arrV O1) 22)).grown hgr (by rw [World.size_alloc]; omega) hvb
            rw [flat_snoc] at hown
            have hO5 : OW w5 (B + 2) w5.heap.size 22 16 v5 (O ++ [O1]).length ((O ++ [O1]).flatMap intsV) := by
              have h := OW.mk0 hown
              rwa [show O.length + 1 = (O ++ [O1]).length by simp] at h
            have hsz5 : B + 2 ≤ w5.heap.size := by omega
            go_wp2_with (first | (refine bd 25 rfl (by rfl) rfl hz38 ?_) | (refine st 25 rfl (by rfl) w_RState rfl rfl hS LM.sz (Len.zs 38).sz (arr_one _) ?_))
            go_roundw
            case rel => exact ⟨k + 1, hlt, by go_num, by rw [HS1.out]; exact bk_, by exact bk_, by rw [HO1.out]; exact ow_wide (OW.setRow hO5 (.inl (by omega)) _), by exact bl_, by exact sz_⟩
            case measure => simp [intOf]; omega
    · obtain rfl : k = n := by omega
      have ht : l.take k = l := by rw [← HN.out]; exact List.take_length
      rw [ht] at hS hO
      rw [HRS.out] at hS
      have LM := LRS.out
      go_upto_region 13 with (fail)
      refine wp_region_held_drew (S := fun W => Blk W (B) (arrV RS) 25) (by kernel_rfl) (hS.drew) (fun hH => ?_)
      refine wpAnyH_take (i := 0) (oi := { dst := some 63, op := Op.move (Operand.tmp 6), type := 52, pos := "ref.go:28", after := _, guard := none }) (v := _) rfl (by kernel_rfl) (by kernel_rfl) (by kernel_rfl) (fun _ _ _ h => h) (.inl ⟨by rfl, fun w hS => by (go_simp; try rfl)⟩) hH ?_
      try simp only [Act.put, List.setIfInBounds_toArray, List.set_cons_zero, List.set_cons_succ]
      refine wpAnyH_take (i := 1) (oi := { dst := some 64, op := Op.load 25 (Operand.tmp 2), type := 25, pos := "ref.go:28", after := _, guard := none }) (v := .agg (arrV RS)) rfl (by kernel_rfl) (by kernel_rfl) (by kernel_rfl) (fun _ _ _ h => h) (yieldsIf_ld (by rfl) 25 rfl w_RState rfl (fun _ hS => hS) zz_) hH ?_
      try simp only [Act.put, List.setIfInBounds_toArray, List.set_cons_zero, List.set_cons_succ]
      refine wpAnyH_take (i := 2) (oi := { dst := some 4, op := Op.assign (Operand.tmp 63), type := 52, pos := "ref.go:28", after := _, guard := none }) (v := _) rfl (by kernel_rfl) (by kernel_rfl) (by kernel_rfl) (fun _ _ _ h => h) (.inl ⟨by rfl, fun w hS => by (go_simp; try rfl)⟩) hH ?_
      try simp only [Act.put, List.setIfInBounds_toArray, List.set_cons_zero, List.set_cons_succ]
      refine wpAnyH_ready (rs := [3]) (by kernel_rfl) (by simp) ?_
      refine AllReadyH.cons (o := { dst := none, op := Op.store 25 (Operand.tmp 5) (Operand.tmp 64), type := 0, pos := "ref.go:28", after := _, guard := none }) rfl (fun K hK => ?_) AllReadyH.nil
      rw [if_pos (by rfl)]
      refine wp_st 25 rfl w_RState rfl rfl bk_ zz_ zz_ one_ ?_
      refine hK.out _ _ bk_ (fun hH => ?_)
      clear hK K
      try simp only [Act.put]
      refine wpAnyH_done (by kernel_rfl) ?_ _
      go_wp2_with fail
      exact bodyPost_ret (v := .tuple #[u6, .agg (arrV RS)]) (res_tc Tryz.results20 rfl rfl w_RState (by exact bk_) LM.sz) rfl ⟨_, rfl, own_lower (own_setRow hO.1 (by omega) _) (by omega), (by (try rw [hB]); exact bl_)⟩
end Go.Proofs.YtmfihaaiddolmaaGreatDoor
