/- The walk of (vect.counts).of: whatever it has found already, it finds how many vectors there are. -/
import Derived.Test.YtnohjidoelohkaaDoorBase
import Derived.Test.YtnohjidoelohkaaDoorSpecVect
import Derived.Maps.Own
import Derived.Maps.OwnSet
import Derived.DeepKeys4
namespace Go.Proofs.YtnohjidoelohkaaDoor
open Go.RowKit Go.Maps

theorem keyWide : (match Tryd.prog.underlying 106 with | some (.array _ _) | some (.struct _) => true | _ => false) = true := by kernel_rfl
theorem laidOutV : laidOutB Tryd.prog = true := by kernel_rfl
set_option maxRecDepth 100000 in
theorem keyLaw : Keyed Tryd.prog 106 := Keyed.of_law (deep_law_laid laidOutV (m := 2) (by omega) (of_decide_eq_true (by kernel_rfl)) (by kernel_rfl) keyWide)
theorem keyTiled : Tryd.prog.tiled 2 106 = true := by kernel_rfl
noncomputable def keyL (n k : Nat) : Lit := (keyOf Tryd.prog 106 (.agg #[.int .i64 n, .int .i64 k])).getD (.bool false)
theorem key_some : ∀ n < 9, ∀ k < 9, (keyOf Tryd.prog 106 (.agg #[.int .i64 (n : Nat), .int .i64 (k : Nat)])).isSome = true := by decide +kernel
set_option maxRecDepth 100000 in
theorem key_is {n k : Nat} (hn : n ≤ 8) (hk : k ≤ 8) : keyOf Tryd.prog 106 (.agg #[.int .i64 n, .int .i64 k]) = some (keyL n k) := by
  have h := key_some n (by omega) k (by omega)
  unfold keyL
  cases h2 : keyOf Tryd.prog 106 (.agg #[.int .i64 n, .int .i64 k]) with
  | none => rw [h2] at h; cases h
  | some l => rfl
set_option maxRecDepth 100000 in
theorem key_inj {n k m j : Nat} (hn : n ≤ 8) (hk : k ≤ 8) (hm : m ≤ 8) (hj : j ≤ 8) (h : keyL n k = keyL m j) : n = m ∧ k = j := by
  have h1 := key_is hn hk
  have h2 := key_is hm hj
  rw [← h] at h2
  have := keyOf_inj_deep keyTiled keyWide h1 h2
  simp only [Value.agg.injEq, Array.mk.injEq, List.cons.injEq, Value.int.injEq, true_and, and_true] at this
  omega
abbrev OwnC (W : World) (b N : Nat) (D : DataW Unit) : Prop := W.ownsMap Tryd.prog 106 (plainElem Tryd.prog 3) b N D
/-- What has been found is right. -/
def Good (D : DataW Unit) : Prop := ∀ n k, n ≤ 8 → k ≤ 8 → Maps.has D (keyL n k) = true → D.atKey (keyL n k) (.lit (.int .i64 0)) = .lit (.int .i64 (Sp.cnt n k : Nat))
theorem good_empty : Good (.map []) := fun n k _ _ h => by simp [Maps.has] at h
theorem OwnC.keep {S : Nat → Prop} {W W' : World} {b N : Nat} {D : DataW Unit} (h : OwnC W b N D) (hk : Kept S W W') (hn : ¬ S b) : OwnC W' b N D := by
  have hlt := h.lt
  obtain ⟨es, clock, hb, F, hs, hD⟩ := h
  exact ⟨es, clock, (hk.block b hlt hn).trans hb, F, hs, hD⟩
set_option maxRecDepth 100000 in
theorem good_put {D : DataW Unit} (hI : IsMap D) (h : Good D) {n k : Nat} (hn : n ≤ 8) (hk : k ≤ 8) : Good (D.put (keyL n k) (.lit (.int .i64 (Sp.cnt n k : Nat)))) := by
  intro m j hm hj hh
  by_cases he : keyL m j = keyL n k
  · obtain ⟨rfl, rfl⟩ := key_inj hm hj hn hk he
    exact atKey_put_same hI (keyLaw.key (key_is hm hj)) _ _
  · rw [atKey_put_other he]
    rw [has_put_other he] at hh
    exact h m j hm hj hh
theorem zeroInt (w : World) : (zeroValue 3).run Tryd.prog w = .ok (.int .i64 0) w := by kernel_rfl

set_option maxRecDepth 100000 in
set_option maxHeartbeats 1600000 in
theorem of_any (n : Nat) : n ≤ 8 → ∀ (k : Nat), k ≤ 8 → ∀ (b N : Nat) (D : DataW Unit) (w : World), OwnC w b N D → Good D → N + 10 ^ n ≤ 1000000000000000000 →
    Calls Tryd.prog 57 #[.map (some b), .int .i64 n, .int .i64 k] w fun e w' => e = .returned (.int .i64 (Sp.cnt n k : Nat)) ∧ ∃ N' D', N' ≤ N + 10 ^ n ∧ OwnC w' b N' D' ∧ Good D' ∧ Kept (· = b) w w' := by
  induction n with
  | zero =>
    intro _ k hk b N D w hO hG hN
    by_cases hz : k = 0
    · subst hz
      go_enter Tryd.func57, Tryd.ntmps57
      go_wp2_with fail
      go_ret
      exact ⟨rfl, N, D, by omega, hO, hG, Kept.refl _ _⟩
    · have hz2 : (0 : Int) < k := by omega
      have hc : Sp.cnt 0 k = 0 := by simp [Sp.cnt, hz]
      go_enter Tryd.func57, Tryd.ntmps57
      go_wp2_with fail
      go_ret
      exact ⟨by rw [hc]; rfl, N, D, by omega, hO, hG, Kept.refl _ _⟩
  | succ n ih =>
    intro hn k hk b N D w hO hG hN
    have hT : 10 ^ (n + 1) = 10 ^ n * 10 := Nat.pow_succ 10 n
    have hT0 : 1 ≤ 10 ^ n := Nat.one_le_pow _ _ (by omega)
    obtain ⟨T, hTT⟩ : ∃ T, 10 ^ n = T := ⟨_, rfl⟩
    rw [hTT] at hT hT0
    rw [hT] at hN ⊢
    have HIH := Lib.hid (fun k hk => ih (by omega) k hk)
    clear ih
    rw [hTT] at HIH
    clear hTT hT
    obtain ⟨m, hm⟩ : ∃ m, n + 1 = m := ⟨_, rfl⟩
    rw [hm] at hn ⊢
    have HM := Lib.hid hm
    have hm1 : (m : Int) - 1 = (n : Int) := by omega
    have hm0 : (0 : Int) < m := by omega
    clear hm
    have hkey := key_is hn hk
    have hbd := Sp.cnt_bd (n := m) hn hk
    have hbl := hO.lt
    obtain ⟨xb, hxb⟩ : ∃ xb, w.heap.size = xb := ⟨_, rfl⟩
    go_enter Tryd.func57, Tryd.ntmps57
    go_wp2_with (first | (at_lookup; refine wpList_lookup_own_ok_int _ rfl _ _ 98 rfl 106 3 .i64 keyLaw Tryd.underlying98 Tryd.underlying3 (zeroInt _) b N D rfl (hO.alloc _) _ _ rfl hkey ?_; intro c hat hwc))
    · rename_i hh
      go_ret
      have h1 := hG m k hn hk hh
      rw [hat] at h1
      have h2 : c = (Sp.cnt m k : Nat) := by simpa using h1
      subst h2
      exact ⟨rfl, N, D, by omega, hO.alloc _, hG, (Kept.refl _ _).alloc _⟩
    · clear hat hwc
      have hpart := Sp.cntPart_all n k
      rw [HM.out] at hpart
      have hX0 := Blk.new w #[.int .i64 m, .int .i64 k] 106
      rw [hxb] at hX0
      have hxne : xb ≠ b := by omega
      refine (HIH.out k hk b N D _ (hO.alloc _) hG (by omega)).mono ?_
      rintro e1 w1 ⟨rfl, N1, D1, hN1, hO1, hG1, hK1⟩
      have hX1 := hX0.keep hK1 hxne
      have hK1' : Kept (· = b) w w1 := ((Kept.refl _ _).alloc _).trans hK1
      have HPM := Lib.hid (fun j (hj : j ≤ k) => Nat.le_trans (Sp.cntPart_mono n k hj) (Nat.le_trans (Nat.le_of_eq hpart) hbd))
      have HP := Lib.hid hpart
      have hz0 := Sp.cntPart_zero n k
      clear hX0 hK1 hO hG hpart
      go_wp2_with fail
      go_loopw [10, 46] (fun xv jv wr => ∃ (j N2 U : Nat) (D2 : DataW Unit), j ≤ k ∧ xv = .int .i64 (Sp.cntPart n k j : Nat) ∧ jv = .int .i64 j ∧ Hid (U = j * T) ∧ U ≤ 8 * T ∧ N2 ≤ N + T + U ∧ OwnC wr b N2 D2 ∧ Good D2 ∧ Blk wr xb #[.int .i64 m, .int .i64 k] 106 ∧ Kept (· = b) w wr) (fun _ jv _ => k - (intOf jv).toNat)
      case atStart => exact ⟨0, N1, 0, D1, Nat.zero_le _, by rw [hz0], rfl, Lib.hid (by rw [Nat.zero_mul]), Nat.zero_le _, by omega, hO1, hG1, hX1, hK1'⟩
      case round =>
        clear hX1 hK1' hO1 hG1 hz0
        obtain ⟨j, N2, U, D2, hj, rfl, rfl, HU, hU8, hN2, hO2, hG2, hX2, hK2⟩ := hrel
        have hb1 := HPM.out j hj
        by_cases hlt : j < k
        · have hb2 := HPM.out (j + 1) hlt
          have hnx := Sp.cntPart_next n k j
          obtain ⟨x, hx⟩ : ∃ x, Sp.cntPart n k j = x := ⟨_, rfl⟩
          obtain ⟨y, hy⟩ : ∃ y, Sp.cnt n j = y := ⟨_, rfl⟩
          rw [hx, hy] at hnx
          rw [hx] at hb1 ⊢
          rw [hnx] at hb2
          have HNX := Lib.hid hnx
          have HY := Lib.hid hy
          have HU8 : Hid (U + T ≤ 8 * T ∧ U + T = (j + 1) * T) := Lib.hid ⟨by
            have h1 : (j + 1) * T ≤ 8 * T := Nat.mul_le_mul_right T (by omega)
            have h2 := HU.out
            rw [Nat.succ_mul] at h1
            omega, by rw [Nat.succ_mul, HU.out]⟩
          clear hx hy hnx
          go_wp2_with fail
          refine (HIH.out j (by omega) b N2 D2 _ hO2 hG2 (by omega)).mono ?_
          rw [HY.out]
          rintro e2 w2 ⟨rfl, N3, D3, hN3, hO3, hG3, hK3⟩
          have hX3 := hX2.keep hK3 hxne
          have hK4 := hK2.trans hK3
          go_wp2_with fail
          go_roundw
          case rel => exact ⟨j + 1, N3, U + T, D3, hlt, by rw [HNX.out]; go_num, by go_num, Lib.hid HU8.out.2, HU8.out.1, by omega, hO3, hG3, hX3, hK4⟩
          case measure => simp [intOf]; omega
        · obtain rfl : j = k := by omega
          rw [HP.out] at hb1 ⊢
          have y0 := hX2.cell 0
          have y1 := hX2.cell 1
          simp only [List.getElem?_toArray, List.getElem?_cons_zero, List.getElem?_cons_succ] at y0 y1
          have hput := good_put hO2.isMap hG2 hn hk
          go_wp2_with (first | (at_mapUpdate; refine wpList_mapUpdate_own _ rfl _ _ _ 98 rfl 106 3 keyLaw Tryd.underlying98 _ b N2 D2 rfl hO2 (by unfold maxLen; omega) _ _ _ rfl rfl hkey _ [] (plainElem_int Tryd.underlying3 (WalkArith.wf_i64 (by omega))) ?_; intro w3 hO3 hgrow3))
          go_ret
          exact ⟨rfl, N2 + 1, _, by omega, hO3, hput, hK2.grown hgrow3 (fun i hi => .inl (by cases hi; rfl))⟩
end Go.Proofs.YtnohjidoelohkaaDoor
