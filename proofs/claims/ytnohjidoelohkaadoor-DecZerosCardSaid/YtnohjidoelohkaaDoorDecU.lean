/- The walk of dec.band where a band has pulses. -/
import Derived.Test.YtnohjidoelohkaaDoorDecT
namespace Go.Proofs.YtnohjidoelohkaaDoor
open Go.RowKit

theorem cnt_pos : ∀ b < 4, ∀ k < 9, 1 ≤ (Sp.cntL (bandN b)).getD k 0 := by decide +kernel
set_option maxRecDepth 100000 in
set_option maxHeartbeats 1600000 in
theorem band_any (g : Nat) {c : Int} {d : Sp.Dec} (hd : d.Ok c) (hc : c ≤ 1000000) (b lev k : Nat) (hb : b < 4) (hlev : lev ≤ 20) (hk0 : 1 ≤ k) (hk : k ≤ 8) (w : World) (hW : BandsW w) (hg0 : g ≠ 0) (hB : Blk w g (decC d) 66) :
    Calls Tryd.prog 21 #[.func (.func 19) #[.pointer (some ⟨g, 0, none⟩)] #[], .int .i64 b, .int .i64 lev, .int .i64 k] w fun e w' => ∃ v, e = .returned v ∧ Row w' 3 v (intsV (bandV d b lev k)) ∧ Blk w' g (decC (bandD d b k)) 66 ∧ Kept (· = g) w w' ∧ Hid (∀ i, v.ownBlock = some i → w.heap.size ≤ i) := by
  have hn8 := bandN_bd hb
  have hv20 := Sp.vbits_bd hn8 hk
  have hcp : 1 ≤ Sp.cnt (bandN b) k := by rw [Sp.cnt_row _ k (by omega)]; exact cnt_pos b hb k (by omega)
  have hcb := Sp.cnt_bd hn8 hk
  obtain ⟨_, z0, z1⟩ := Sp.Dec.bitF_ok 3 (Sp.vbits (bandN b) k) 0 0 hd (by omega) (by decide) (by decide)
  have hp24 : (2 : Int) ^ (0 + Sp.vbits (bandN b) k) ≤ 2 ^ 20 := by exact_mod_cast (Nat.pow_le_pow_right (by omega : 0 < 2) (by omega))
  have hsize := Size_any b hb
  have hbits := fun w => VBits_any (bandN b) k hn8 hk w
  have hcount := fun w => Count_any (bandN b) k hn8 hk w
  have hdb := fun w hB => DBits_any g hd (by omega) (Sp.vbits (bandN b) k) (by omega) w hB
  have hvec := fun i h0 h1 w => Vector_any (bandN b) k i hn8 hk h0 h1 w
  have hvok := fun (i : Int) (h0 : 0 ≤ i) (h1 : i < (Sp.cnt (bandN b) k : Nat)) => Sp.vec_ok (bandN b) hn8 k i hk h0 (by rw [Sp.cntI_nat _ hk]; exact h1)
  have hvl := fun i => Sp.vec_len (bandN b) k i
  have hV : bandV d b lev k = fillL lev (Sp.vec (bandN b) k ((Sp.Dec.bitF 3 d (Sp.vbits (bandN b) k) 0 0).1 % (Sp.cnt (bandN b) k : Nat))) := by unfold bandV; rw [if_neg (by omega)]
  have hD : bandD d b k = (Sp.Dec.bitF 3 d (Sp.vbits (bandN b) k) 0 0).2 := by unfold bandD; rw [if_neg (by omega)]
  rw [hV, hD]
  obtain ⟨z, hz⟩ : ∃ z, (Sp.Dec.bitF 3 d (Sp.vbits (bandN b) k) 0 0).1 = z := ⟨_, rfl⟩
  rw [hz] at z0 z1 ⊢
  obtain ⟨q, hq⟩ : ∃ q, Sp.cnt (bandN b) k = q := ⟨_, rfl⟩
  rw [hq] at hcp hcb ⊢
  simp only [hq] at hcount hvec hvok
  simp only [hz] at hdb
  have hz20 : z ≤ 1048576 := by omega
  have hm0 := Int.emod_nonneg z (show (q : Int) ≠ 0 by omega)
  have hm1 := Int.emod_lt_of_pos z (show (0 : Int) < q by omega)
  have hzt : z.tmod (q : Int) = z % (q : Int) := Int.tmod_eq_emod_of_nonneg z0
  have hqz : (q : Int) ≠ 0 := by omega
  have HS := Lib.hid hsize
  have HBI := Lib.hid hbits
  have HC := Lib.hid hcount
  have HDB := Lib.hid hdb
  have HV := Lib.hid hvec
  have HVO := Lib.hid hvok
  have HVL := Lib.hid hvl
  have hk00 : ¬ (k : Int) = 0 := by omega
  clear hsize hbits hcount hdb hvec hvok hvl hV hD hz hq z1 hp24
  go_enter Tryd.func21, Tryd.ntmps21
  go_wp2_with fail
  refine (HS.out _ hW).mono ?_
  rintro e w1 ⟨rfl, hK1⟩
  have hB1 := hB.keep hK1 (fun h => h)
  have hb1 : Below w.heap.size w w1 := hK1.below (fun _ h => h.elim) (Nat.le_refl _)
  go_wp2_with fail
  refine (HBI.out _).mono ?_
  rintro e w2 ⟨rfl, hb12⟩
  have hB2 := hB1.newB hb12
  have hb2 := hb1.trans (hb12.mono hb1.size)
  go_wp2_with fail
  refine (HDB.out _ hB2).mono ?_
  rintro e w3 ⟨rfl, hB3, hK3⟩
  have hK03 : Kept (· = g) w w3 := (Kept.of_below hb2).trans hK3
  go_wp2_with fail
  refine (HC.out _).mono ?_
  rintro e w4 ⟨rfl, hb34⟩
  have hB4 := hB3.newB hb34
  have hK04 := hK03.thenBelow hb34
  go_wp2_with fail
  refine (HV.out _ hm0 hm1 _).mono ?_
  rintro e w5 ⟨v5, rfl, hR5, hb45, hF5⟩
  have hB5 := hB4.newB hb45
  have hK05 := hK04.thenBelow hb45
  go_wp2_with fail
  refine (Fill_any lev hlev _ v5 _ hR5.sliceI (by rw [HVL.out]; omega) (HVO.out _ hm0 hm1).2).mono ?_
  rintro e w6 ⟨v6, rfl, hR6, hb56, hF6⟩
  have hB6 := hB5.newB hb56
  have hK06 := hK05.thenBelow hb56
  go_wp2_with fail
  go_ret
  exact ⟨_, rfl, hR6, hB6, hK06, Lib.hid (fun i hi => by have := hF6.out i hi; have := hK05.size; omega)⟩
end Go.Proofs.YtnohjidoelohkaaDoor
