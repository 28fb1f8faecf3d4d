/- The walk of the document's Right for encoders. -/
import Derived.Test.YthpjkgpngbdhbaaGreatDoorRRight
import Derived.Test.YthpjkgpngbdhbaaGreatDoorLaw15b
set_option linter.unusedSimpArgs false
set_option linter.unusedVariables false
namespace Go.Proofs.YthpjkgpngbdhbaaGreatDoor
open Go.RowKit

set_option maxRecDepth 100000 in
set_option maxHeartbeats 1600000 in
theorem RERight_any (P L : List Int) (last : Int) (h1 : P.length = 16) (h2 : L.length = 38) (w : World) :
    Calls Tryz.prog 14 #[.agg (arrV (encL P last L))] w fun r w' => r = .returned (.bool (rightE P last L)) ∧ Below w.heap.size w w' := by
  have LE := Len.mk (encL_len last h1 h2)
  have hpg : ∀ k, k < 16 → (encL P last L).getD k 0 = P.getD k 0 := fun k hk => by
    unfold encL; rw [List.getD_eq_getElem?_getD, List.getElem?_append_left (by omega), ← List.getD_eq_getElem?_getD]
  have hpl : (encL P last L).getD 16 0 = last := by unfold encL; simp [List.getD_eq_getElem?_getD, ← h1]
  have hpd : ((encL P last L).drop 17).take 38 = L := by
    have e : (encL P last L).drop 17 = L := by unfold encL; rw [List.drop_append]; simp [h1]
    rw [e]; exact List.take_of_length_le (by omega)
  have hri := fun w => RRight_any L h2 w
  have hno : ∀ k, k < 16 → lifted17 (P.getD k 0) = false → rightE P last L = false := fun k hk h => by
    have : P.all lifted17 = false := List.all_eq_false.2 ⟨P.getD k 0, by rw [List.getD_eq_getElem?_getD, List.getElem?_eq_getElem (by omega)]; exact List.getElem_mem _, by rw [h]; decide⟩
    unfold rightE; rw [this]; rfl
  have hnl : ¬ (-32768 ≤ last ∧ last ≤ 32767) → rightE P last L = false := fun h => by
    have : sound16 last = false := by
      cases hs : sound16 last with
      | false => rfl
      | true => exact absurd ((cut16_iff _).1 hs) h
    unfold rightE; rw [this]; simp
  have hye : (∀ k, k < 16 → lifted17 (P.getD k 0) = true) → (-32768 ≤ last ∧ last ≤ 32767) → rightE P last L = rightS L := fun ha hl => by
    have e1 : P.all lifted17 = true := List.all_eq_true.2 fun x hx => by
      obtain ⟨k, hk, rfl⟩ := List.mem_iff_getElem.1 hx
      have := ha k (by omega)
      rwa [List.getD_eq_getElem?_getD, List.getElem?_eq_getElem hk] at this
    unfold rightE; rw [e1, (cut16_iff _).2 hl]; simp
  obtain ⟨E, hE⟩ : ∃ E, encL P last L = E := ⟨_, rfl⟩
  obtain ⟨R, hR⟩ : ∃ R, rightE P last L = R := ⟨_, rfl⟩
  obtain ⟨b3, hb3⟩ : ∃ b, rightS L = b := ⟨_, rfl⟩
  rw [hE] at hpl hpd LE ⊢
  rw [hR]
  simp only [hE] at hpg
  simp only [hR, hb3] at hno hnl hye
  simp only [hb3] at hri
  have HPG := Lib.hid hpg
  have HRI := Lib.hid hri
  have HNO := Lib.hid hno
  have HNL := Lib.hid hnl
  have HYE := Lib.hid hye
  have HPD := Lib.hid hpd
  clear hE hR hb3 hpg hri hno hnl hye hpd
  obtain ⟨B, hB⟩ : ∃ B, w.heap.size = B := ⟨_, rfl⟩
  have hfar := Below.refl B w
  have hsz : B ≤ w.heap.size := by omega
  go_enter Tryz.func14, Tryz.ntmps14
  go_upto_region 1 with (fail)
  refine wp_gen (fun W => Blk W (B) (arrV E) 27 ∧ Below (B) w W ∧ B + 1 ≤ W.heap.size) ⟨bk_, bl_, sz_⟩ ?_
  clear hfar hsz
  rintro wa ⟨hA, hfar, hsz⟩
  go_wp2_with fail
  go_loop [3] (fun i => ∃ k : Nat, k ≤ 16 ∧ i = .int .i64 k ∧ Hid (∀ j, j < k → lifted17 (P.getD j 0) = true)) (fun i => 16 - (intOf i).toNat)
  case atStart => exact ⟨0, by omega, rfl, Lib.hid (fun j hj => by omega)⟩
  case round =>
    obtain ⟨k, hk, rfl, HA⟩ := hrel
    by_cases hlt : k < 16
    · have c0 := (hA.cell k).trans (arr_get (l := E) (by rw [LE.out]; omega))
      rw [HPG.out k hlt] at c0
      obtain ⟨x, hx⟩ : ∃ x, P.getD k 0 = x := ⟨_, rfl⟩
      rw [hx] at c0
      have HX := Lib.hid hx
      clear hx
      by_cases h3 : x < -131072
      · have hr : R = false := HNO.out k hlt (by rw [HX.out]; unfold lifted17; simp; omega)
        subst hr
        go_wp2_with fail
        go_ret
        exact ⟨rfl, (by (try rw [hB]); exact bl_)⟩
      · by_cases h4 : 131072 < x
        · have hr : R = false := HNO.out k hlt (by rw [HX.out]; unfold lifted17; simp; omega)
          subst hr
          go_wp2_with fail
          go_ret
          exact ⟨rfl, (by (try rw [hB]); exact bl_)⟩
        · have ht : lifted17 x = true := by unfold lifted17; simp; omega
          have HT := Lib.hid ht
          clear ht
          go_wp2_with fail
          go_round
          case rel => exact ⟨k + 1, hlt, by go_num, Lib.hid (fun j hj => by
            rcases Nat.lt_or_ge j k with h | h
            · exact HA.out j h
            · obtain rfl : j = k := by omega
              rw [HX.out]; exact HT.out)⟩
          case measure => simp [intOf]; omega
    · obtain rfl : k = 16 := by omega
      have c16 := (hA.cell 16).trans (arr_get (l := E) (by rw [LE.out]; omega))
      rw [hpl] at c16
      by_cases h3 : -32768 ≤ last
      · by_cases h4 : last ≤ 32767
        · have hr : R = b3 := HYE.out HA.out ⟨h3, h4⟩
          subst hr
          go_wp2_with (refine ldp 25 rfl (by rfl) w_RState rfl hA LE (by omega) ?_)
          rw [HPD.out]
          refine (HRI.out _).mono ?_
          rintro e w2 ⟨rfl, hb2⟩
          replace hA := hA.newB hb2
          replace hfar := hfar.trans (hb2.mono (by omega))
          replace hsz := Nat.le_trans hsz hb2.size
          go_wp2_with fail
          go_ret
          exact ⟨rfl, (by (try rw [hB]); exact bl_)⟩
        · have hr : R = false := HNL.out (by omega)
          subst hr
          go_wp2_with fail
          go_ret
          exact ⟨rfl, (by (try rw [hB]); exact bl_)⟩
      · have hr : R = false := HNL.out (by omega)
        subst hr
        go_wp2_with fail
        go_ret
        exact ⟨rfl, (by (try rw [hB]); exact bl_)⟩
end Go.Proofs.YthpjkgpngbdhbaaGreatDoor
