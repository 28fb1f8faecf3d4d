/- The walks of enc.sound, enc.every and enc.Right. -/
import Derived.Test.YthpjkgpngbdhbaaGreatDoorPack
set_option linter.unusedSimpArgs false
set_option linter.unusedVariables false
namespace Go.Proofs.YthpjkgpngbdhbaaGreatDoor
open Go.RowKit

def sound16 (x : Int) : Bool := decide (Sp.cut 16 x = x)
def lifted17 (x : Int) : Bool := decide (-131072 ≤ x) && decide (x ≤ 131072)
theorem esound_any (x : Int) (w : World) : Calls Tryz.prog 24 #[.int .i64 x] w fun e w' => e = .returned (.bool (sound16 x)) ∧ w = w' := by
  unfold sound16
  have hc := fun w => Cut16 x w
  obtain ⟨y, hy⟩ : ∃ y, Sp.cut 16 x = y := ⟨_, rfl⟩
  simp only [hy] at hc ⊢
  have HC := Lib.hid hc
  clear hc hy
  go_enter Tryz.func24, Tryz.ntmps24
  go_wp2_with fail
  refine (HC.out _).mono ?_
  rintro e w1 ⟨rfl, rfl⟩
  go_wp2_with fail
  go_ret
  exact ⟨by first | rfl | (simp; rfl), rfl⟩
theorem ERight1_any (x : Int) (w : World) : Calls Tryz.prog 27 #[.int .i64 x] w fun e w' => e = .returned (.bool (lifted17 x)) ∧ w = w' := by
  unfold lifted17
  by_cases h1 : -131072 ≤ x
  · go_enter Tryz.func27, Tryz.ntmps27
    go_wp2
    go_ret
    exact ⟨by simp [h1], rfl⟩
  · go_enter Tryz.func27, Tryz.ntmps27
    go_wp2
    go_ret
    exact ⟨by simp [h1]; try omega, rfl⟩
set_option maxHeartbeats 1600000 in
theorem every_any (f : FuncId) (p : Int → Bool) (l : List Int) (v : Value) (w : World) (hS : SliceI w v l) (hl : l.length ≤ 1000000) (hcf : ∀ (x : Int) (w : World), (callFunc f #[.int .i64 x]).run Tryz.prog w = .ok (.enter f #[.int .i64 x]) w) (hf : ∀ x ∈ l, ∀ w, Calls Tryz.prog f #[.int .i64 x] w fun e w' => e = .returned (.bool (p x)) ∧ w = w') :
    Calls Tryz.prog 23 #[v, .func (.func f) #[] #[]] w fun e w' => e = .returned (.bool (l.all p)) ∧ w = w' := by
  obtain ⟨o, cap, rfl, hc1, hc2, hcl⟩ := hS
  have HC := Lib.hid hcl
  have HF := Lib.hid hf
  obtain ⟨R, hR⟩ : ∃ R, l.all p = R := ⟨_, rfl⟩
  rw [hR]
  have HR := Lib.hid hR
  clear hcl hf hR
  go_enter Tryz.func23, Tryz.ntmps23
  go_wp2_with fail
  go_loop [9] (fun i => ∃ k : Nat, k ≤ l.length ∧ i = .int .i64 k ∧ Hid ((l.take k).all p = true)) (fun i => l.length - (intOf i).toNat)
  case atStart => exact ⟨0, Nat.zero_le _, rfl, Lib.hid rfl⟩
  case round =>
    obtain ⟨k, hk, rfl, HA⟩ := hrel
    by_cases hlt : k < l.length
    · obtain ⟨x, hx⟩ : ∃ x, l[k]? = some x := ⟨_, List.getElem?_eq_getElem hlt⟩
      obtain ⟨g, f0, rfl, hcell⟩ := HC.out k x hx
      have hfx := HF.out x (List.mem_of_getElem? hx)
      have htk : l.take (k + 1) = l.take k ++ [x] := by rw [List.take_add_one, hx]; rfl
      have hany : (l.take (k + 1)).all p = p x := by rw [htk, List.all_append, HA.out]; simp
      have hall : p x = false → R = false := fun h => by
        rw [← HR.out, List.all_eq_false]
        exact ⟨x, List.mem_of_getElem? hx, by rw [h]; decide⟩
      have HAN := Lib.hid hany
      have HAL := Lib.hid hall
      clear hany hall htk hx
      cases hp : p x with
      | false =>
        rw [hp] at hfx
        go_wp2_with fail
        refine (hfx _).mono ?_
        rintro e w1 ⟨rfl, rfl⟩
        go_wp2_with fail
        go_ret
        exact ⟨by rw [HAL.out hp]; rfl, rfl⟩
      | true =>
        rw [hp] at hfx
        go_wp2_with fail
        refine (hfx _).mono ?_
        rintro e w1 ⟨rfl, rfl⟩
        go_wp2_with fail
        go_round
        case rel => exact ⟨k + 1, hlt, by go_num, Lib.hid (by rw [HAN.out, hp])⟩
        case measure => simp [intOf]; omega
    · obtain rfl : k = l.length := by omega
      have h := HA.out
      rw [List.take_length, HR.out] at h
      subst h
      go_wp2_with fail
      go_ret
      exact ⟨rfl, rfl⟩
theorem sl_sliceI {W : World} {lo hi n cap : Nat} {p : Option Addr} {l : List Int} (h : SL W lo hi 1 p n cap (intsV l)) (hn : l.length = n) : SliceI W (.slice p n cap) l := by
  subst hn
  refine ⟨p, cap, rfl, h.2.1, by have := h.2.2.1; unfold maxLen at this; exact this, fun j x hx => ?_⟩
  have hj : j < l.length := (List.getElem?_eq_some_iff.1 hx).1
  obtain ⟨g, f, rfl⟩ := sl_someE h (by omega)
  exact ⟨g, f, rfl, h.2.2.2.2.2.2 _ rfl j _ (by rw [List.getElem?_map, hx]; rfl)⟩
def encL (P : List Int) (last : Int) (L : List Int) : List Int := P ++ last :: L
def rightE (P : List Int) (last : Int) (L : List Int) : Bool := P.all lifted17 && sound16 last && rightS L
theorem encL_len {P L : List Int} (last : Int) (h1 : P.length = 16) (h2 : L.length = 38) : (encL P last L).length = 55 := by
  unfold encL; rw [List.length_append, List.length_cons]; omega
set_option maxRecDepth 100000 in
set_option maxHeartbeats 1600000 in
theorem ERight_any (P L : List Int) (last : Int) (h1 : P.length = 16) (h2 : L.length = 38) (w : World) :
    Calls Tryz.prog 13 #[.agg (arrV (encL P last L))] w fun e w' => e = .returned (.bool (rightE P last L)) ∧ Below w.heap.size w w' := by
  have LE := Len.mk (encL_len last h1 h2)
  have hpt : (encL P last L).take 16 = P := by unfold encL; rw [← h1, List.take_left']; rfl
  have hpd : (encL P last L).drop 17 = L := by unfold encL; rw [List.drop_append]; simp [h1]
  have hpl : (encL P last L).getD 16 0 = last := by unfold encL; simp [List.getD_eq_getElem?_getD, ← h1]
  have hev := fun v w h => every_any 27 lifted17 P v w h (by omega) (fun _ _ => by kernel_rfl) (fun x _ w => ERight1_any x w)
  have hso := fun w => esound_any last w
  have hri := fun w => Right_any L h2 w
  have hre : rightE P last L = (P.all lifted17 && sound16 last && rightS L) := rfl
  obtain ⟨E, hE⟩ : ∃ E, encL P last L = E := ⟨_, rfl⟩
  rw [hE] at hpt hpd hpl LE ⊢
  obtain ⟨b1, hb1⟩ : ∃ b, P.all lifted17 = b := ⟨_, rfl⟩
  obtain ⟨b2, hb2⟩ : ∃ b, sound16 last = b := ⟨_, rfl⟩
  obtain ⟨b3, hb3⟩ : ∃ b, rightS L = b := ⟨_, rfl⟩
  rw [hb1, hb2, hb3] at hre
  simp only [hb1] at hev
  simp only [hb2] at hso
  simp only [hb3] at hri
  have HEV := Lib.hid hev
  have HSO := Lib.hid hso
  have HRI := Lib.hid hri
  rw [hre]
  clear hev hso hri hE hb1 hb2 hb3 hre
  obtain ⟨B, hB⟩ : ∃ B, w.heap.size = B := ⟨_, rfl⟩
  have hfar := Below.refl B w
  have hsz : B ≤ w.heap.size := by omega
  go_enter Tryz.func13, Tryz.ntmps13
  go_upto_region 2 with (fail)
  refine wp_gen (fun W => Blk W (B) (arrV E) 36 ∧ Below (B) w W ∧ B + 1 ≤ W.heap.size) ⟨bk_, bl_, sz_⟩ ?_
  clear hfar hsz
  rintro wa ⟨hA, hfar, hsz⟩
  have hsp := sl_part hA 0 16 (by rw [LE.out]; omega) (by omega)
  rw [List.drop_zero, hpt] at hsp
  have c16 := (hA.cell 16).trans (arr_get (l := E) (by rw [LE.out]; omega))
  rw [hpl] at c16
  go_wp2_with fail
  refine (HEV.out _ _ (sl_sliceI hsp h1)).mono ?_
  rintro e w1 ⟨rfl, rfl⟩
  clear hsp
  cases b1 with
  | false =>
    go_wp2_with fail
    go_ret
    exact ⟨rfl, (by (try rw [hB]); exact bl_)⟩
  | true =>
    go_wp2_with fail
    refine (HSO.out _).mono ?_
    rintro e w1 ⟨rfl, rfl⟩
    cases b2 with
    | false =>
      go_wp2_with fail
      go_ret
      exact ⟨rfl, (by (try rw [hB]); exact bl_)⟩
    | true =>
      go_wp2_with (refine ldp 34 rfl (by rfl) w_State rfl hA LE (by omega) ?_)
      rw [List.take_of_length_le (by omega)]
      refine (HRI.out _).mono ?_
      rintro e w2 ⟨rfl, hb2⟩
      replace hA := hA.newB hb2
      replace hfar := hfar.trans (hb2.mono (by omega))
      replace hsz := Nat.le_trans hsz hb2.size
      go_wp2_with fail
      go_ret
      exact ⟨by simp, (by (try rw [hB]); exact bl_)⟩
end Go.Proofs.YthpjkgpngbdhbaaGreatDoor
