/- The walks of the document's word and Bytes (spoolref12). -/
import Derived.Test.YtmfihaaiddolmaaGreatDoorRef13c
import Derived.Test.YtmfihaaiddolmaaGreatDoorSpecBack
set_option linter.unusedSimpArgs false
set_option linter.unusedVariables false
namespace Go.Proofs.YtmfihaaiddolmaaGreatDoor
open Go.RowKit

def bstr (l : List UInt8) : ByteArray := ⟨l.toArray⟩
theorem bstr_app (a b : List UInt8) : bstr a ++ bstr b = bstr (a ++ b) := by
  apply ByteArray.ext
  simp [bstr]
theorem bstr_size (l : List UInt8) : (bstr l).size = l.length := by simp [bstr, ByteArray.size]
theorem byte_conv (b : Int) (w : World) {B : Nat} (hB : w.heap.size = B) : (convert 71 9 (.slice (some ⟨B, 0, none⟩) 1 1)).run Tryz.prog (w.alloc (.cells #[.int .u8 b] 5)) = .ok (.string (strOfNums [b])) (w.alloc (.cells #[.int .u8 b] 5)) := by
  have hb : Blk (w.alloc (.cells #[.int .u8 b] 5)) B _ 5 := Blk.newAt hB.symm
  refine run_convert_bytes_arg _ 71 5 Tryz.underlying71 Tryz.underlying5 B 0 1 1 [b] rfl (fun i hi => ?_) 9 Tryz.underlying9
  rw [Nat.zero_add, hb.cell i]
  match i, hi with
  | 0, _ => rfl
theorem str_one (b : Int) : strOfNums [b] = bstr [UInt8.ofNat b.toNat] := rfl
theorem bl4_get {x : Int} {k : Nat} (h : k < 4) : (bl4 x).take (k + 1) = (bl4 x).take k ++ [UInt8.ofNat ((x % 4294967296) / 256 ^ k % 256).toNat] := by
  have h1 : 0 ≤ x % 4294967296 := Int.emod_nonneg _ (by decide)
  have h2 : x % 4294967296 < 4294967296 := Int.emod_lt_of_pos _ (by decide)
  unfold bl4
  obtain ⟨y, hy⟩ : ∃ y, x % 4294967296 = y := ⟨_, rfl⟩
  rw [hy] at h1 h2 ⊢
  unfold fourN strOfNums
  have : k = 0 ∨ k = 1 ∨ k = 2 ∨ k = 3 := by omega
  rcases this with rfl | rfl | rfl | rfl
  · simp
  · simp
  · simp
  · have : y / 16777216 % 256 = y / 16777216 := by omega
    simp [this]
set_option maxRecDepth 100000 in
set_option maxHeartbeats 1000000 in
theorem RWord_any (x : Int) (h0 : -2147483648 ≤ x) (h1 : x ≤ 2147483647) (w : World) : Calls Tryz.prog 101 #[.int .i64 x] w fun r w' => r = .returned (.string (bstr (bl4 x))) ∧ Below w.heap.size w w' := by
  have hbl := bl4_len x
  have hst := fun k (h : k < 4) => bl4_get (x := x) h
  obtain ⟨y, hy⟩ : ∃ y, x % 4294967296 = y := ⟨_, rfl⟩
  simp only [hy] at hst
  obtain ⟨l, hl⟩ : ∃ l, bl4 x = l := ⟨_, rfl⟩
  simp only [hl] at hst hbl ⊢
  have HBL := Lib.hid hbl
  have HST := Lib.hid hst
  clear hbl hst hl
  have hy0 : 0 ≤ y ∧ y ≤ 4294967295 := by omega
  obtain ⟨B, hB⟩ : ∃ B, w.heap.size = B := ⟨_, rfl⟩
  have hfar := Below.refl B w
  have hsz : B ≤ w.heap.size := by omega
  have hxy : x < 0 ∧ x + 4294967296 = y ∨ ¬ x < 0 ∧ x = y := by omega
  go_enter Tryz.func101, Tryz.ntmps101
  go_upto_if 6 with (fail)
  go_cut [0] from 7 to 8 (fun s0 wx => s0 = .int .i64 y ∧ Below B w wx)
  case first =>
    rcases hxy with ⟨hn, he⟩ | ⟨hn, he⟩
    · go_wp2_with fail
      go_meet
      case rel => exact ⟨by rw [← he], by exact bl_⟩
    · subst he
      go_wp2_with fail
      go_meet
      case rel => exact ⟨rfl, by exact bl_⟩
  case rest =>
    obtain ⟨rfl, hfar⟩ := hcut
    clear hxy hy h0 h1
    have hsz := hfar.size
    go_wp2_with fail
    go_loopw [0, 3, 4] (fun xv sv i wr => ∃ k : Nat, k ≤ 4 ∧ i = .int .i64 k ∧ xv = .int .i64 (y / 256 ^ k) ∧ sv = .string (bstr (l.take k)) ∧ Below B w wr ∧ B ≤ wr.heap.size) (fun _ _ i _ => 4 - (intOf i).toNat)
    case atStart => exact ⟨0, by omega, rfl, by simp, rfl, hfar, by omega⟩
    case round =>
      clear hfar hsz
      obtain ⟨k, hk, rfl, rfl, rfl, hfar, hsz⟩ := hrel
      by_cases hlt : k < 4
      · have hlti : (k : Int) < 4 := by omega
        have hnx := HST.out k hlt
        have hsz1 : ((bstr (l.take k)).size : Int) ≤ 8388608 := by rw [bstr_size, List.length_take, HBL.out]; omega
        have hd : y / 256 ^ (k + 1) = y / 256 ^ k / 256 := by rw [Int.pow_succ, ← Int.ediv_ediv_of_nonneg (Int.pow_nonneg (by decide))]
        have hz0 : 0 ≤ y / 256 ^ k := Int.ediv_nonneg hy0.1 (Int.pow_nonneg (by decide))
        have hz1 : y / 256 ^ k ≤ 4294967295 := by
          have := Int.ediv_le_self (256 ^ k) hy0.1
          omega
        obtain ⟨z, hz⟩ : ∃ z, y / 256 ^ k = z := ⟨_, rfl⟩
        rw [hz] at hnx hd hz0 hz1 ⊢
        have hq : z.tdiv 256 = z / 256 := Int.tdiv_eq_ediv_of_nonneg hz0
        have hm : z.tmod 256 = z % 256 := Int.tmod_eq_emod_of_nonneg hz0
        obtain ⟨c, hc⟩ : ∃ c, z % 256 = c := ⟨_, rfl⟩
        rw [hc] at hm hnx
        have hc0 : 0 ≤ c ∧ c ≤ 255 := by omega
        have hcv := byte_conv c wr rfl
        have hcz : ((strOfNums [c]).size : Int) ≤ 8388608 := by rw [strOfNums_size]; simp
        have hjoin : bstr (l.take k) ++ strOfNums [c] = bstr (l.take (k + 1)) := by rw [str_one, bstr_app, hnx]
        obtain ⟨s1, hs1⟩ : ∃ s, bstr (l.take k) = s := ⟨_, rfl⟩
        obtain ⟨s2, hs2⟩ : ∃ s, strOfNums [c] = s := ⟨_, rfl⟩
        rw [hs1] at hsz1 hjoin ⊢
        rw [hs2] at hcz hjoin hcv
        have HJ := Lib.hid hjoin
        have HD := Lib.hid hd
        clear hnx hjoin hd hz hc hs1 hs2
        go_wp2_with fail
        go_roundw
        case rel => exact ⟨k + 1, hlt, by go_num, by rw [HD.out], by rw [HJ.out], by exact bl_, by exact sz_⟩
        case measure => simp [intOf]; omega
      · obtain rfl : k = 4 := by omega
        have ht : l.take 4 = l := List.take_of_length_le (by rw [HBL.out]; omega)
        rw [ht]
        go_wp2_with fail
        go_ret
        exact ⟨rfl, (by (try rw [hB]); exact bl_)⟩
theorem bl4_flat_take {l : List Int} {k : Nat} (h : k < l.length) : (l.take (k + 1)).flatMap bl4 = (l.take k).flatMap bl4 ++ bl4 (l.getD k 0) := by
  rw [List.take_add_one, List.getElem?_eq_getElem h, Option.toList_some, List.flatMap_append, List.flatMap_singleton, List.getD_eq_getElem?_getD, List.getElem?_eq_getElem h]
  rfl
theorem b8_take {l : List Int} {k : Nat} (h : k < l.length) : (l.take (k + 1)).map b8 = (l.take k).map b8 ++ [b8 (l.getD k 0)] := by
  rw [List.take_add_one, List.getElem?_eq_getElem h, Option.toList_some, List.map_append, List.map_singleton, List.getD_eq_getElem?_getD, List.getElem?_eq_getElem h]
  rfl
theorem flat4_take_len {l : List Int} {k : Nat} : ((l.take k).flatMap bl4).length ≤ l.length * 4 := by
  rw [flat4_len, List.length_take]; omega
theorem str_b8 {x : Int} (h0 : 0 ≤ x) (h1 : x ≤ 255) : strOfNums [x] = bstr [b8 x] := by
  rw [str_one]; unfold b8
  rw [show x % 256 = x by omega]
set_option maxRecDepth 100000 in
set_option maxHeartbeats 4000000 in
theorem RBytes_any (L : List Int) (hL : L.length = 38) (hr : rightS L = true) (w : World) : Calls Tryz.prog 63 #[.agg (arrV L)] w fun r w' => r = .returned (.string (bytesS L)) ∧ Below w.heap.size w w' := by
  have LL := Len.mk hL
  have hbs : bytesS L = bstr (bytesL L) := by unfold bytesS; rw [if_pos hr]; rfl
  have hbl : bytesL L = (memL L).flatMap bl4 ++ bl4 (lastL L) ++ (levL L).map b8 ++ (wavL L).flatMap bl4 ++ [b8 (lostL L)] := rfl
  rw [hbs, hbl]
  have hrp := right_parts hr
  have hm : ∀ k < 16, -2147483648 ≤ (memL L).getD k 0 ∧ (memL L).getD k 0 ≤ 2147483647 := by
    intro k hk
    have h := hr
    unfold rightS at h
    simp only [Bool.and_eq_true] at h
    have h1 := h.1.1.1.1.1
    have hmm : (memL L).getD k 0 ∈ memL L := by rw [List.getD_eq_getElem?_getD, List.getElem?_eq_getElem (by rw [LL.mem.out]; exact hk)]; exact List.getElem_mem _
    have h2 := List.all_eq_true.1 h1 _ hmm
    rw [fitP_eq] at h2; exact of_decide_eq_true h2
  have hla : -2147483648 ≤ lastL L ∧ lastL L ≤ 2147483647 := by
    have h := hr
    unfold rightS at h
    simp only [Bool.and_eq_true] at h
    have h1 := h.1.1.1.2
    rw [cut22_eq] at h1; have := of_decide_eq_true h1; omega
  have hwb : ∀ k < 16, -2147483648 ≤ (wavL L).getD k 0 ∧ (wavL L).getD k 0 ≤ 2147483647 := by
    intro k hk
    have h1 := hrp.2.1
    rw [List.any_eq_false] at h1
    have hmm : (wavL L).getD k 0 ∈ wavL L := by rw [List.getD_eq_getElem?_getD, List.getElem?_eq_getElem (by rw [LL.wav.out]; exact hk)]; exact List.getElem_mem _
    have h2 := h1 _ hmm
    unfold wideP at h2
    simp only [Bool.or_eq_true, decide_eq_true_eq, not_or] at h2
    omega
  have hvb : ∀ k < 4, 0 ≤ (levL L).getD k 0 ∧ (levL L).getD k 0 ≤ 20 := by
    intro k hk
    have hmm : (levL L).getD k 0 ∈ levL L := by rw [List.getD_eq_getElem?_getD, List.getElem?_eq_getElem (by rw [LL.lev.out]; exact hk)]; exact List.getElem_mem _
    exact hrp.1 _ hmm
  have hlo := hrp.2.2
  have gm : ∀ k, k < 16 → L.getD k 0 = (memL L).getD k 0 := fun k hk => by
    unfold memL; rw [List.getD_eq_getElem?_getD, List.getD_eq_getElem?_getD, List.getElem?_take, if_pos hk]
  have gw : ∀ k, k < 16 → L.getD (21 + k) 0 = (wavL L).getD k 0 := fun k hk => by
    unfold wavL; rw [List.getD_eq_getElem?_getD, List.getD_eq_getElem?_getD, List.getElem?_take, if_pos hk, List.getElem?_drop]
  have gv : ∀ k, k < 4 → L.getD (17 + k) 0 = (levL L).getD k 0 := fun k hk => by
    unfold levL; rw [List.getD_eq_getElem?_getD, List.getD_eq_getElem?_getD, List.getElem?_take, if_pos hk, List.getElem?_drop]
  have g16 : L.getD 16 0 = lastL L := rfl
  have g37 : L.getD 37 0 = lostL L := rfl
  have LM := LL.mem
  have LV := LL.lev
  have LW := LL.wav
  obtain ⟨ml, hml⟩ : ∃ x, memL L = x := ⟨_, rfl⟩
  obtain ⟨vl, hvl⟩ : ∃ x, levL L = x := ⟨_, rfl⟩
  obtain ⟨wl, hwl⟩ : ∃ x, wavL L = x := ⟨_, rfl⟩
  obtain ⟨la, hlae⟩ : ∃ x, lastL L = x := ⟨_, rfl⟩
  obtain ⟨lo, hloe⟩ : ∃ x, lostL L = x := ⟨_, rfl⟩
  simp only [hml, hvl, hwl, hlae, hloe] at hm hla hwb hvb hlo gm gw gv g16 g37 LM LV LW ⊢
  have HM := Lib.hid hm
  have HWB := Lib.hid hwb
  have HVB := Lib.hid hvb
  have GM := Lib.hid gm
  have GW := Lib.hid gw
  have GV := Lib.hid gv
  have G16 := Lib.hid g16
  have G37 := Lib.hid g37
  obtain ⟨s1, hs1⟩ : ∃ x, ml.flatMap bl4 = x := ⟨_, rfl⟩
  have l1 : s1.length = 64 := by rw [← hs1, flat4_len, LM.out]
  obtain ⟨R, hRe⟩ : ∃ R, bstr (s1 ++ bl4 la ++ vl.map b8 ++ wl.flatMap bl4 ++ [b8 lo]) = R := ⟨_, rfl⟩
  rw [hs1, hRe]
  have HRE := Lib.hid hRe
  clear hm hwb hvb gm gw gv g16 g37 hml hvl hwl hlae hloe hbs hbl hrp hL hRe
  obtain ⟨B, hB⟩ : ∃ B, w.heap.size = B := ⟨_, rfl⟩
  have hfar := Below.refl B w
  have hsz : B ≤ w.heap.size := by omega
  go_enter Tryz.func63, Tryz.ntmps63
  go_upto_region 1 with (fail)
  refine wp_gen (fun W => Blk W (B) (arrV L) 25 ∧ Below (B) w W ∧ B + 1 ≤ W.heap.size) ⟨bk_, bl_, sz_⟩ ?_
  clear hfar hsz
  rintro w1 ⟨hA, hfar, hsz⟩
  go_wp2_with fail
  go_loopw [3, 4] (fun sv i wr => ∃ k : Nat, k ≤ 16 ∧ i = .int .i64 k ∧ sv = .string (bstr ((ml.take k).flatMap bl4)) ∧ Blk wr B (arrV L) 25 ∧ Below B w wr ∧ B + 1 ≤ wr.heap.size) (fun _ i _ => 16 - (intOf i).toNat)
  case atStart => exact ⟨0, by omega, rfl, by simp [bstr], hA, hfar, hsz⟩
  case round =>
    clear hA hfar hsz
    obtain ⟨k, hk, rfl, rfl, hA, hfar, hsz⟩ := hrel
    by_cases hlt : k < 16
    · have hlti : (k : Int) < 16 := by omega
      have c1 := (hA.cell k).trans (arr_get (l := L) (by rw [LL.out]; omega))
      rw [GM.out k hlt] at c1
      have hx := HM.out k hlt
      have hnx := bl4_flat_take (l := ml) (k := k) (by rw [LM.out]; exact hlt)
      have hz1 : ((bstr ((ml.take k).flatMap bl4)).size : Int) ≤ 8388608 := by rw [bstr_size]; have := flat4_take_len (l := ml) (k := k); rw [LM.out] at this; omega
      obtain ⟨x, hxe⟩ : ∃ x, ml.getD k 0 = x := ⟨_, rfl⟩
      rw [hxe] at c1 hx hnx
      have hwd := fun w => RWord_any x hx.1 hx.2 w
      have hz2 : ((bstr (bl4 x)).size : Int) ≤ 8388608 := by rw [bstr_size, bl4_len]; omega
      have hj : bstr ((ml.take k).flatMap bl4) ++ bstr (bl4 x) = bstr ((ml.take (k + 1)).flatMap bl4) := by rw [bstr_app, hnx]
      obtain ⟨a1, ha1⟩ : ∃ s, bstr ((ml.take k).flatMap bl4) = s := ⟨_, rfl⟩
      obtain ⟨a2, ha2⟩ : ∃ s, bstr (bl4 x) = s := ⟨_, rfl⟩
      rw [ha1] at hz1 hj ⊢
      rw [ha2] at hz2 hj
      simp only [ha2] at hwd
      have HJ := Lib.hid hj
      have HWD := Lib.hid hwd
      clear hnx hj hwd ha1 ha2 hxe
      go_wp2_with fail
      refine (HWD.out _).mono ?_
      rintro e w2 ⟨rfl, hb2⟩
      replace hA := hA.newB hb2
      replace hfar := hfar.trans (hb2.mono (by omega))
      replace hsz := Nat.le_trans hsz hb2.size
      go_wp2_with fail
      go_roundw
      case rel => exact ⟨k + 1, hlt, by go_num, by rw [HJ.out], hA, hfar, hsz⟩
      case measure => simp [intOf]; omega
    · have hbe : (k : Int) = 16 := by omega
      rw [show ml.take k = ml from List.take_of_length_le (by rw [LM.out]; omega), hs1]
      simp only [hbe]
      clear hbe hlt hk k
      have c1 := (hA.cell 16).trans (arr_get (l := L) (by rw [LL.out]; omega))
      rw [G16.out] at c1
      have hwd := fun w => RWord_any la hla.1 hla.2 w
      have hz1 : ((bstr s1).size : Int) ≤ 8388608 := by rw [bstr_size, l1]; omega
      have hz2 : ((bstr (bl4 la)).size : Int) ≤ 8388608 := by rw [bstr_size, bl4_len]; omega
      have hj : bstr s1 ++ bstr (bl4 la) = bstr (s1 ++ bl4 la) := bstr_app _ _
      obtain ⟨s2, hs2⟩ : ∃ x, s1 ++ bl4 la = x := ⟨_, rfl⟩
      have l2 : s2.length = 68 := by rw [← hs2, List.length_append, l1, bl4_len]
      rw [hs2] at hj
      rw [hs2] at HRE
      have HWD := Lib.hid hwd
      obtain ⟨a1, ha1⟩ : ∃ s, bstr s1 = s := ⟨_, rfl⟩
      obtain ⟨a2, ha2⟩ : ∃ s, bstr (bl4 la) = s := ⟨_, rfl⟩
      rw [ha1] at hz1 hj ⊢
      rw [ha2] at hz2 hj
      rw [ha2] at HWD
      have HJ := Lib.hid hj
      clear hwd hj ha1 ha2 hs2 hs1 l1
      go_wp2_with fail
      refine (HWD.out _).mono ?_
      rintro e w2 ⟨rfl, hb2⟩
      replace hA := hA.newB hb2
      replace hfar := hfar.trans (hb2.mono (by omega))
      replace hsz := Nat.le_trans hsz hb2.size
      go_upto_region 7 with (fail)
      rw [HJ.out]
      clear hz1 hz2 c1 HJ HWD
      go_wp2_with fail
      go_loopw [3, 5] (fun sv i wr => ∃ k : Nat, k ≤ 4 ∧ i = .int .i64 k ∧ sv = .string (bstr (s2 ++ (vl.take k).map b8)) ∧ Blk wr B (arrV L) 25 ∧ Below B w wr ∧ B + 1 ≤ wr.heap.size) (fun _ i _ => 4 - (intOf i).toNat)
      case atStart => exact ⟨0, by omega, rfl, by simp, hA, hfar, hsz⟩
      case round =>
        clear hA hfar hsz
        obtain ⟨k, hk, rfl, rfl, hA, hfar, hsz⟩ := hrel
        by_cases hlt : k < 4
        · have hlti : (k : Int) < 4 := by omega
          have c1 := (hA.cell (17 + k)).trans (arr_get (l := L) (by rw [LL.out]; omega))
          rw [GV.out k hlt] at c1
          have hx := HVB.out k hlt
          have hnx := b8_take (l := vl) (k := k) (by rw [LV.out]; exact hlt)
          have hz1 : ((bstr (s2 ++ (vl.take k).map b8)).size : Int) ≤ 8388608 := by rw [bstr_size, List.length_append, List.length_map, List.length_take, l2]; omega
          obtain ⟨x, hxe⟩ : ∃ x, vl.getD k 0 = x := ⟨_, rfl⟩
          rw [hxe] at c1 hx hnx
          have hcv := byte_conv x wr rfl
          have hz2 : ((strOfNums [x]).size : Int) ≤ 8388608 := by rw [strOfNums_size]; simp
          have hj : bstr (s2 ++ (vl.take k).map b8) ++ strOfNums [x] = bstr (s2 ++ (vl.take (k + 1)).map b8) := by rw [str_b8 hx.1 (by omega), bstr_app, hnx, List.append_assoc]
          obtain ⟨a1, ha1⟩ : ∃ s, bstr (s2 ++ (vl.take k).map b8) = s := ⟨_, rfl⟩
          obtain ⟨a2, ha2⟩ : ∃ s, strOfNums [x] = s := ⟨_, rfl⟩
          rw [ha1] at hz1 hj ⊢
          rw [ha2] at hz2 hj hcv
          have HJ := Lib.hid hj
          clear hnx hj ha1 ha2 hxe
          go_wp2_with fail
          go_roundw
          case rel => exact ⟨k + 1, hlt, by go_num, by rw [HJ.out], by exact bk_, by exact bl_, by exact sz_⟩
          case measure => simp [intOf]; omega
        · have hbe : (k : Int) = 4 := by omega
          rw [show vl.take k = vl from List.take_of_length_le (by rw [LV.out]; omega)]
          simp only [hbe]
          clear hbe hlt hk k
          obtain ⟨s3, hs3⟩ : ∃ x, s2 ++ vl.map b8 = x := ⟨_, rfl⟩
          have l3 : s3.length = 72 := by rw [← hs3, List.length_append, List.length_map, l2, LV.out]
          rw [hs3]
          rw [hs3] at HRE
          clear hs3 l2
          go_wp2_with fail
          go_loopw [3, 6] (fun sv i wr => ∃ k : Nat, k ≤ 16 ∧ i = .int .i64 k ∧ sv = .string (bstr (s3 ++ (wl.take k).flatMap bl4)) ∧ Blk wr B (arrV L) 25 ∧ Below B w wr ∧ B + 1 ≤ wr.heap.size) (fun _ i _ => 16 - (intOf i).toNat)
          case atStart => exact ⟨0, by omega, rfl, by simp, hA, hfar, hsz⟩
          case round =>
            clear hA hfar hsz
            obtain ⟨k, hk, rfl, rfl, hA, hfar, hsz⟩ := hrel
            by_cases hlt : k < 16
            · have hlti : (k : Int) < 16 := by omega
              have c1 := (hA.cell (21 + k)).trans (arr_get (l := L) (by rw [LL.out]; omega))
              rw [GW.out k hlt] at c1
              have hx := HWB.out k hlt
              have hnx := bl4_flat_take (l := wl) (k := k) (by rw [LW.out]; exact hlt)
              have hz1 : ((bstr (s3 ++ (wl.take k).flatMap bl4)).size : Int) ≤ 8388608 := by rw [bstr_size, List.length_append, l3]; have := flat4_take_len (l := wl) (k := k); rw [LW.out] at this; omega
              obtain ⟨x, hxe⟩ : ∃ x, wl.getD k 0 = x := ⟨_, rfl⟩
              rw [hxe] at c1 hx hnx
              have hwd := fun w => RWord_any x hx.1 hx.2 w
              have hz2 : ((bstr (bl4 x)).size : Int) ≤ 8388608 := by rw [bstr_size, bl4_len]; omega
              have hj : bstr (s3 ++ (wl.take k).flatMap bl4) ++ bstr (bl4 x) = bstr (s3 ++ (wl.take (k + 1)).flatMap bl4) := by rw [bstr_app, hnx, List.append_assoc]
              obtain ⟨a1, ha1⟩ : ∃ s, bstr (s3 ++ (wl.take k).flatMap bl4) = s := ⟨_, rfl⟩
              obtain ⟨a2, ha2⟩ : ∃ s, bstr (bl4 x) = s := ⟨_, rfl⟩
              rw [ha1] at hz1 hj ⊢
              rw [ha2] at hz2 hj
              simp only [ha2] at hwd
              have HJ := Lib.hid hj
              have HWD := Lib.hid hwd
              clear hnx hj hwd ha1 ha2 hxe
              go_wp2_with fail
              refine (HWD.out _).mono ?_
              rintro e w4 ⟨rfl, hb4⟩
              replace hA := hA.newB hb4
              replace hfar := hfar.trans (hb4.mono (by omega))
              replace hsz := Nat.le_trans hsz hb4.size
              go_wp2_with fail
              go_roundw
              case rel => exact ⟨k + 1, hlt, by go_num, by rw [HJ.out], hA, hfar, hsz⟩
              case measure => simp [intOf]; omega
            · obtain rfl : k = 16 := by omega
              rw [show wl.take 16 = wl from List.take_of_length_le (by rw [LW.out]; omega)]
              have hz1 : ((bstr (s3 ++ wl.flatMap bl4)).size : Int) ≤ 8388608 := by rw [bstr_size, List.length_append, l3, flat4_len, LW.out]; omega
              have c1 := (hA.cell 37).trans (arr_get (l := L) (by rw [LL.out]; omega))
              rw [G37.out] at c1
              have hcv := byte_conv lo wr rfl
              have hz2 : ((strOfNums [lo]).size : Int) ≤ 8388608 := by rw [strOfNums_size]; simp
              have hj : bstr (s3 ++ wl.flatMap bl4) ++ strOfNums [lo] = bstr (s3 ++ wl.flatMap bl4 ++ [b8 lo]) := by rw [str_b8 hlo.1 hlo.2, bstr_app]
              obtain ⟨a1, ha1⟩ : ∃ s, bstr (s3 ++ wl.flatMap bl4) = s := ⟨_, rfl⟩
              obtain ⟨a2, ha2⟩ : ∃ s, strOfNums [lo] = s := ⟨_, rfl⟩
              rw [ha1] at hz1 hj ⊢
              rw [ha2] at hz2 hj hcv
              have HJ := Lib.hid (hj.trans HRE.out)
              clear hj ha1 ha2
              go_wp2_with fail
              go_ret
              exact ⟨by rw [← HJ.out]; rfl, (by (try rw [hB]); exact bl_)⟩
end Go.Proofs.YtmfihaaiddolmaaGreatDoor
