/- The walk of state.Bytes. -/
import Derived.Test.YtbpdocdomjafbaaGreatDoorSpecBack
import Derived.Test.YtbpdocdomjafbaaGreatDoorShelf
set_option linter.unusedSimpArgs false
set_option linter.unusedVariables false
namespace Go.Proofs.YtbpdocdomjafbaaGreatDoor
open Go.RowKit

theorem b8_mod (x : Int) : ((b8 x).toNat : Int) = x % 256 := by
  unfold b8
  rw [UInt8.toNat_ofNat']
  omega
theorem byteC_one (x : Int) : Lib.byteCells [b8 x] = [.int .u8 (x % 256)] := by
  unfold Lib.byteCells; rw [List.map_singleton, b8_mod]
theorem arr_at {L l : List Int} {n o m k : Nat} (h : Len L n) (hl : (L.drop o).take m = l) (hk : k < m) (hm : o + m ≤ n) : (arrV L)[o + k]? = some (.int .i64 (l.getD k 0)) := by
  subst hl
  have h1 : o + k < L.length := by have := h.out; omega
  have e : L[o + k]? = some (L[o + k]) := List.getElem?_eq_getElem h1
  rw [List.getD_eq_getElem?_getD, List.getElem?_take, if_pos hk, List.getElem?_drop, e]
  simp [List.getElem?_map, e]
theorem levB_len (L : List Int) (k : Nat) : ((levL L).take k).length ≤ 4 := by
  unfold levL; rw [List.length_take, List.length_take]; omega
theorem memB_len {L : List Int} (h : Len L 38) : ((memL L).flatMap bl4).length = 64 := by rw [flat4_len, h.mem.out]
theorem wavB_len {L : List Int} (h : Len L 38) : ((wavL L).flatMap bl4).length = 64 := by rw [flat4_len, h.wav.out]
theorem fresh_builder {W : World} {b : Nat} (h : Blk W b #[.pointer none, .slice none 0 0] 67) : Lib.IsBuilder 67 5 b b (Lib.byteCells []) W :=
  .inl ⟨Nat.le_refl _, .slice none 0 0, h, World.ownsRow_nil _ _ _ _, by simp [Value.ownBlock]⟩
set_option maxRecDepth 100000 in
set_option maxHeartbeats 4000000 in
theorem SBytes_any (L : List Int) (hL : L.length = 38) (w : World) : Calls Tryz.prog 16 #[.agg (arrV L)] w fun r w' => r = .returned (.tuple #[.string (bytesS L), .int .i64 (bytesE L)]) ∧ Below w.heap.size w w' := by
  have LL := Len.mk hL
  obtain ⟨O, hO⟩ : ∃ O, bytesS L = O := ⟨_, rfl⟩
  obtain ⟨E, hE⟩ : ∃ E, bytesE L = E := ⟨_, rfl⟩
  rw [hO, hE]
  have HO := Lib.hid hO
  have HE := Lib.hid hE
  have hRt := fun w => Right_any L hL w
  have HRT := Lib.hid hRt
  clear hO hE hL hRt
  obtain ⟨B, hB⟩ : ∃ B, w.heap.size = B := ⟨_, rfl⟩
  have hfar := Below.refl B w
  have hsz : B ≤ w.heap.size := by omega
  go_enter Tryz.func16, Tryz.ntmps16
  go_upto_region 1 with (fail)
  refine wp_gen (fun W => Blk W (B) (arrV L) 33 ∧ Below (B) w W ∧ B + 1 ≤ W.heap.size) ⟨bk_, bl_, sz_⟩ ?_
  clear hfar hsz
  rintro w1 ⟨hA, hfar, hsz⟩
  go_wp2_with (first | (refine st 36 rfl (by rfl) w_Entry rfl rfl bk_ zz_ zz_ one_ ?_) | (refine ld 36 rfl (by rfl) w_Entry rfl bk_ zz_ ?_) | (refine bd 33 rfl (by rfl) rfl state_zs ?_) | (refine bd 30 rfl (by rfl) rfl block_zs ?_) | (refine ld 33 rfl (by rfl) w_State rfl bk_ lz_ ?_) | (refine ld 30 rfl (by rfl) w_Block rfl bk_ lz_ ?_) | (refine ldp 30 rfl (by rfl) w_Block rfl bk_ ln_ (by omega) ?_) | (refine ld 31 rfl (by rfl) w_Four rfl bk_ lz_ ?_) | (refine ldp 31 rfl (by rfl) w_Four rfl bk_ ln_ (by omega) ?_) | (refine st 33 rfl (by rfl) w_State rfl rfl bk_ lz_ lz_ one_ ?_) | (refine st 30 rfl (by rfl) w_Block rfl rfl bk_ lz_ lz_ one_ ?_) | (refine st 31 rfl (by rfl) w_Four rfl rfl bk_ lz_ lz_ one_ ?_))
  refine (HRT.out _).mono ?_
  rintro e w2 ⟨rfl, hb2⟩
  replace hA := hA.newB hb2
  replace hfar := hfar.trans (hb2.mono (by omega))
  replace hsz := Nat.le_trans hsz hb2.size
  cases hr : rightS L with
  | false =>
    have e1 : O = ⟨#[]⟩ := by rw [← HO.out]; unfold bytesS; rw [hr]; rfl
    have e2 : E = 1 := by rw [← HE.out]; unfold bytesE; rw [hr]; rfl
    subst e1 e2
    go_wp2_with fail
    go_ret2
    exact ⟨rfl, (by (try rw [hB]); exact bl_)⟩
  | true =>
    have e1 : O = ⟨(bytesL L).toArray⟩ := by rw [← HO.out]; unfold bytesS; rw [hr]; rfl
    have e2 : E = 0 := by rw [← HE.out]; unfold bytesE; rw [hr]; rfl
    subst e2
    obtain ⟨b, hb⟩ : ∃ b, w2.heap.size = b := ⟨_, rfl⟩
    have hBb : B + 1 ≤ b := by omega
    go_upto_region 5 with (fail)
    refine wp_gen (fun W => Blk W (B) (arrV L) 33 ∧ Blk W (b) (#[.pointer none, .slice none 0 0]) 67 ∧ Below (B) w W ∧ b + 1 ≤ W.heap.size) ⟨bk_, bk_, bl_, sz_⟩ ?_
    clear hA hfar hsz
    rintro w3 ⟨hA, hN, hfar, hsz⟩
    have hIB := fresh_builder hN
    have hNl : b < w3.heap.size := by omega
    go_wp2_with fail
    refine (put_any b B 0 16 (memL L) LL.mem.out (by omega) [] (by simp) _ hNl (fun k wr hk _ hbl => ?rd) hIB).mono ?_
    case rd => rw [(hA.below hbl (by omega)).cell (0 + k)]; exact arr_at LL (by rw [List.drop_zero]; rfl) hk (by omega)
    rintro r w4 ⟨rfl, hI4, hb4⟩
    rw [List.nil_append] at hI4
    have hA4 := hA.below hb4 (by omega)
    have hf4 := hfar.trans (hb4.mono (by omega))
    have hs4 := hb4.size
    have c16 : w4.cell? ⟨B, 16, none⟩ = some (.int .i64 (lastL L)) := (hA4.cell 16).trans (arr_get (l := L) (by have := LL.out; omega))
    clear hA hfar hb4 hIB hN
    go_wp2_with fail
    refine (put_any b w4.heap.size 0 1 [lastL L] rfl (by omega) ((memL L).flatMap bl4) (by rw [memB_len LL]; omega) _ (by rw [World.size_alloc]; omega) (fun k wr hk h0 _ => ?rd) (IsB.newB hI4 ((Below.refl _ _).alloc (Nat.le_refl _) _))).mono ?_
    case rd =>
      obtain rfl : k = 0 := by omega
      rw [h0 rfl, (Blk.newAt (W := w4) rfl).cell (0 + 0)]
      rfl
    rintro r w5 ⟨rfl, hI5, hb5⟩
    rw [List.flatMap_singleton] at hI5
    have hA5 := (hA4.alloc (.cells #[.int .i64 (lastL L)] 3)).below hb5 (by omega)
    have hf5 := (hf4.alloc (by omega) (.cells #[.int .i64 (lastL L)] 3)).trans (hb5.mono (by omega))
    have hs5 := hb5.size
    rw [World.size_alloc] at hs5
    clear hA4 hf4 hb5 hI4 c16
    go_wp2_with (first | (refine st 36 rfl (by rfl) w_Entry rfl rfl bk_ zz_ zz_ one_ ?_) | (refine ld 36 rfl (by rfl) w_Entry rfl bk_ zz_ ?_) | (refine bd 33 rfl (by rfl) rfl state_zs ?_) | (refine bd 30 rfl (by rfl) rfl block_zs ?_) | (refine ld 33 rfl (by rfl) w_State rfl bk_ lz_ ?_) | (refine ld 30 rfl (by rfl) w_Block rfl bk_ lz_ ?_) | (refine ldp 30 rfl (by rfl) w_Block rfl bk_ ln_ (by omega) ?_) | (refine ld 31 rfl (by rfl) w_Four rfl bk_ lz_ ?_) | (refine ldp 31 rfl (by rfl) w_Four rfl bk_ ln_ (by omega) ?_) | (refine st 33 rfl (by rfl) w_State rfl rfl bk_ lz_ lz_ one_ ?_) | (refine st 30 rfl (by rfl) w_Block rfl rfl bk_ lz_ lz_ one_ ?_) | (refine st 31 rfl (by rfl) w_Four rfl rfl bk_ lz_ lz_ one_ ?_))
    go_loopw [23] (fun i wr => ∃ k : Nat, k ≤ 4 ∧ i = .int .i64 k ∧ Blk wr B (arrV L) 33 ∧ Below B w wr ∧ b < wr.heap.size ∧ Lib.IsBuilder 67 5 b b (Lib.byteCells ((memL L).flatMap bl4 ++ bl4 (lastL L) ++ ((levL L).take k).map b8)) wr) (fun i _ => 4 - (intOf i).toNat)
    case atStart => exact ⟨0, by omega, rfl, hA5, hf5, by omega, by simpa using hI5⟩
    case round =>
      clear hA5 hf5 hI5
      obtain ⟨k, hk, rfl, hA, hfar, hbs, hI⟩ := hrel
      by_cases hlt : k < 4
      · have hix := fun w => run_index_arr 31 4 (List.take 4 (List.drop 17 L)) LL.lev.out Tryz.underlying31 k hlt w
        have he : ((levL L).take (k + 1)).map b8 = ((levL L).take k).map b8 ++ [b8 ((levL L).getD k 0)] := by
          have h1 : k < (levL L).length := by rw [LL.lev.out]; exact hlt
          rw [List.take_add_one, List.getElem?_eq_getElem h1, Option.toList_some, List.map_append, List.getD_eq_getElem?_getD, List.getElem?_eq_getElem h1]
          rfl
        have hgd : (List.take 4 (List.drop 17 L)).getD k 0 = (levL L).getD k 0 := rfl
        rw [hgd] at hix
        obtain ⟨x, hx⟩ : ∃ x, (levL L).getD k 0 = x := ⟨_, rfl⟩
        rw [hx] at hix he
        have hlen : (Lib.byteCells ((memL L).flatMap bl4 ++ bl4 (lastL L) ++ ((levL L).take k).map b8)).length ≤ 72 := by
          rw [bytesC_len, List.length_append, List.length_append, memB_len LL, bl4_len, List.length_map]
          have := levB_len L k
          omega
        have HE2 := Lib.hid he
        have HLEN := Lib.hid hlen
        clear he hgd hx hlen
        go_wp2_with fail
        refine (WriteByte_any b b _ (x % 256) _ hI (by have := HLEN.out; omega) (by omega)).mono ?_
        rintro r w6 ⟨rfl, hI6, hb6⟩
        have hA6 := hA.below hb6 (by omega)
        have hf6 := hfar.trans (hb6.mono (by omega))
        have hs6 := hb6.size
        go_wp2_with fail
        go_roundw
        case rel => exact ⟨k + 1, hlt, by go_num, hA6, hf6, by have := Lib.BuilderAt.lt hI6; omega, .inr (by rw [HE2.out, ← List.append_assoc, bytes_app, byteC_one]; exact hI6)⟩
        case measure => simp [intOf]; omega
      · obtain rfl : k = 4 := by omega
        have ht : (levL L).take 4 = levL L := List.take_of_length_le (by have := LL.lev.out; omega)
        rw [ht] at hI
        have hl1 : ((memL L).flatMap bl4 ++ bl4 (lastL L) ++ (levL L).map b8).length = 72 := by
          rw [List.length_append, List.length_append, memB_len LL, bl4_len, List.length_map, LL.lev.out]
        have hl2 : (Lib.byteCells ((memL L).flatMap bl4 ++ bl4 (lastL L) ++ (levL L).map b8 ++ (wavL L).flatMap bl4)).length = 136 := by
          rw [bytesC_len, List.length_append, hl1, wavB_len LL]
        have hfin : O = ⟨((memL L).flatMap bl4 ++ bl4 (lastL L) ++ (levL L).map b8 ++ (wavL L).flatMap bl4 ++ [b8 (lostL L)]).toArray⟩ := e1
        obtain ⟨P1, hP1⟩ : ∃ P1, (memL L).flatMap bl4 ++ bl4 (lastL L) ++ (levL L).map b8 = P1 := ⟨_, rfl⟩
        obtain ⟨x, hx⟩ : ∃ x, lostL L = x := ⟨_, rfl⟩
        rw [hP1, hx] at hfin
        rw [hP1] at hI hl1 hl2
        have HF := Lib.hid hfin
        have HX := Lib.hid hx
        clear e1 HO hP1 ht hfin hx
        go_wp2_with fail
        refine (put_any b B 21 16 (wavL L) LL.wav.out (by omega) P1 (by omega) _ hbs (fun k wr hk _ hbl => ?rd) hI).mono ?_
        case rd => rw [(hA.below hbl (by omega)).cell (21 + k)]; exact arr_at LL rfl hk (by omega)
        rintro r w7 ⟨rfl, hI7, hb7⟩
        have hA7 := hA.below hb7 (by omega)
        have hf7 := hfar.trans (hb7.mono (by omega))
        have hs7 := hb7.size
        have c37 : w7.cell? ⟨B, 37, none⟩ = some (.int .i64 x) := (hA7.cell 37).trans ((arr_get (l := L) (by have := LL.out; omega)).trans (by rw [← HX.out]; rfl))
        go_wp2_with fail
        refine (WriteByte_any b b _ (x % 256) _ hI7 (by omega) (by omega)).mono ?_
        rintro r w8 ⟨rfl, hI8, hb8⟩
        have hf8 := hf7.trans (hb8.mono (by omega))
        have hs8 := hb8.size
        rw [← byteC_one, ← bytes_app] at hI8
        go_wp2_with fail
        refine (Tryz.Builder_String_any b b _ _ (.inr hI8) (by omega)).mono ?_
        rintro r w9 ⟨rfl, hb9⟩
        have hf9 := hf8.trans (hb9.mono (by omega))
        go_wp2_with fail
        go_ret2
        exact ⟨by rw [HF.out, List.append_assoc]; rfl, by rw [hB]; exact hf9⟩
end Go.Proofs.YtbpdocdomjafbaaGreatDoor
