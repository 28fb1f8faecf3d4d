/- The walks of spoollaw15.Of and Frames. -/
import Derived.Test.YtkoljgmapclhkaaGreatDoorLaw15a
import Derived.Test.YtkoljgmapclhkaaGreatDoorLot6
set_option linter.unusedSimpArgs false
set_option linter.unusedVariables false
namespace Go.Proofs.YtkoljgmapclhkaaGreatDoor
open Go.RowKit

/-- A sample made of any number. -/
def fr (x : Int) : Int := (x.tmod 65536 + 65536).tmod 65536 - 32768
theorem fr_bd (x : Int) : -32768 ≤ fr x ∧ fr x ≤ 32767 := by
  have h1 := Int.tmod_lt_of_pos x (show (0 : Int) < 65536 by decide)
  have h2 : -65536 < x.tmod 65536 := by
    have := Int.lt_tmod_of_pos x (show (0 : Int) < 65536 by decide); omega
  have h3 := Int.tmod_lt_of_pos (x.tmod 65536 + 65536) (show (0 : Int) < 65536 by decide)
  have h4 := Int.tmod_nonneg (a := x.tmod 65536 + 65536) 65536 (by omega)
  unfold fr; omega
def frame (b : List Int) : List Int := b.map fr
theorem frame_s16 {b : List Int} (h : b.length = 16) : S16 (frame b) := ⟨by unfold frame; rw [List.length_map]; exact h, fun x hx => by
  obtain ⟨y, _, rfl⟩ := List.mem_map.1 hx
  exact fr_bd y⟩
def frames (l : List (List Int)) : List (List Int) := (l.take 30).map frame
theorem frames_len (l : List (List Int)) : (frames l).length = min 30 l.length := by unfold frames; rw [List.length_map, List.length_take]
/-- A slice of arrays of sixteen that came in. -/
def SixIn (W : World) (p : Option Addr) (cap : Nat) (l : List (List Int)) : Prop :=
  l.length ≤ cap ∧ cap ≤ 9223372036854775807 ∧ ∀ (i : Nat) (b : List Int), l[i]? = some b → b.length = 16 ∧ ∃ a, p = some a ∧ a.block < W.heap.size ∧ ∀ (j : Nat) (x : Int), b[j]? = some x → W.cell? ((a.add (i * 16)).add j) = some (.int .i64 x)
theorem frames_s16 {W : World} {p : Option Addr} {cap : Nat} {l : List (List Int)} (h : SixIn W p cap l) : ∀ b ∈ frames l, S16 b := fun b hb => by
  obtain ⟨c, hc, rfl⟩ := List.mem_map.1 hb
  obtain ⟨i, hi, he⟩ := List.mem_iff_getElem.1 (List.mem_of_mem_take hc)
  exact frame_s16 (h.2.2 i c (by rw [List.getElem?_eq_getElem hi, he])).1
theorem SixIn.below {W W' : World} {p : Option Addr} {cap : Nat} {l : List (List Int)} (h : SixIn W p cap l) {B : Nat} (hB : B = W.heap.size) (hb : Below B W W') : SixIn W' p cap l := by
  subst hB
  obtain ⟨h1, h2, h3⟩ := h
  refine ⟨h1, h2, fun i b he => ?_⟩
  obtain ⟨hl, a, hp, ha, hc⟩ := h3 i b he
  refine ⟨hl, a, hp, by have := hb.size; omega, fun j x hx => ?_⟩
  have hbl : ∀ n m : Nat, ((a.add n).add m).block = a.block := fun n m => by unfold Addr.add; split <;> split <;> rfl
  exact (hb.cell (by rw [hbl]; exact ha)).trans (hc j x hx)
theorem SixIn.one {W : World} {g : Nat} {b : List Int} {t : TypeId} (h : Blk W g (arrV b) t) (hb : b.length = 16) : SixIn W (some ⟨g, 0, none⟩) 1 [b] := by
  refine ⟨Nat.le_refl _, by omega, fun i c hc => ?_⟩
  cases i with
  | succ i => simp at hc
  | zero =>
    simp only [List.getElem?_cons_zero, Option.some.injEq] at hc
    subst hc
    refine ⟨hb, _, rfl, h.lt, fun j x hx => ?_⟩
    have hj : j < b.length := (List.getElem?_eq_some_iff.1 hx).1
    have := (h.cell j).trans (arr_get (l := b) hj)
    rw [Addr.add_mid, Addr.add_mid]
    simp only [Nat.zero_mul, Nat.zero_add]
    rw [this, List.getD_eq_getElem?_getD, hx]; rfl
theorem addr_add2 (a : Addr) (n m : Nat) : ((a.add n).add m).block = a.block := by unfold Addr.add; split <;> split <;> rfl
set_option maxRecDepth 100000 in
set_option maxHeartbeats 4000000 in
theorem Frames_any (l : List (List Int)) (p : Option Addr) (cap : Nat) (w : World) (hE : SixIn w p cap l) :
    Calls Tryz.prog 12 #[.slice p l.length cap] w fun e w' => ∃ v, e = .returned v ∧ OW w' w.heap.size w'.heap.size 26 16 v (frames l).length ((frames l).flatMap intsV) ∧ Below w.heap.size w w' := by
  obtain ⟨i0, hi, hz0, hz1, hz2⟩ := info_parts info_Block
  have hc1 := hE.1
  have hc2 := hE.2.1
  rw [frames_len]
  obtain ⟨n, hn⟩ : ∃ n, l.length = n := ⟨_, rfl⟩
  have HN := Lib.hid hn
  have HE := Lib.hid hE
  rw [hn] at hc1 ⊢
  clear hn hE
  obtain ⟨B, hB⟩ : ∃ B, w.heap.size = B := ⟨_, rfl⟩
  go_enter Tryz.func12, Tryz.ntmps12
  go_wp2_with fail
  go_loopw [3, 4] (fun v i wr => ∃ k : Nat, k ≤ n ∧ k ≤ 30 ∧ i = .int .i64 k ∧ OW wr B wr.heap.size 26 16 v k (((l.take k).map frame).flatMap intsV) ∧ Below B w wr ∧ B ≤ wr.heap.size) (fun _ i _ => 30 - (intOf i).toNat)
  case atStart => exact ⟨0, by omega, by omega, rfl, OW.nil _ _ _ _ _ (by omega), Below.refl _ _, by omega⟩
  case round =>
    obtain ⟨k, hk, hk30, rfl, hR, hfar, hsz⟩ := hrel
    by_cases hlt : k < n
    · by_cases h30 : k < 30
      · have hkl : k < l.length := by rw [HN.out]; exact hlt
        obtain ⟨b, he⟩ : ∃ b, l[k]? = some b := ⟨_, List.getElem?_eq_getElem hkl⟩
        obtain ⟨hbl, a, rfl, hab, hc⟩ := HE.out.2.2 k b he
        have h30i : (k : Int) < 30 := by omega
        have hlti : (k : Int) < n := by omega
        have HGE := Lib.hid he
        have HBL := Lib.hid hbl
        have HC := Lib.hid hc
        clear he hkl hbl hc
        obtain ⟨g, hg⟩ : ∃ g, wr.heap.size = g := ⟨_, rfl⟩
        rw [hg] at hR
        have hBg : B ≤ g := by omega
        go_upto_region 6 with (fail)
        refine wp_gen (fun W => OW W (B) (g) (26) (16) (u3) (k) (((l.take k).map frame).flatMap intsV) ∧ Blk W (g) (arrV (zs 16)) 26 ∧ Below (B) w W ∧ g + 1 ≤ W.heap.size) ⟨ow_, bk_, bl_, sz_⟩ ?_
        clear hR hfar hsz
        rintro w1 ⟨hR, hb, hfar, hsz⟩
        go_wp2_with fail
        go_loopw [6] (fun j wx => ∃ m : Nat, m ≤ 16 ∧ j = .int .i64 m ∧ Blk wx g (arrV ((frame b).take m ++ (zs 16).drop m)) 26 ∧ OW wx B g 26 16 u3 k (((l.take k).map frame).flatMap intsV) ∧ Below B w wx ∧ g + 1 ≤ wx.heap.size) (fun j _ => 16 - (intOf j).toNat)
        case atStart => exact ⟨0, by omega, rfl, hb, hR, hfar, hsz⟩
        case round =>
          clear hb hR hfar hsz
          obtain ⟨m, hm, rfl, hb, hR, hfar, hsz⟩ := hrel
          by_cases hlt2 : m < 16
          · have hm16 : (m : Int) < 16 := by omega
            obtain ⟨x, hx⟩ : ∃ x, b[m]? = some x := ⟨_, List.getElem?_eq_getElem (by rw [HBL.out]; exact hlt2)⟩
            have c0 := (hfar.cell (p := (a.add (k * 16)).add m) (by simp only [addr_add2]; omega)).trans (HC.out m x hx)
            have hfx : (frame b).getD m 0 = fr x := by unfold frame; rw [List.getD_eq_getElem?_getD, List.getElem?_map, hx]; rfl
            have hps := part_step (frame b) (zs 16) m (by unfold frame; rw [List.length_map, HBL.out]; exact hlt2) (by unfold frame; rw [List.length_map, HBL.out, (Len.zs 16).out]; exact Nat.le_refl _)
            rw [hfx] at hps
            have hfb := fr_bd x
            have b1 := Int.tmod_lt_of_pos x (show (0 : Int) < 65536 by decide)
            have b2 := Int.lt_tmod_of_pos x (show (0 : Int) < 65536 by decide)
            obtain ⟨y, hy⟩ : ∃ y, x.tmod 65536 = y := ⟨_, rfl⟩
            have b3 := Int.tmod_lt_of_pos (y + 65536) (show (0 : Int) < 65536 by decide)
            have b4 := Int.tmod_nonneg (a := y + 65536) 65536 (by omega)
            obtain ⟨z, hz⟩ : ∃ z, (y + 65536).tmod 65536 = z := ⟨_, rfl⟩
            have hfr : fr x = z - 32768 := by unfold fr; rw [hy, hz]
            rw [hy] at b1 b2
            rw [hz] at b3 b4
            rw [hfr] at hps
            have hlen : ((frame b).take m ++ (zs 16).drop m).length = 16 := by unfold frame; simp [HBL.out, (Len.zs 16).out]; omega
            have d0 := (hb.cell m).trans (arr_get (l := (frame b).take m ++ (zs 16).drop m) (by rw [hlen]; exact hlt2))
            have f0 := hb.frozen m
            have HPS := Lib.hid hps
            clear hps hfr hfb hfx hx hlen
            go_wp2_with fail
            go_roundw
            case rel => exact ⟨m + 1, hlt2, by go_num, by rw [← HPS.out]; exact Blk.setI hb m _, hR.setCell (by simp only []; omega) _, by exact bl_, by exact sz_⟩
            case measure => simp [intOf]; omega
          · obtain rfl : m = 16 := by omega
            have h1616 : ¬ ((16 : Nat) : Int) < 16 := by omega
            have LF : Len (frame b) 16 := by unfold Len frame; rw [List.length_map]; exact HBL.out
            have ht16 : (frame b).take 16 ++ (zs 16).drop 16 = frame b := by
              rw [List.take_of_length_le (by rw [LF.out]; exact Nat.le_refl _), List.drop_of_length_le (by rw [(Len.zs 16).out]; exact Nat.le_refl _), List.append_nil]
            rw [ht16] at hb
            have ht : ((l.take (k + 1)).map frame).flatMap intsV = ((l.take k).map frame).flatMap intsV ++ intsV (frame b) := by
              rw [List.take_add_one, HGE.out, Option.toList_some, List.map_append, List.flatMap_append]; simp
            have HT := Lib.hid ht
            obtain ⟨F, hF⟩ : ∃ F, frame b = F := ⟨_, rfl⟩
            simp only [hF] at hb LF HT
            clear ht ht16 hF
            have hNb : Blk (wr.alloc (.cells (arrV F) 26)) wr.heap.size (arrV F) 26 := Blk.newAt rfl
            have hRa := hR.alloc (.cells (arrV F) 26)
            have hsl := SL.blk hNb (n := 1) (size := 16) LF.sz (by unfold maxLen; omega)
            have hvb : ∀ j, u3.ownBlock = some j → B ≤ j := fun j hj => (World.ownsRow.lt hR.1 j hj).1
            have HVB := Lib.hid hvb
            clear hvb
            have t1 : ∀ u ∈ (arrV F).toList, u.oneCell' = true := fun u hu => flatB_one [F] u (by simpa using hu)
            have t2 : k + 1 ≤ maxLen := by unfold maxLen; omega
            have t3 : B ≤ (wr.alloc (.cells (arrV F) 26)).heap.size := by rw [World.size_alloc]; omega
            go_wp2_with (first | (refine ld 26 rfl (by rfl) w_Block rfl hb LF.sz ?_) | (refine bs1 24 rfl (by rfl) rfl Tryz.underlying24 el_Block (by omega) (by omega) LF.sz ?_) | (refine ap 24 rfl (by rfl) rfl B 26 i0 (.agg #[.int .i64 0, .int .i64 0, .int .i64 0, .int .i64 0, .int .i64 0, .int .i64 0, .int .i64 0, .int .i64 0, .int .i64 0, .int .i64 0, .int .i64 0, .int .i64 0, .int .i64 0, .int .i64 0, .int .i64 0, .int .i64 0]) 16 128 Tryz.underlying24 hi hz0 hz1 hz2 rfl (by omega) rfl hRa.1 rfl hsl t1 t2 (by omega) t3 ?_; intro v' w3 hown hgr _))
            have hf3 : Below B w w3 := (hfar.alloc (by omega) _).grown hgr (by rw [World.size_alloc]; omega) (fun j hj => HVB.out j hj)
            have hs3 := hgr.size
            rw [World.size_alloc] at hs3
            go_roundw
            case rel => exact ⟨k + 1, hlt, by omega, by go_num, by rw [HT.out]; exact OW.mk0 (by simpa using hown), hf3, by omega⟩
            case measure => simp [intOf]; omega
      · obtain rfl : k = 30 := by omega
        have h30i : (30 : Int) < n := by omega
        have hmin : min 30 n = 30 := by omega
        go_wp2_with fail
        go_ret
        exact ⟨u3, rfl, by rw [hB, hmin]; exact hR, by rw [hB]; exact hfar⟩
    · obtain rfl : k = n := by omega
      have hmin : min 30 k = k := by omega
      have ht : l.take k = l.take 30 := by rw [List.take_of_length_le (by rw [HN.out]; exact Nat.le_refl _), List.take_of_length_le (by rw [HN.out]; exact hk30)]
      have hfl : (l.take k).map frame = frames l := by rw [ht]; rfl
      rw [hfl] at hR
      go_wp2_with fail
      go_ret
      exact ⟨u3, rfl, by rw [hB, hmin]; exact hR, by rw [hB]; exact hfar⟩
end Go.Proofs.YtkoljgmapclhkaaGreatDoor
