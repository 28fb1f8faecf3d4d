/- The plain words of bytes and numbers. The plain words of states that are read. The walks of crc.Number and of the state's reader. The walk of state.Read. The plain words of a lost frame. The walks of lost.Lose and lost.Gap. The plain words of entries, and of what is heard of them. The walks of entry.Right, spec.told and spec.Step. -/
import Derived.Test.YtkoljgmapclhkaaGreatDoorLot0
import Derived.Test.YtkoljgmapclhkaaGreatDoorLot6
import Derived.Laws.BitsAllLaws
set_option linter.unusedSimpArgs false
set_option linter.unusedVariables false
namespace Go.Proofs.YtkoljgmapclhkaaGreatDoor

/-- A byte of a text; 0 behind its end. -/
def bAt (s : ByteArray) (i : Nat) : Nat := if h : i < s.size then s[i].toNat else 0
theorem bAt_lt (s : ByteArray) (i : Nat) : bAt s i < 256 := by
  unfold bAt; split
  · exact s[i].toNat_lt
  · omega
theorem bAt_eq {s : ByteArray} {i : Nat} (h : i < s.size) : bAt s i = s[i].toNat := by unfold bAt; rw [dif_pos h]
/-- The number of the first k bytes from o on. -/
def numP (s : ByteArray) (o : Nat) : Nat → Nat
  | 0 => 0
  | k + 1 => numP s o k + bAt s (o + k) * 256 ^ k
theorem numP_lt (s : ByteArray) (o k : Nat) : numP s o k < 256 ^ k := by
  induction k with
  | zero => simp [numP]
  | succ k ih =>
    have := bAt_lt s (o + k)
    rw [numP, Nat.pow_succ]
    have : bAt s (o + k) * 256 ^ k ≤ 255 * 256 ^ k := Nat.mul_le_mul_right _ (by omega)
    omega
theorem num_or (s : ByteArray) (o k : Nat) : numP s o k ||| bAt s (o + k) * 256 ^ k = numP s o (k + 1) := by
  have h := numP_lt s o k
  rw [numP]
  have e : 256 ^ k = 2 ^ (8 * k) := by rw [Nat.pow_mul]
  rw [e] at h ⊢
  rw [Nat.or_comm, Nat.mul_comm, ← Nat.two_pow_add_eq_or_of_lt h (bAt s (o + k)), Nat.add_comm]
/-- Of 32 bits, with a sign. -/
def i32 (n : Nat) : Int := if n < 2147483648 then n else (n : Int) - 4294967296
def wordS (s : ByteArray) (o : Nat) : Int := i32 (numP s o 4)
theorem wordS_bd (s : ByteArray) (o : Nat) : -2147483648 ≤ wordS s o ∧ wordS s o ≤ 2147483647 := by
  have h := numP_lt s o 4
  unfold wordS i32
  rw [show 256 ^ 4 = 4294967296 from rfl] at h
  split <;> omega
theorem bAt_drop (s : ByteArray) (o i : Nat) : bAt (s.extract o s.size) i = bAt s (o + i) := by
  unfold bAt
  by_cases h : o + i < s.size
  · rw [dif_pos h, dif_pos (by rw [ByteArray.size_extract]; omega)]
    rw [ByteArray.getElem_extract]
  · rw [dif_neg h, dif_neg (by rw [ByteArray.size_extract]; omega)]
theorem numP_drop (s : ByteArray) (o p k : Nat) : numP (s.extract o s.size) p k = numP s (o + p) k := by
  induction k with
  | zero => rfl
  | succ k ih => rw [numP, numP, ih, bAt_drop, Nat.add_assoc]
theorem wordS_drop (s : ByteArray) (o p : Nat) : wordS (s.extract o s.size) p = wordS s (o + p) := by unfold wordS; rw [numP_drop]
end Go.Proofs.YtkoljgmapclhkaaGreatDoor

namespace Go.Proofs.YtkoljgmapclhkaaGreatDoor

/-- A state, read of 137 bytes. -/
def readW (s : ByteArray) (o n : Nat) : List Int := (List.range n).map fun i => wordS s (o + 4 * i)
def readB (s : ByteArray) (o n : Nat) : List Int := (List.range n).map fun i => (bAt s (o + i) : Int)
def readL (s : ByteArray) : List Int := readW s 0 16 ++ [wordS s 64] ++ readB s 68 4 ++ readW s 72 16 ++ [(bAt s 136 : Int)]
theorem readW_len (s : ByteArray) (o n : Nat) : (readW s o n).length = n := by simp [readW]
theorem readB_len (s : ByteArray) (o n : Nat) : (readB s o n).length = n := by simp [readB]
theorem readL_len (s : ByteArray) : (readL s).length = 38 := by simp [readL, readW_len, readB_len]
def readE (s : ByteArray) : Int := if s.size = 137 then (if rightS (readL s) then 0 else 4) else 10
def readSt (s : ByteArray) : List Int := if readE s = 0 then readL s else List.replicate 38 0
theorem readSt_len (s : ByteArray) : (readSt s).length = 38 := by
  unfold readSt; split
  · exact readL_len s
  · simp
theorem rightS_zero : rightS (List.replicate 38 0) = true := by decide +kernel
theorem readSt_right (s : ByteArray) : rightS (readSt s) = true := by
  unfold readSt
  split
  · next h =>
    unfold readE at h
    split at h
    · split at h
      · assumption
      · exact absurd h (by decide)
    · exact absurd h (by decide)
  · exact rightS_zero
theorem readE_cases (s : ByteArray) : readE s = 0 ∨ readE s = 4 ∨ readE s = 10 := by
  unfold readE; split
  · split <;> simp
  · simp
end Go.Proofs.YtkoljgmapclhkaaGreatDoor

namespace Go.Proofs.YtkoljgmapclhkaaGreatDoor
open Go.RowKit

theorem or_step (s : ByteArray) (k : Nat) (hk : k < 4) (b : Int) (hb : b = (bAt s (0 + k) : Int)) : bits .or .u32 (numP s 0 k : Nat) (b * 2 ^ (8 * k) % 4294967296) = (numP s 0 (k + 1) : Nat) := by
  subst hb
  have h1 := numP_lt s 0 k
  have h2 := bAt_lt s (0 + k)
  have hp : 256 ^ k ≤ 256 ^ 3 := Nat.pow_le_pow_right (by omega) (by omega)
  have h3 : bAt s (0 + k) * 256 ^ k ≤ 255 * 256 ^ 3 := Nat.mul_le_mul (by omega) hp
  have e : ((bAt s (0 + k) : Int) * 2 ^ (8 * k)) = ((bAt s (0 + k) * 256 ^ k : Nat) : Int) := by
    rw [Int.natCast_mul, Int.natCast_pow, Int.pow_mul]; rfl
  rw [e, Int.emod_eq_of_lt (by omega) (by omega), ← num_or, u32_or_nat _ _ (by omega) (by omega)]
set_option maxHeartbeats 1000000 in
theorem Number_any (s : ByteArray) (hs : 4 ≤ s.size) (w : World) : Calls Tryz.prog 159 #[.string s] w fun e w' => e = .returned (.int .u32 (numP s 0 4 : Nat)) ∧ w = w' := by
  go_enter Tryz.func159, Tryz.ntmps159
  go_wp2
  all_goals
    go_loop [3, 8] (fun x i => ∃ k : Nat, k ≤ 4 ∧ i = .int .i64 k ∧ x = .int .u32 (numP s 0 k : Nat)) (fun _ i => 4 - (intOf i).toNat)
    case atStart => exact ⟨0, by omega, rfl, rfl⟩
    case round =>
      obtain ⟨k, hk, rfl, rfl⟩ := hrel
      by_cases hlt : k < 4
      · have hks : k < s.size := by omega
        have hor := or_step s k hlt (s[k].toNat : Nat) (by rw [Nat.zero_add, bAt_eq hks])
        have HO := Lib.hid hor
        clear hor
        have hbl : ((s[k].toNat : Nat) : Int) ≤ 255 := by have := s[k].toNat_lt; omega
        go_wp2
        go_round
        case rel => exact ⟨k + 1, hlt, by go_num, by rw [HO.out]⟩
        case measure => simp [intOf]; omega
      · obtain rfl : k = 4 := by omega
        have hks : ¬ 4 < s.size ∨ 4 < s.size := by omega
        go_wp2
        go_ret
        exact ⟨rfl, rfl⟩
theorem i32_wrap (n : Nat) (h : n < 4294967296) : wrap64 (wrap32 (n : Int)) = i32 n := by
  unfold i32 wrap64 wrap32
  split <;> omega
set_option maxHeartbeats 1000000 in
theorem number_any (g : Nat) (s : ByteArray) (hs : 4 ≤ s.size) (w : World) (hB : Blk w g #[.string s] 174) :
    Calls Tryz.prog 128 #[.pointer (some ⟨g, 0, none⟩)] w fun e w' => e = .returned (.int .i64 (wordS s 0)) ∧ Blk w' g #[.string (s.extract 4 s.size)] 174 ∧ Kept (· = g) w w' := by
  have c0 := hB.cell 0
  simp only [List.getElem?_toArray, List.getElem?_cons_zero] at c0
  have f0 := hB.frozen 0
  go_enter Tryz.func128, Tryz.ntmps128
  go_wp2_with ((refine (Number_any s hs _).mono ?_); rintro e w' ⟨rfl, rfl⟩)
  go_ret
  refine ⟨retInt (i32_wrap _ (by have := numP_lt s 0 4; omega)), ?_, ?_⟩
  · (apply Blk.mk_eq; (case h => repeat' (first | (with_reducible assumption) | (with_reducible apply Blk.drew) | (with_reducible apply Blk.drewN) | (with_reducible apply Blk.set) | ((with_reducible refine Blk.other ?_ ?ne _); case ne => (first | (simp only []; omega) | omega)) | (with_reducible apply Blk.alloc))); (case e => first | rfl | simp))
  · repeat (first | (with_reducible exact Kept.refl _ _) | (with_reducible assumption) | (with_reducible refine Kept.drew ?_) | (with_reducible refine Kept.drewN ?_ _) | ((with_reducible refine Kept.setCell ?_ ?hp _); case hp => (first | exact Or.inl rfl | (left; simp; done) | (right; simp only [World.size_alloc, World.size_setCell, World.size_drew]; omega))) | (with_reducible refine Kept.alloc ?_ _))
set_option maxHeartbeats 1000000 in
theorem one_any (g : Nat) (s : ByteArray) (hs : 1 ≤ s.size) (w : World) (hB : Blk w g #[.string s] 174) :
    Calls Tryz.prog 129 #[.pointer (some ⟨g, 0, none⟩)] w fun e w' => e = .returned (.int .i64 (bAt s 0 : Nat)) ∧ Blk w' g #[.string (s.extract 1 s.size)] 174 ∧ Kept (· = g) w w' := by
  have c0 := hB.cell 0
  simp only [List.getElem?_toArray, List.getElem?_cons_zero] at c0
  have f0 := hB.frozen 0
  have hs0 : 0 < s.size := by omega
  have hbl : ((s[0].toNat : Nat) : Int) ≤ 255 := by have := s[0].toNat_lt; omega
  go_enter Tryz.func129, Tryz.ntmps129
  go_wp2
  go_ret
  refine ⟨retInt (by rw [bAt_eq hs0]), ?_, ?_⟩
  · (apply Blk.mk_eq; (case h => repeat' (first | (with_reducible assumption) | (with_reducible apply Blk.drew) | (with_reducible apply Blk.drewN) | (with_reducible apply Blk.set) | ((with_reducible refine Blk.other ?_ ?ne _); case ne => (first | (simp only []; omega) | omega)) | (with_reducible apply Blk.alloc))); (case e => first | rfl | simp))
  · repeat (first | (with_reducible exact Kept.refl _ _) | (with_reducible assumption) | (with_reducible refine Kept.drew ?_) | (with_reducible refine Kept.drewN ?_ _) | ((with_reducible refine Kept.setCell ?_ ?hp _); case hp => (first | exact Or.inl rfl | (left; simp; done) | (right; simp only [World.size_alloc, World.size_setCell, World.size_drew]; omega))) | (with_reducible refine Kept.alloc ?_ _))
end Go.Proofs.YtkoljgmapclhkaaGreatDoor

namespace Go.Proofs.YtkoljgmapclhkaaGreatDoor
open Go.RowKit

theorem gd_l {a b : List Int} {k : Nat} (h : k < a.length) : (a ++ b).getD k 0 = a.getD k 0 := by
  rw [List.getD_eq_getElem?_getD, List.getD_eq_getElem?_getD, List.getElem?_append_left h]
theorem gd_r {a b : List Int} {n k : Nat} (h : a.length = n) : (a ++ b).getD (n + k) 0 = b.getD k 0 := by
  rw [List.getD_eq_getElem?_getD, List.getD_eq_getElem?_getD, List.getElem?_append_right (by omega)]
  congr 2; omega
theorem gd_r0 {a b : List Int} {n : Nat} (h : a.length = n) : (a ++ b).getD n 0 = b.getD 0 0 := by
  have := gd_r (b := b) (k := 0) h
  rwa [Nat.add_zero] at this
theorem gd_map (f : Nat → Int) {n k : Nat} (h : k < n) : ((List.range n).map f).getD k 0 = f k := by
  rw [List.getD_eq_getElem?_getD, List.getElem?_map, List.getElem?_range h]; rfl
theorem len17 (s : ByteArray) : (readW s 0 16 ++ [wordS s 64]).length = 17 := by rw [List.length_append, readW_len, List.length_singleton]
theorem len21 (s : ByteArray) : (readW s 0 16 ++ [wordS s 64] ++ readB s 68 4).length = 21 := by rw [List.length_append, len17, readB_len]
theorem len37 (s : ByteArray) : (readW s 0 16 ++ [wordS s 64] ++ readB s 68 4 ++ readW s 72 16).length = 37 := by rw [List.length_append, len21, readW_len]
theorem readL0 (s : ByteArray) (k : Nat) (h : k < 16) : (readL s).getD k 0 = wordS s (4 * k) := by
  have a0 := readW_len s 0 16
  have a1 := len17 s
  have a2 := len21 s
  have a3 := len37 s
  unfold readL
  rw [gd_l (by omega), gd_l (by omega), gd_l (by omega), gd_l (by omega)]
  unfold readW; rw [gd_map _ h, Nat.zero_add]
theorem readL1 (s : ByteArray) : (readL s).getD 16 0 = wordS s 64 := by
  have a1 := len17 s
  have a2 := len21 s
  have a3 := len37 s
  unfold readL
  rw [gd_l (by omega), gd_l (by omega), gd_l (by omega), gd_r0 (readW_len s 0 16)]
  exact List.getD_cons_zero
theorem readL2 (s : ByteArray) (k : Nat) (h : k < 4) : (readL s).getD (17 + k) 0 = (bAt s (68 + k) : Int) := by
  have a2 := len21 s
  have a3 := len37 s
  unfold readL
  rw [gd_l (by omega), gd_l (by omega), gd_r (len17 s)]
  unfold readB; rw [gd_map _ h]
theorem readL3 (s : ByteArray) (k : Nat) (h : k < 16) : (readL s).getD (21 + k) 0 = wordS s (72 + 4 * k) := by
  have a3 := len37 s
  unfold readL
  rw [gd_l (by omega), gd_r (len21 s)]
  unfold readW; rw [gd_map _ h]
theorem readL4 (s : ByteArray) : (readL s).getD 37 0 = (bAt s 136 : Int) := by
  unfold readL
  rw [gd_r0 (len37 s)]
  exact List.getD_cons_zero
theorem number_at (g : Nat) (s : ByteArray) (o : Nat) (hs : o + 4 ≤ s.size) (w : World) (hB : Blk w g #[.string (s.extract o s.size)] 174) :
    Calls Tryz.prog 128 #[.pointer (some ⟨g, 0, none⟩)] w fun e w' => e = .returned (.int .i64 (wordS s o)) ∧ Blk w' g #[.string (s.extract (o + 4) s.size)] 174 ∧ Kept (· = g) w w' := by
  have h := number_any g (s.extract o s.size) (by rw [ByteArray.size_extract]; omega) w hB
  rwa [wordS_drop, Nat.add_zero, dropB] at h
theorem one_at (g : Nat) (s : ByteArray) (o : Nat) (hs : o + 1 ≤ s.size) (w : World) (hB : Blk w g #[.string (s.extract o s.size)] 174) :
    Calls Tryz.prog 129 #[.pointer (some ⟨g, 0, none⟩)] w fun e w' => e = .returned (.int .i64 (bAt s o : Nat)) ∧ Blk w' g #[.string (s.extract (o + 1) s.size)] 174 ∧ Kept (· = g) w w' := by
  have h := one_any g (s.extract o s.size) (by rw [ByteArray.size_extract]; omega) w hB
  rwa [bAt_drop, Nat.add_zero, dropB] at h
/-- Memory while a state is read. -/
structure ReadW (w W : World) (B : Nat) (s : ByteArray) (o k : Nat) : Prop where
  r : Blk W B (arrV (zs 38)) 29
  d : Blk W (B + 1) #[.string (s.extract o s.size)] 174
  s : Blk W (B + 1 + 1) (arrV (partL (readL s) k)) 29
  far : Below B w W
  size : B + 3 ≤ W.heap.size
theorem ReadW.step {w W W' : World} {B : Nat} {s : ByteArray} {o k o' : Nat} (h : ReadW w W B s o k) (hd : Blk W' (B + 1) #[.string (s.extract o' s.size)] 174) (hk : Kept (· = B + 1) W W') : ReadW w W' B s o' k :=
  ⟨h.r.keep hk (by omega), hd, h.s.keep hk (by omega), h.far.trans (hk.below (fun k h => by omega) (by have := h.size; omega)), Nat.le_trans h.size hk.size⟩
theorem ReadW.put {w W : World} {B : Nat} {s : ByteArray} {o k : Nat} (h : ReadW w W B s o k) (hk : k < 38) {x : Int} (hx : (readL s).getD k 0 = x) : ReadW w (W.setCell ⟨B + 1 + 1, k, none⟩ (.int .i64 x)) B s o (k + 1) := by
  have h2 := h.s.setI k x
  rw [← hx, partL_set _ (by rw [readL_len]; exact hk)] at h2
  subst hx
  exact ⟨h.r.other (by simp only []; omega) _, h.d.other (by simp only []; omega) _, h2, h.far.setCell (by simp only []; omega) _, by rw [World.size_setCell]; exact h.size⟩
set_option maxRecDepth 100000 in
set_option maxHeartbeats 4000000 in
theorem Read_any (s : ByteArray) (w : World) : Calls Tryz.prog 81 #[.string s] w fun e w' => e = .returned (.tuple #[.agg (arrV (readSt s)), .int .i64 (readE s)]) ∧ Below w.heap.size w w' := by
  obtain ⟨O, hO⟩ : ∃ O, readSt s = O := ⟨_, rfl⟩
  obtain ⟨E, hE⟩ : ∃ E, readE s = E := ⟨_, rfl⟩
  rw [hO, hE]
  have HO := Lib.hid hO
  have HE := Lib.hid hE
  clear hO hE
  obtain ⟨B, hB⟩ : ∃ B, w.heap.size = B := ⟨_, rfl⟩
  have hfar := Below.refl B w
  have hsz : B ≤ w.heap.size := by omega
  have Z38 := Len.zs 38
  by_cases hs : s.size = 137
  case neg =>
    go_enter Tryz.func81, Tryz.ntmps81
    go_upto_region 2 with (fail)
    refine wp_gen (fun W => Blk W (B) (arrV (zs 38)) 29 ∧ Below (B) w W ∧ B + 1 ≤ W.heap.size) ⟨bk_, bl_, sz_⟩ ?_
    clear hfar hsz
    rintro w1 ⟨hR, hfar, hsz⟩
    have he0 : E = 10 := by rw [← HE.out]; unfold readE; rw [if_neg hs]
    have he1 : O = zs 38 := by rw [← HO.out]; unfold readSt readE; rw [if_neg hs]; rfl
    subst he0 he1
    go_wp2_with (first | (refine st 92 rfl (by rfl) w_Entry rfl rfl bk_ zz_ zz_ one_ ?_) | (refine ld 92 rfl (by rfl) w_Entry rfl bk_ zz_ ?_) | (refine bd 29 rfl (by rfl) rfl state_zs ?_) | (refine bd 26 rfl (by rfl) rfl block_zs ?_) | (refine ld 29 rfl (by rfl) w_State rfl bk_ lz_ ?_) | (refine ld 26 rfl (by rfl) w_Block rfl bk_ lz_ ?_) | (refine ldp 26 rfl (by rfl) w_Block rfl bk_ ln_ (by omega) ?_) | (refine ld 27 rfl (by rfl) w_Four rfl bk_ lz_ ?_) | (refine ldp 27 rfl (by rfl) w_Four rfl bk_ ln_ (by omega) ?_) | (refine st 29 rfl (by rfl) w_State rfl rfl bk_ lz_ lz_ one_ ?_) | (refine st 26 rfl (by rfl) w_Block rfl rfl bk_ lz_ lz_ one_ ?_) | (refine st 27 rfl (by rfl) w_Four rfl rfl bk_ lz_ lz_ one_ ?_))
    exact bodyPost_ret (v := .tuple #[.agg (arrV (zs 38)), .int .i64 10]) (res_ct Tryz.results81 rfl w_State (by exact bk_) (Len.sz (Len.zs 38)) rfl) rfl ⟨rfl, by rw [hB]; exact bl_⟩
  case pos =>
    have hlF := readL_len s
    have HF := Lib.hid hlF
    clear hlF
    go_enter Tryz.func81, Tryz.ntmps81
    go_upto_region 5 with (first | (refine st 92 rfl (by rfl) w_Entry rfl rfl bk_ zz_ zz_ one_ ?_) | (refine ld 92 rfl (by rfl) w_Entry rfl bk_ zz_ ?_) | (refine bd 29 rfl (by rfl) rfl state_zs ?_) | (refine bd 26 rfl (by rfl) rfl block_zs ?_) | (refine ld 29 rfl (by rfl) w_State rfl bk_ lz_ ?_) | (refine ld 26 rfl (by rfl) w_Block rfl bk_ lz_ ?_) | (refine ldp 26 rfl (by rfl) w_Block rfl bk_ ln_ (by omega) ?_) | (refine ld 27 rfl (by rfl) w_Four rfl bk_ lz_ ?_) | (refine ldp 27 rfl (by rfl) w_Four rfl bk_ ln_ (by omega) ?_) | (refine st 29 rfl (by rfl) w_State rfl rfl bk_ lz_ lz_ one_ ?_) | (refine st 26 rfl (by rfl) w_Block rfl rfl bk_ lz_ lz_ one_ ?_) | (refine st 27 rfl (by rfl) w_Four rfl rfl bk_ lz_ lz_ one_ ?_))
    refine wp_gen (fun W => Blk W (B) (arrV (zs 38)) 29 ∧ Blk W (B + 1) (#[.string s]) 174 ∧ Blk W (B + 1 + 1) (arrV (zs 38)) 29 ∧ Below (B) w W ∧ B + 3 ≤ W.heap.size) ⟨bk_, bk_, bk_, bl_, sz_⟩ ?_
    clear hfar hsz
    rintro w1 ⟨hR, hD, hS, hfar, hsz⟩
    have hX : ReadW w w1 B s 0 0 := ⟨hR, by rw [drop0]; exact hD, by rw [partL_zero, HF.out]; exact hS, hfar, hsz⟩
    clear hR hD hS hfar hsz
    go_wp2_with fail
    go_loopw [16] (fun i wr => ∃ k : Nat, k ≤ 16 ∧ i = .int .i64 k ∧ ReadW w wr B s (4 * k) k) (fun i _ => 16 - (intOf i).toNat)
    case atStart => exact ⟨0, by omega, rfl, hX⟩
    case round =>
      clear hX
      obtain ⟨k, hk, rfl, hX⟩ := hrel
      by_cases hlt : k < 16
      · have hnum := number_at (B + 1) s (4 * k) (by omega) _ hX.d
        have hx0 := readL0 s k hlt
        obtain ⟨x, hx⟩ : ∃ x, wordS s (4 * k) = x := ⟨_, rfl⟩
        rw [hx] at hnum hx0
        have HNU := Lib.hid hnum
        have HX0 := Lib.hid hx0
        clear hnum hx hx0
        go_wp2_with fail
        refine HNU.out.mono ?_
        rintro e w2 ⟨rfl, hD2, hK⟩
        have hX2 := hX.step hD2 hK
        have c0 := (hX2.s.cell k).trans (arr_get (by rw [partL_len _ (by rw [HF.out]; omega), HF.out]; omega))
        have f0 := hX2.s.frozen k
        have hX3 := hX2.put (by omega) HX0.out
        clear hX hX2 hD2 hK
        go_wp2_with fail
        go_roundw
        case rel => exact ⟨k + 1, by omega, by go_num, hX3⟩
        case measure => simp [intOf]; omega
      · obtain rfl : k = 16 := by omega
        have hnum := number_at (B + 1) s 64 (by omega) _ hX.d
        have hx0 := readL1 s
        obtain ⟨x, hx⟩ : ∃ x, wordS s 64 = x := ⟨_, rfl⟩
        rw [hx] at hnum hx0
        have HNU := Lib.hid hnum
        have HX0 := Lib.hid hx0
        clear hnum hx hx0
        go_wp2_with fail
        refine HNU.out.mono ?_
        rintro e w2 ⟨rfl, hD2, hK⟩
        have hX2 := hX.step hD2 hK
        have c0 := (hX2.s.cell 16).trans (arr_get (by rw [partL_len _ (by rw [HF.out]; omega), HF.out]; omega))
        have f0 := hX2.s.frozen 16
        have hX3 := hX2.put (by omega) HX0.out
        clear hX hX2 hD2 hK
        go_upto_region 11 with fail
        refine wp_gen (fun W => ReadW w W B s 68 17) hX3 ?_
        clear hX3 c0 f0 HNU HX0
        intro w3 hX
        go_wp2_with fail
        go_loopw [28] (fun i wr => ∃ k : Nat, k ≤ 4 ∧ i = .int .i64 k ∧ ReadW w wr B s (68 + k) (17 + k)) (fun i _ => 4 - (intOf i).toNat)
        case atStart => exact ⟨0, by omega, rfl, hX⟩
        case round =>
          clear hX
          obtain ⟨k, hk, rfl, hX⟩ := hrel
          by_cases hlt : k < 4
          · have hnum := one_at (B + 1) s (68 + k) (by omega) _ hX.d
            have hx0 := readL2 s k hlt
            obtain ⟨x, hx⟩ : ∃ x : Int, (bAt s (68 + k) : Int) = x := ⟨_, rfl⟩
            rw [hx] at hnum hx0
            have HNU := Lib.hid hnum
            have HX0 := Lib.hid hx0
            clear hnum hx hx0
            go_wp2_with fail
            refine HNU.out.mono ?_
            rintro e w4 ⟨rfl, hD2, hK⟩
            have hX2 := hX.step hD2 hK
            have c0 := (hX2.s.cell (17 + k)).trans (arr_get (by rw [partL_len _ (by rw [HF.out]; omega), HF.out]; omega))
            have f0 := hX2.s.frozen (17 + k)
            have hX3 := hX2.put (by omega) HX0.out
            clear hX hX2 hD2 hK
            go_wp2_with fail
            go_roundw
            case rel => exact ⟨k + 1, by omega, by go_num, hX3⟩
            case measure => simp [intOf]; omega
          · obtain rfl : k = 4 := by omega
            rw [show ((4 : Nat) : Int) = 4 from rfl]
            go_wp2_with fail
            go_loopw [37] (fun i wr => ∃ k : Nat, k ≤ 16 ∧ i = .int .i64 k ∧ ReadW w wr B s (72 + 4 * k) (21 + k)) (fun i _ => 16 - (intOf i).toNat)
            case atStart => exact ⟨0, by omega, rfl, hX⟩
            case round =>
              clear hX
              obtain ⟨k, hk, rfl, hX⟩ := hrel
              by_cases hlt : k < 16
              · have hnum := number_at (B + 1) s (72 + 4 * k) (by omega) _ hX.d
                have hx0 := readL3 s k hlt
                obtain ⟨x, hx⟩ : ∃ x, wordS s (72 + 4 * k) = x := ⟨_, rfl⟩
                rw [hx] at hnum hx0
                have HNU := Lib.hid hnum
                have HX0 := Lib.hid hx0
                clear hnum hx hx0
                go_wp2_with fail
                refine HNU.out.mono ?_
                rintro e w4 ⟨rfl, hD2, hK⟩
                have hX2 := hX.step hD2 hK
                have c0 := (hX2.s.cell (21 + k)).trans (arr_get (by rw [partL_len _ (by rw [HF.out]; omega), HF.out]; omega))
                have f0 := hX2.s.frozen (21 + k)
                have hX3 := hX2.put (by omega) HX0.out
                clear hX hX2 hD2 hK
                go_wp2_with fail
                go_roundw
                case rel => exact ⟨k + 1, by omega, by go_num, hX3⟩
                case measure => simp [intOf]; omega
              · obtain rfl : k = 16 := by omega
                have hnum := one_at (B + 1) s 136 (by omega) _ hX.d
                have hx0 := readL4 s
                obtain ⟨x, hx⟩ : ∃ x : Int, (bAt s 136 : Int) = x := ⟨_, rfl⟩
                rw [hx] at hnum hx0
                have HNU := Lib.hid hnum
                have HX0 := Lib.hid hx0
                clear hnum hx hx0
                go_wp2_with fail
                refine HNU.out.mono ?_
                rintro e w4 ⟨rfl, hD2, hK⟩
                have hX2 := hX.step hD2 hK
                have c0 := (hX2.s.cell 37).trans (arr_get (by rw [partL_len _ (by rw [HF.out]; omega), HF.out]; omega))
                have f0 := hX2.s.frozen 37
                have hX3 := hX2.put (by omega) HX0.out
                clear hX hX2 hD2 hK
                go_upto_region 22 with fail
                refine wp_gen (fun W => ReadW w W B s 137 38) hX3 ?_
                clear hX3 c0 f0 HNU HX0
                intro w5 hX
                have hFL := Len.mk HF.out
                have hS := hX.s
                rw [show partL (readL s) 38 = readL s by have := partL_all (readL s); rwa [HF.out] at this] at hS
                obtain ⟨F, hFe⟩ : ∃ F, readL s = F := ⟨_, rfl⟩
                have hRt := fun w => Right_any F (hFe ▸ HF.out) w
                have he : E = if rightS F then 0 else 4 := by rw [← HE.out]; unfold readE; rw [if_pos hs, hFe]
                have ho : O = if E = 0 then F else zs 38 := by rw [← HO.out, ← HE.out, ← hFe]; rfl
                rw [hFe] at hFL hS
                have hR := hX.r
                have hfar := hX.far
                have hsz := hX.size
                clear hX HO HE HF hFe
                have HRT := Lib.hid hRt
                have HE := Lib.hid he
                have HO := Lib.hid ho
                clear hRt he ho
                go_wp2_with (first | (refine st 92 rfl (by rfl) w_Entry rfl rfl bk_ zz_ zz_ one_ ?_) | (refine ld 92 rfl (by rfl) w_Entry rfl bk_ zz_ ?_) | (refine bd 29 rfl (by rfl) rfl state_zs ?_) | (refine bd 26 rfl (by rfl) rfl block_zs ?_) | (refine ld 29 rfl (by rfl) w_State rfl bk_ lz_ ?_) | (refine ld 26 rfl (by rfl) w_Block rfl bk_ lz_ ?_) | (refine ldp 26 rfl (by rfl) w_Block rfl bk_ ln_ (by omega) ?_) | (refine ld 27 rfl (by rfl) w_Four rfl bk_ lz_ ?_) | (refine ldp 27 rfl (by rfl) w_Four rfl bk_ ln_ (by omega) ?_) | (refine st 29 rfl (by rfl) w_State rfl rfl bk_ lz_ lz_ one_ ?_) | (refine st 26 rfl (by rfl) w_Block rfl rfl bk_ lz_ lz_ one_ ?_) | (refine st 27 rfl (by rfl) w_Four rfl rfl bk_ lz_ lz_ one_ ?_))
                refine (HRT.out _).mono ?_
                rintro e w6 ⟨rfl, hb6⟩
                replace hR := hR.newB hb6
                replace hS := hS.newB hb6
                replace hfar := hfar.trans (hb6.mono (by omega))
                replace hsz := Nat.le_trans hsz hb6.size
                cases hr : rightS F with
                | false =>
                  have he0 : E = 4 := by rw [HE.out, hr]; rfl
                  have he1 : O = zs 38 := by rw [HO.out, he0]; rfl
                  subst he0 he1
                  go_wp2_with (first | (refine st 92 rfl (by rfl) w_Entry rfl rfl bk_ zz_ zz_ one_ ?_) | (refine ld 92 rfl (by rfl) w_Entry rfl bk_ zz_ ?_) | (refine bd 29 rfl (by rfl) rfl state_zs ?_) | (refine bd 26 rfl (by rfl) rfl block_zs ?_) | (refine ld 29 rfl (by rfl) w_State rfl bk_ lz_ ?_) | (refine ld 26 rfl (by rfl) w_Block rfl bk_ lz_ ?_) | (refine ldp 26 rfl (by rfl) w_Block rfl bk_ ln_ (by omega) ?_) | (refine ld 27 rfl (by rfl) w_Four rfl bk_ lz_ ?_) | (refine ldp 27 rfl (by rfl) w_Four rfl bk_ ln_ (by omega) ?_) | (refine st 29 rfl (by rfl) w_State rfl rfl bk_ lz_ lz_ one_ ?_) | (refine st 26 rfl (by rfl) w_Block rfl rfl bk_ lz_ lz_ one_ ?_) | (refine st 27 rfl (by rfl) w_Four rfl rfl bk_ lz_ lz_ one_ ?_))
                  exact bodyPost_ret (v := .tuple #[.agg (arrV (zs 38)), .int .i64 4]) (res_ct Tryz.results81 rfl w_State (by exact bk_) (Len.sz (Len.zs 38)) rfl) rfl ⟨rfl, by rw [hB]; exact bl_⟩
                | true =>
                  have he0 : E = 0 := by rw [HE.out, hr]; rfl
                  have he1 : O = F := by rw [HO.out, he0]; rfl
                  subst he0 he1
                  go_wp2_with (first | (refine st 92 rfl (by rfl) w_Entry rfl rfl bk_ zz_ zz_ one_ ?_) | (refine ld 92 rfl (by rfl) w_Entry rfl bk_ zz_ ?_) | (refine bd 29 rfl (by rfl) rfl state_zs ?_) | (refine bd 26 rfl (by rfl) rfl block_zs ?_) | (refine ld 29 rfl (by rfl) w_State rfl bk_ lz_ ?_) | (refine ld 26 rfl (by rfl) w_Block rfl bk_ lz_ ?_) | (refine ldp 26 rfl (by rfl) w_Block rfl bk_ ln_ (by omega) ?_) | (refine ld 27 rfl (by rfl) w_Four rfl bk_ lz_ ?_) | (refine ldp 27 rfl (by rfl) w_Four rfl bk_ ln_ (by omega) ?_) | (refine st 29 rfl (by rfl) w_State rfl rfl bk_ lz_ lz_ one_ ?_) | (refine st 26 rfl (by rfl) w_Block rfl rfl bk_ lz_ lz_ one_ ?_) | (refine st 27 rfl (by rfl) w_Four rfl rfl bk_ lz_ lz_ one_ ?_))
                  exact bodyPost_ret (v := .tuple #[.agg (arrV O), .int .i64 0]) (res_ct Tryz.results81 rfl w_State (by exact bk_) hFL.sz rfl) rfl ⟨rfl, by rw [hB]; exact bl_⟩
end Go.Proofs.YtkoljgmapclhkaaGreatDoor

namespace Go.Proofs.YtkoljgmapclhkaaGreatDoor

def halfL (l : List Int) : List Int := l.map fun x => x.tdiv 2
def downL (l : List Int) : List Int := l.map fun x => max (x - 1) 0
def loseW (L : List Int) : List Int := if 8 ≤ lostL L then List.replicate 16 0 else halfL (wavL L)
def loseN (L : List Int) : Int := min (lostL L + 1) 255
def loseO (L : List Int) : List Int := if rightS L = true then soundL (nextO L (loseW L)) else List.replicate 16 0
def loseSt (L : List Int) : List Int := if rightS L = true then nextSt L (downL (levL L)) (loseW L) (loseN L) else List.replicate 38 0
theorem right_parts {L : List Int} (h : rightS L = true) : (∀ x ∈ levL L, 0 ≤ x ∧ x ≤ 20) ∧ (wavL L).any wideP = false ∧ 0 ≤ lostL L ∧ lostL L ≤ 255 := by
  unfold rightS at h
  simp only [Bool.and_eq_true, decide_eq_true_eq, Bool.not_eq_true'] at h
  obtain ⟨⟨⟨⟨⟨_, h2⟩, _⟩, h4⟩, h5⟩, h6⟩ := h
  refine ⟨fun x hx => ?_, h4, h5, h6⟩
  have := List.all_eq_true.1 h2 x hx
  unfold levP at this
  simpa using this
theorem loseW_ok {L : List Int} (hL : L.length = 38) (h : rightS L = true) : (loseW L).length = 16 ∧ (loseW L).any wideP = false := by
  obtain ⟨_, hw, _, _⟩ := right_parts h
  unfold loseW
  split
  · exact ⟨by simp, by decide +kernel⟩
  · refine ⟨by simp [halfL, wavL, hL], ?_⟩
    rw [List.any_eq_false] at hw ⊢
    intro x hx
    obtain ⟨y, hy, rfl⟩ := List.mem_map.1 hx
    have := hw y hy
    have h2 := tdiv_within y 2 1048576 (by omega)
    unfold wideP at this ⊢
    simp only [Bool.or_eq_true, decide_eq_true_eq, not_or] at this ⊢
    have h3 := h2 (by omega) (by omega)
    omega
theorem downL_ok {L : List Int} (hL : L.length = 38) (h : rightS L = true) : LevelsOk (downL (levL L)) := by
  obtain ⟨hl, _, _, _⟩ := right_parts h
  refine ⟨by simp [downL, levL, hL], fun x hx => ?_⟩
  obtain ⟨y, hy, rfl⟩ := List.mem_map.1 hx
  have := hl y hy
  omega
theorem lose_ok {L : List Int} (hL : L.length = 38) (h : rightS L = true) : nextOk L (downL (levL L)) (loseW L) (loseN L) = true := by
  obtain ⟨h1, h2⟩ := loseW_ok hL h
  obtain ⟨_, _, h3, h4⟩ := right_parts h
  unfold nextOk
  rw [h, right_mk (downL_ok hL h) h1 h2 (by unfold loseN; omega) (by unfold loseN; omega)]
  rfl
theorem loseO_len (L : List Int) : (loseO L).length = 16 := by
  unfold loseO; split
  · unfold soundL nextO layL; rw [List.length_map, layG_len, overL_len]
  · simp
theorem loseSt_len {L : List Int} (hL : L.length = 38) : (loseSt L).length = 38 := by
  unfold loseSt; split
  · next h =>
    have h1 := (loseW_ok hL h).1
    have h2 := (downL_ok hL h).1
    unfold nextSt; simp only [List.length_append, List.length_map, List.length_drop, backL_len, List.length_cons, List.length_nil, h1, h2]
  · simp
theorem halfL_len (l : List Int) : (halfL l).length = l.length := by simp [halfL]
theorem downL_len (l : List Int) : (downL l).length = l.length := by simp [downL]
end Go.Proofs.YtkoljgmapclhkaaGreatDoor

namespace Go.Proofs.YtkoljgmapclhkaaGreatDoor
open Go.RowKit

/-- A list that is turned from the front on. -/
def frontL (f : Int → Int) (l : List Int) (k : Nat) : List Int := (l.take k).map f ++ l.drop k
theorem frontL_zero (f : Int → Int) (l : List Int) : frontL f l 0 = l := by simp [frontL]
theorem frontL_all (f : Int → Int) (l : List Int) {n : Nat} (h : l.length = n) : frontL f l n = l.map f := by
  subst h; simp [frontL]
theorem frontL_len (f : Int → Int) (l : List Int) (k : Nat) : (frontL f l k).length = l.length := by simp [frontL]; omega
theorem frontL_get (f : Int → Int) (l : List Int) {k : Nat} (h : k < l.length) : (frontL f l k).getD k 0 = l.getD k 0 := by
  unfold frontL
  have hl : ((l.take k).map f).length = k := by simp; omega
  rw [gd_r0 hl, List.getD_eq_getElem?_getD, List.getD_eq_getElem?_getD, List.getElem?_drop, Nat.add_zero]
theorem frontL_set (f : Int → Int) (l : List Int) {k : Nat} (h : k < l.length) : (frontL f l k).set k (f (l.getD k 0)) = frontL f l (k + 1) := by
  unfold frontL
  have hl : ((l.take k).map f).length = k := by simp; omega
  have hd : l.drop k = l[k] :: l.drop (k + 1) := List.drop_eq_getElem_cons h
  rw [List.set_append, if_neg (by omega), hl, Nat.sub_self, hd, List.set_cons_zero, List.take_add_one, List.getElem?_eq_getElem h, Option.toList_some, List.map_append, List.append_assoc, List.getD_eq_getElem?_getD, List.getElem?_eq_getElem h]
  rfl
set_option maxRecDepth 100000 in
set_option maxHeartbeats 4000000 in
theorem Lose_any (L : List Int) (hL : L.length = 38) (w : World) : Calls Tryz.prog 130 #[.agg (arrV L)] w fun e w' => e = .returned (.tuple #[.agg (arrV (loseO L)), .agg (arrV (loseSt L))]) ∧ Below w.heap.size w w' := by
  obtain ⟨O1, hO1⟩ : ∃ O, loseO L = O := ⟨_, rfl⟩
  obtain ⟨O2, hO2⟩ : ∃ O, loseSt L = O := ⟨_, rfl⟩
  have LO1 := Len.mk (hO1 ▸ loseO_len L)
  have LO2 := Len.mk (hO2 ▸ loseSt_len hL)
  rw [hO1, hO2]
  have HO1 := Lib.hid hO1
  have HO2 := Lib.hid hO2
  have LL := Len.mk hL
  have hRt := fun w => Right_any L hL w
  have HRT := Lib.hid hRt
  clear hO1 hO2 hL hRt
  obtain ⟨B, hB⟩ : ∃ B, w.heap.size = B := ⟨_, rfl⟩
  have hfar := Below.refl B w
  have hsz : B ≤ w.heap.size := by omega
  go_enter Tryz.func130, Tryz.ntmps130
  go_upto_region 1 with (fail)
  refine wp_gen (fun W => Blk W (B) (arrV L) 29 ∧ Blk W (B + 1) (arrV (zs 16)) 26 ∧ Blk W (B + 1 + 1) (arrV (zs 38)) 29 ∧ Below (B) w W ∧ B + 3 ≤ W.heap.size) ⟨bk_, bk_, bk_, bl_, sz_⟩ ?_
  clear hfar hsz
  rintro w1 ⟨hA, hR1, hR2, hfar, hsz⟩
  go_wp2_with (first | (refine st 92 rfl (by rfl) w_Entry rfl rfl bk_ zz_ zz_ one_ ?_) | (refine ld 92 rfl (by rfl) w_Entry rfl bk_ zz_ ?_) | (refine bd 29 rfl (by rfl) rfl state_zs ?_) | (refine bd 26 rfl (by rfl) rfl block_zs ?_) | (refine ld 29 rfl (by rfl) w_State rfl bk_ lz_ ?_) | (refine ld 26 rfl (by rfl) w_Block rfl bk_ lz_ ?_) | (refine ldp 26 rfl (by rfl) w_Block rfl bk_ ln_ (by omega) ?_) | (refine ld 27 rfl (by rfl) w_Four rfl bk_ lz_ ?_) | (refine ldp 27 rfl (by rfl) w_Four rfl bk_ ln_ (by omega) ?_) | (refine st 29 rfl (by rfl) w_State rfl rfl bk_ lz_ lz_ one_ ?_) | (refine st 26 rfl (by rfl) w_Block rfl rfl bk_ lz_ lz_ one_ ?_) | (refine st 27 rfl (by rfl) w_Four rfl rfl bk_ lz_ lz_ one_ ?_))
  refine (HRT.out _).mono ?_
  rintro e w2 ⟨rfl, hb2⟩
  replace hA := hA.newB hb2
  replace hR1 := hR1.newB hb2
  replace hR2 := hR2.newB hb2
  replace hfar := hfar.trans (hb2.mono (by omega))
  replace hsz := Nat.le_trans hsz hb2.size
  cases hr : rightS L with
  | false =>
    have h1 : O1 = zs 16 := by rw [← HO1.out]; unfold loseO; rw [hr]; rfl
    have h2 : O2 = zs 38 := by rw [← HO2.out]; unfold loseSt; rw [hr]; rfl
    subst h1 h2
    go_wp2_with (first | (refine st 92 rfl (by rfl) w_Entry rfl rfl bk_ zz_ zz_ one_ ?_) | (refine ld 92 rfl (by rfl) w_Entry rfl bk_ zz_ ?_) | (refine bd 29 rfl (by rfl) rfl state_zs ?_) | (refine bd 26 rfl (by rfl) rfl block_zs ?_) | (refine ld 29 rfl (by rfl) w_State rfl bk_ lz_ ?_) | (refine ld 26 rfl (by rfl) w_Block rfl bk_ lz_ ?_) | (refine ldp 26 rfl (by rfl) w_Block rfl bk_ ln_ (by omega) ?_) | (refine ld 27 rfl (by rfl) w_Four rfl bk_ lz_ ?_) | (refine ldp 27 rfl (by rfl) w_Four rfl bk_ ln_ (by omega) ?_) | (refine st 29 rfl (by rfl) w_State rfl rfl bk_ lz_ lz_ one_ ?_) | (refine st 26 rfl (by rfl) w_Block rfl rfl bk_ lz_ lz_ one_ ?_) | (refine st 27 rfl (by rfl) w_Four rfl rfl bk_ lz_ lz_ one_ ?_))
    exact bodyPost_ret (v := .tuple #[.agg (arrV (zs 16)), .agg (arrV (zs 38))]) (res_cc Tryz.results130 rfl w_Block (by exact bk_) (Len.zs 16).sz rfl w_State (by exact bk_) (Len.zs 38).sz) rfl ⟨rfl, by rw [hB]; exact bl_⟩
  | true =>
    have h1 : O1 = soundL (nextO L (loseW L)) := by rw [← HO1.out]; unfold loseO; rw [hr]; rfl
    have h2 : O2 = nextSt L (downL (levL L)) (loseW L) (loseN L) := by rw [← HO2.out]; unfold loseSt; rw [hr]; rfl
    have hwl := (loseW_ok LL.out hr).1
    have hdl := (downL_ok LL.out hr).1
    have hnx := fun w => Next_any L (downL (levL L)) (loseW L) (loseN L) LL.out hdl hwl w
    simp only [lose_ok LL.out hr, if_true, ← h1, ← h2] at hnx
    have HNX := Lib.hid hnx
    clear h1 h2 hnx HO1 HO2
    go_upto_region 3 with (fail)
    go_cut [4, 5] from 13 (fun s4 s5 wx => ∃ a b : Nat, s4 = .pointer (some ⟨a, 0, none⟩) ∧ s5 = .pointer (some ⟨b, 0, none⟩) ∧ a ≠ b ∧ B + 3 ≤ a ∧ B + 3 ≤ b ∧ Blk wx B (arrV L) 29 ∧ Blk wx (B + 1) (arrV (zs 16)) 26 ∧ Blk wx (B + 1 + 1) (arrV (zs 38)) 29 ∧ Blk wx a (arrV ((L.drop 21).take 16)) 26 ∧ Blk wx b (arrV ((L.drop 17).take 4)) 27 ∧ Below B w wx ∧ B + 3 ≤ wx.heap.size)
    case first =>
      have LW := LL.wav
      have LV := LL.lev
      refine wp_region_held_drew (S := fun W => Blk W (B) (arrV L) 29) (by kernel_rfl) (hA.drew) (fun hH => ?_)
      refine tk 0 hH (y := yp) (k := ?_)
      refine tk 1 hH (y := (yieldsIf_ldp (by rfl) 26 rfl w_Block rfl (fun _ hS => hS) ln_ (by omega))) (k := ?_)
      refine tk 2 hH (y := yp) (k := ?_)
      refine tk 3 hH (y := (yieldsIf_ldp (by rfl) 27 rfl w_Four rfl (fun _ hS => hS) ln_ (by omega))) (k := ?_)
      refine wpAnyH_ready (rs := [4, 5]) (by kernel_rfl) (by simp) ?_
      refine rc (h := fun K hK => ?_) (r := ?_)
      · go_simp
        refine hK.out _ _ bk_ (fun hH => ?_)
        clear hK K
        try simp only [Act.put, sa, List.set_cons_zero, List.set_cons_succ]
        refine wpAnyH_ready (rs := [5]) (by kernel_rfl) (by simp) ?_
        refine rc (h := fun K hK => ?_) (r := AllReadyH.nil)
        go_simp
        refine hK.out _ _ bk_ (fun hH => ?_)
        clear hK K
        try simp only [Act.put, sa, List.set_cons_zero, List.set_cons_succ]
        refine wpAnyH_ready (rs := [6]) (by kernel_rfl) (by simp) ?_
        refine rc (h := fun K hK => ?_) (r := AllReadyH.nil)
        refine wp_st 26 rfl w_Block rfl rfl bk_ zz_ zz_ one_ ?_
        refine hK.out _ _ bk_ (fun hH => ?_)
        clear hK K
        try simp only [Act.put]
        refine wpAnyH_ready (rs := [7]) (by kernel_rfl) (by simp) ?_
        refine rc (h := fun K hK => ?_) (r := AllReadyH.nil)
        refine wp_st 27 rfl w_Four rfl rfl bk_ zz_ zz_ one_ ?_
        refine hK.out _ _ bk_ (fun hH => ?_)
        clear hK K
        try simp only [Act.put]
        refine wpAnyH_done (by kernel_rfl) ?_ _
        go_wp2_with fail
        go_meet
        case rel => exact ⟨_, _, rfl, rfl, by exact sz_, by exact sz_, by exact sz_, by exact bk_, by exact bk_, by exact bk_, by exact bk_, by exact bk_, by exact bl_, by exact sz_⟩
      refine rc (h := fun K hK => ?_) (r := AllReadyH.nil)
      go_simp
      refine hK.out _ _ bk_ (fun hH => ?_)
      clear hK K
      try simp only [Act.put, sa, List.set_cons_zero, List.set_cons_succ]
      refine wpAnyH_ready (rs := [4]) (by kernel_rfl) (by simp) ?_
      refine rc (h := fun K hK => ?_) (r := AllReadyH.nil)
      go_simp
      refine hK.out _ _ bk_ (fun hH => ?_)
      clear hK K
      try simp only [Act.put, sa, List.set_cons_zero, List.set_cons_succ]
      refine wpAnyH_ready (rs := [6]) (by kernel_rfl) (by simp) ?_
      refine rc (h := fun K hK => ?_) (r := AllReadyH.nil)
      refine wp_st 26 rfl w_Block rfl rfl bk_ zz_ zz_ one_ ?_
      refine hK.out _ _ bk_ (fun hH => ?_)
      clear hK K
      try simp only [Act.put]
      refine wpAnyH_ready (rs := [7]) (by kernel_rfl) (by simp) ?_
      refine rc (h := fun K hK => ?_) (r := AllReadyH.nil)
      refine wp_st 27 rfl w_Four rfl rfl bk_ zz_ zz_ one_ ?_
      refine hK.out _ _ bk_ (fun hH => ?_)
      clear hK K
      try simp only [Act.put]
      refine wpAnyH_done (by kernel_rfl) ?_ _
      go_wp2_with fail
      go_meet
      case rel => exact ⟨_, _, rfl, rfl, by exact sz_, by exact sz_, by exact sz_, by exact bk_, by exact bk_, by exact bk_, by exact bk_, by exact bk_, by exact bl_, by exact sz_⟩
    case rest =>
      obtain ⟨a, b, rfl, rfl, hab, ha3, hb3, hA, hR1, hR2, hW, hV, hfar, hsz⟩ := hcut
      have l16 := LL.wav.out
      have l4 := LL.lev.out
      change Blk wc a (arrV (wavL L)) 26 at hW
      change Blk wc b (arrV (levL L)) 27 at hV
      obtain ⟨wv, hwv⟩ : ∃ l, wavL L = l := ⟨_, rfl⟩
      obtain ⟨lv, hlv⟩ : ∃ l, levL L = l := ⟨_, rfl⟩
      have hlW : loseW L = if 8 ≤ lostL L then List.replicate 16 0 else halfL wv := by rw [← hwv]; rfl
      rw [hwv] at hW l16
      rw [hlv] at hV l4 HNX hdl
      rw [← frontL_zero (fun x => x.tdiv 2) wv] at hW
      obtain ⟨n, hn⟩ : ∃ n, lostL L = n := ⟨_, rfl⟩
      have hn0 := (right_parts hr).2.2
      have hlN : loseN L = min (n + 1) 255 := by rw [← hn]; rfl
      rw [hn] at hn0 hlW
      have c37 := (hA.cell 37).trans (arr_get (l := L) (by rw [LL.out]; omega))
      rw [show L.getD 37 0 = n from hn] at c37
      have hwb : ∀ k < 16, -1048576 ≤ wv.getD k 0 ∧ wv.getD k 0 ≤ 1048576 := by
        intro k hk
        have h1 := (right_parts hr).2.1
        rw [hwv, List.any_eq_false] at h1
        have hm : wv.getD k 0 ∈ wv := by rw [List.getD_eq_getElem?_getD, List.getElem?_eq_getElem (by omega)]; exact List.getElem_mem _
        have h2 := h1 _ hm
        unfold wideP at h2
        simp only [Bool.or_eq_true, decide_eq_true_eq, not_or] at h2
        omega
      have HWB := Lib.hid hwb
      have hvb : ∀ k < 4, 0 ≤ lv.getD k 0 ∧ lv.getD k 0 ≤ 20 := by
        intro k hk
        have h1 := (right_parts hr).1
        rw [hlv] at h1
        have hm : lv.getD k 0 ∈ lv := by rw [List.getD_eq_getElem?_getD, List.getElem?_eq_getElem (by omega)]; exact List.getElem_mem _
        exact h1 _ hm
      have HVB := Lib.hid hvb
      clear hwb hvb
      have HLW := Lib.hid hlW
      have HLN := Lib.hid hlN
      have L16 := Len.mk l16
      have L4 := Len.mk l4
      have HWL := Lib.hid hwl
      have HN := Lib.hid hn
      clear hwv hlv hlW hlN hn c37 l16 l4 hwl hdl
      go_wp2_with fail
      go_loopw [17] (fun i wr => ∃ k : Nat, k ≤ 16 ∧ i = .int .i64 k ∧ Blk wr B (arrV L) 29 ∧ Blk wr (B + 1) (arrV (zs 16)) 26 ∧ Blk wr (B + 1 + 1) (arrV (zs 38)) 29 ∧ Blk wr a (arrV (frontL (fun x => x.tdiv 2) wv k)) 26 ∧ Blk wr b (arrV lv) 27 ∧ Below B w wr ∧ B + 3 ≤ wr.heap.size) (fun i _ => 16 - (intOf i).toNat)
      case atStart => exact ⟨0, by omega, rfl, hA, hR1, hR2, hW, hV, hfar, hsz⟩
      case round =>
        clear hA hR1 hR2 hW hV hfar hsz
        obtain ⟨k, hk, rfl, hA, hR1, hR2, hW, hV, hfar, hsz⟩ := hrel
        by_cases hlt : k < 16
        · have hbd := HWB.out k hlt
          have c0 := (hW.cell k).trans (arr_get (by rw [frontL_len, L16.out]; omega))
          rw [frontL_get _ _ (by rw [L16.out]; omega)] at c0
          have f0 := hW.frozen k
          have hst := frontL_set (fun x => x.tdiv 2) wv (k := k) (by rw [L16.out]; omega)
          obtain ⟨x, hx⟩ : ∃ x, wv.getD k 0 = x := ⟨_, rfl⟩
          rw [hx] at c0 hst hbd
          obtain ⟨hb0, hb1⟩ := hbd
          have HST := Lib.hid hst
          clear hst hx
          go_wp2_with fail
          go_roundw
          case rel => exact ⟨k + 1, by omega, by go_num, by exact bk_, by exact bk_, by exact bk_, by rw [← HST.out]; exact bk_, by exact bk_, by exact bl_, by exact sz_⟩
          case measure => simp [intOf]; omega
        · obtain rfl : k = 16 := by omega
          rw [frontL_all _ _ L16.out] at hW
          change Blk wr a (arrV (halfL wv)) 26 at hW
          obtain ⟨hl, hhl⟩ : ∃ l, halfL wv = l := ⟨_, rfl⟩
          have LH := Len.mk (hhl ▸ (halfL_len wv).trans L16.out)
          rw [hhl] at hW HLW
          have HHL := Lib.hid hhl
          have c37 := (hA.cell 37).trans (arr_get (l := L) (by rw [LL.out]; omega))
          rw [show L.getD 37 0 = n from HN.out] at c37
          obtain ⟨hn0, hn1⟩ := hn0
          clear hhl
          go_upto_if 28 with (fail)
          go_cut [] from 29 (fun wx => Blk wx B (arrV L) 29 ∧ Blk wx (B + 1) (arrV (zs 16)) 26 ∧ Blk wx (B + 1 + 1) (arrV (zs 38)) 29 ∧ Blk wx a (arrV (loseW L)) 26 ∧ Blk wx b (arrV lv) 27 ∧ Below B w wx ∧ B + 3 ≤ wx.heap.size)
          case first =>
            by_cases h8 : 8 ≤ n
            · have hz : loseW L = zs 16 := by rw [HLW.out, if_pos h8]; rfl
              have HZ := Lib.hid hz
              clear hz
              go_wp2_with (first | (refine st 92 rfl (by rfl) w_Entry rfl rfl bk_ zz_ zz_ one_ ?_) | (refine ld 92 rfl (by rfl) w_Entry rfl bk_ zz_ ?_) | (refine bd 29 rfl (by rfl) rfl state_zs ?_) | (refine bd 26 rfl (by rfl) rfl block_zs ?_) | (refine ld 29 rfl (by rfl) w_State rfl bk_ lz_ ?_) | (refine ld 26 rfl (by rfl) w_Block rfl bk_ lz_ ?_) | (refine ldp 26 rfl (by rfl) w_Block rfl bk_ ln_ (by omega) ?_) | (refine ld 27 rfl (by rfl) w_Four rfl bk_ lz_ ?_) | (refine ldp 27 rfl (by rfl) w_Four rfl bk_ ln_ (by omega) ?_) | (refine st 29 rfl (by rfl) w_State rfl rfl bk_ lz_ lz_ one_ ?_) | (refine st 26 rfl (by rfl) w_Block rfl rfl bk_ lz_ lz_ one_ ?_) | (refine st 27 rfl (by rfl) w_Four rfl rfl bk_ lz_ lz_ one_ ?_))
              go_meet
              case rel => exact ⟨by exact bk_, by exact bk_, by exact bk_, by rw [HZ.out]; exact bk_, by exact bk_, by exact bl_, by exact sz_⟩
            · have hz : loseW L = hl := by rw [HLW.out, if_neg h8]
              have HZ := Lib.hid hz
              clear hz
              go_wp2_with (first | (refine st 92 rfl (by rfl) w_Entry rfl rfl bk_ zz_ zz_ one_ ?_) | (refine ld 92 rfl (by rfl) w_Entry rfl bk_ zz_ ?_) | (refine bd 29 rfl (by rfl) rfl state_zs ?_) | (refine bd 26 rfl (by rfl) rfl block_zs ?_) | (refine ld 29 rfl (by rfl) w_State rfl bk_ lz_ ?_) | (refine ld 26 rfl (by rfl) w_Block rfl bk_ lz_ ?_) | (refine ldp 26 rfl (by rfl) w_Block rfl bk_ ln_ (by omega) ?_) | (refine ld 27 rfl (by rfl) w_Four rfl bk_ lz_ ?_) | (refine ldp 27 rfl (by rfl) w_Four rfl bk_ ln_ (by omega) ?_) | (refine st 29 rfl (by rfl) w_State rfl rfl bk_ lz_ lz_ one_ ?_) | (refine st 26 rfl (by rfl) w_Block rfl rfl bk_ lz_ lz_ one_ ?_) | (refine st 27 rfl (by rfl) w_Four rfl rfl bk_ lz_ lz_ one_ ?_))
              go_meet
              case rel => exact ⟨by exact bk_, by exact bk_, by exact bk_, by rw [HZ.out]; exact bk_, by exact bk_, by exact bl_, by exact sz_⟩
          case rest =>
            clear hA hR1 hR2 hW hV hfar hsz c37
            obtain ⟨hA, hR1, hR2, hW, hV, hfar, hsz⟩ := hcut
            rw [← frontL_zero (fun x => max (x - 1) 0) lv] at hV
            have LW := Len.mk HWL.out
            obtain ⟨lw, hlw⟩ : ∃ l, loseW L = l := ⟨_, rfl⟩
            rw [hlw] at hW LW HNX
            clear hlw
            go_wp2_with fail
            go_loopw [30] (fun i wr => ∃ k : Nat, k ≤ 4 ∧ i = .int .i64 k ∧ Blk wr B (arrV L) 29 ∧ Blk wr (B + 1) (arrV (zs 16)) 26 ∧ Blk wr (B + 1 + 1) (arrV (zs 38)) 29 ∧ Blk wr a (arrV lw) 26 ∧ Blk wr b (arrV (frontL (fun x => max (x - 1) 0) lv k)) 27 ∧ Below B w wr ∧ B + 3 ≤ wr.heap.size) (fun i _ => 4 - (intOf i).toNat)
            case atStart => exact ⟨0, by omega, rfl, hA, hR1, hR2, hW, hV, hfar, hsz⟩
            case round =>
              clear hA hR1 hR2 hW hV hfar hsz
              obtain ⟨k, hk, rfl, hA, hR1, hR2, hW, hV, hfar, hsz⟩ := hrel
              by_cases hlt : k < 4
              · have hbd := HVB.out k hlt
                have c0 := (hV.cell k).trans (arr_get (by rw [frontL_len, L4.out]; omega))
                rw [frontL_get _ _ (by rw [L4.out]; omega)] at c0
                have f0 := hV.frozen k
                have hst := frontL_set (fun x => max (x - 1) 0) lv (k := k) (by rw [L4.out]; omega)
                obtain ⟨x, hx⟩ : ∃ x, lv.getD k 0 = x := ⟨_, rfl⟩
                rw [hx] at c0 hst hbd
                obtain ⟨hb0, hb1⟩ := hbd
                have HST := Lib.hid hst
                clear hst hx
                by_cases hx1 : 1 ≤ x
                · have hmx : max (x - 1) 0 = x - 1 := by omega
                  have HMX := Lib.hid hmx
                  clear hmx
                  go_wp2_with fail
                  go_roundw
                  case rel => exact ⟨k + 1, by omega, by go_num, by exact bk_, by exact bk_, by exact bk_, by exact bk_, by rw [← HST.out]; simp only [HMX.out]; exact bk_, by exact bl_, by exact sz_⟩
                  case measure => simp [intOf]; omega
                · have hmx : max (x - 1) 0 = 0 := by omega
                  have HMX := Lib.hid hmx
                  clear hmx
                  obtain rfl : x = 0 := by omega
                  go_wp2_with fail
                  go_roundw
                  case rel => exact ⟨k + 1, by omega, by go_num, by exact bk_, by exact bk_, by exact bk_, by exact bk_, by rw [← HST.out]; simp only [HMX.out]; rw [show max (-1 : Int) 0 = 0 from rfl]; exact bk_, by exact bl_, by exact sz_⟩
                  case measure => simp [intOf]; omega
              · obtain rfl : k = 4 := by omega
                rw [frontL_all _ _ L4.out] at hV
                change Blk wr b (arrV (downL lv)) 27 at hV
                obtain ⟨dl, hdl⟩ : ∃ l, downL lv = l := ⟨_, rfl⟩
                have LD := Len.mk (hdl ▸ (downL_len lv).trans L4.out)
                rw [hdl] at hV HNX
                have c37 := (hA.cell 37).trans (arr_get (l := L) (by rw [LL.out]; omega))
                rw [show L.getD 37 0 = n from HN.out] at c37
                clear hdl
                rw [HLN.out] at HNX
                go_wp2_with (first | (refine st 92 rfl (by rfl) w_Entry rfl rfl bk_ zz_ zz_ one_ ?_) | (refine ld 92 rfl (by rfl) w_Entry rfl bk_ zz_ ?_) | (refine bd 29 rfl (by rfl) rfl state_zs ?_) | (refine bd 26 rfl (by rfl) rfl block_zs ?_) | (refine ld 29 rfl (by rfl) w_State rfl bk_ lz_ ?_) | (refine ld 26 rfl (by rfl) w_Block rfl bk_ lz_ ?_) | (refine ldp 26 rfl (by rfl) w_Block rfl bk_ ln_ (by omega) ?_) | (refine ld 27 rfl (by rfl) w_Four rfl bk_ lz_ ?_) | (refine ldp 27 rfl (by rfl) w_Four rfl bk_ ln_ (by omega) ?_) | (refine st 29 rfl (by rfl) w_State rfl rfl bk_ lz_ lz_ one_ ?_) | (refine st 26 rfl (by rfl) w_Block rfl rfl bk_ lz_ lz_ one_ ?_) | (refine st 27 rfl (by rfl) w_Four rfl rfl bk_ lz_ lz_ one_ ?_))
                refine (HNX.out _).mono ?_
                rintro e w5 ⟨rfl, hb5⟩
                replace hR1 := hR1.newB hb5
                replace hR2 := hR2.newB hb5
                replace hfar := hfar.trans (hb5.mono (by omega))
                replace hsz := Nat.le_trans hsz hb5.size
                clear hA hW hV c37
                go_wp2_with (first | (refine st 92 rfl (by rfl) w_Entry rfl rfl bk_ zz_ zz_ one_ ?_) | (refine ld 92 rfl (by rfl) w_Entry rfl bk_ zz_ ?_) | (refine bd 29 rfl (by rfl) rfl state_zs ?_) | (refine bd 26 rfl (by rfl) rfl block_zs ?_) | (refine ld 29 rfl (by rfl) w_State rfl bk_ lz_ ?_) | (refine ld 26 rfl (by rfl) w_Block rfl bk_ lz_ ?_) | (refine ldp 26 rfl (by rfl) w_Block rfl bk_ ln_ (by omega) ?_) | (refine ld 27 rfl (by rfl) w_Four rfl bk_ lz_ ?_) | (refine ldp 27 rfl (by rfl) w_Four rfl bk_ ln_ (by omega) ?_) | (refine st 29 rfl (by rfl) w_State rfl rfl bk_ lz_ lz_ one_ ?_) | (refine st 26 rfl (by rfl) w_Block rfl rfl bk_ lz_ lz_ one_ ?_) | (refine st 27 rfl (by rfl) w_Four rfl rfl bk_ lz_ lz_ one_ ?_))
                exact bodyPost_ret (v := .tuple #[.agg (arrV O1), .agg (arrV O2)]) (res_cc Tryz.results130 rfl w_Block (by exact bk_) LO1.sz rfl w_State (by exact bk_) LO2.sz) rfl ⟨rfl, by rw [hB]; exact bl_⟩
set_option maxRecDepth 100000 in
set_option maxHeartbeats 1000000 in
theorem Gap_any (L : List Int) (hL : L.length = 38) (w : World) : Calls Tryz.prog 82 #[.agg (arrV L)] w fun e w' => e = .returned (.tuple #[.agg (arrV (loseO L)), .agg (arrV (zs 38))]) ∧ Below w.heap.size w w' := by
  have hLo := fun w => Lose_any L hL w
  obtain ⟨O1, hO1⟩ : ∃ O, loseO L = O := ⟨_, rfl⟩
  obtain ⟨O2, hO2⟩ : ∃ O, loseSt L = O := ⟨_, rfl⟩
  have LO1 := Len.mk (hO1 ▸ loseO_len L)
  have LO2 := Len.mk (hO2 ▸ loseSt_len hL)
  simp only [hO1, hO2] at hLo ⊢
  have HLO := Lib.hid hLo
  have LL := Len.mk hL
  clear hO1 hO2 hL hLo
  obtain ⟨B, hB⟩ : ∃ B, w.heap.size = B := ⟨_, rfl⟩
  have hfar := Below.refl B w
  have hsz : B ≤ w.heap.size := by omega
  go_enter Tryz.func82, Tryz.ntmps82
  go_upto_region 1 with (fail)
  refine wp_gen (fun W => Blk W (B) (arrV L) 29 ∧ Blk W (B + 1) (arrV (zs 16)) 26 ∧ Blk W (B + 1 + 1) (arrV (zs 38)) 29 ∧ Below (B) w W ∧ B + 3 ≤ W.heap.size) ⟨bk_, bk_, bk_, bl_, sz_⟩ ?_
  clear hfar hsz
  rintro w1 ⟨hA, hR1, hR2, hfar, hsz⟩
  go_wp2_with (first | (refine st 92 rfl (by rfl) w_Entry rfl rfl bk_ zz_ zz_ one_ ?_) | (refine ld 92 rfl (by rfl) w_Entry rfl bk_ zz_ ?_) | (refine bd 29 rfl (by rfl) rfl state_zs ?_) | (refine bd 26 rfl (by rfl) rfl block_zs ?_) | (refine ld 29 rfl (by rfl) w_State rfl bk_ lz_ ?_) | (refine ld 26 rfl (by rfl) w_Block rfl bk_ lz_ ?_) | (refine ldp 26 rfl (by rfl) w_Block rfl bk_ ln_ (by omega) ?_) | (refine ld 27 rfl (by rfl) w_Four rfl bk_ lz_ ?_) | (refine ldp 27 rfl (by rfl) w_Four rfl bk_ ln_ (by omega) ?_) | (refine st 29 rfl (by rfl) w_State rfl rfl bk_ lz_ lz_ one_ ?_) | (refine st 26 rfl (by rfl) w_Block rfl rfl bk_ lz_ lz_ one_ ?_) | (refine st 27 rfl (by rfl) w_Four rfl rfl bk_ lz_ lz_ one_ ?_))
  refine (HLO.out _).mono ?_
  rintro e w2 ⟨rfl, hb2⟩
  replace hA := hA.newB hb2
  replace hR1 := hR1.newB hb2
  replace hR2 := hR2.newB hb2
  replace hfar := hfar.trans (hb2.mono (by omega))
  replace hsz := Nat.le_trans hsz hb2.size
  obtain ⟨g, hs_g⟩ : ∃ g, w2.heap.size = g := ⟨_, rfl⟩
  have hk_g : B + 3 ≤ g := by omega
  go_upto_region 2 with (first | (refine st 92 rfl (by rfl) w_Entry rfl rfl bk_ zz_ zz_ one_ ?_) | (refine ld 92 rfl (by rfl) w_Entry rfl bk_ zz_ ?_) | (refine bd 29 rfl (by rfl) rfl state_zs ?_) | (refine bd 26 rfl (by rfl) rfl block_zs ?_) | (refine ld 29 rfl (by rfl) w_State rfl bk_ lz_ ?_) | (refine ld 26 rfl (by rfl) w_Block rfl bk_ lz_ ?_) | (refine ldp 26 rfl (by rfl) w_Block rfl bk_ ln_ (by omega) ?_) | (refine ld 27 rfl (by rfl) w_Four rfl bk_ lz_ ?_) | (refine ldp 27 rfl (by rfl) w_Four rfl bk_ ln_ (by omega) ?_) | (refine st 29 rfl (by rfl) w_State rfl rfl bk_ lz_ lz_ one_ ?_) | (refine st 26 rfl (by rfl) w_Block rfl rfl bk_ lz_ lz_ one_ ?_) | (refine st 27 rfl (by rfl) w_Four rfl rfl bk_ lz_ lz_ one_ ?_))
  refine wp_gen (fun W => Blk W (B) (arrV L) 29 ∧ Blk W (B + 1) (arrV (zs 16)) 26 ∧ Blk W (B + 1 + 1) (arrV (zs 38)) 29 ∧ Blk W (g) (arrV O1) 26 ∧ Blk W (g + 1) (arrV O2) 29 ∧ Below (B) w W ∧ g + 2 ≤ W.heap.size) ⟨bk_, bk_, bk_, bk_, bk_, bl_, sz_⟩ ?_
  clear hA hR1 hR2 hfar hsz
  rintro w3 ⟨hA, hR1, hR2, hN1, hN2, hfar, hsz⟩
  go_wp2_with (first | (refine st 92 rfl (by rfl) w_Entry rfl rfl bk_ zz_ zz_ one_ ?_) | (refine ld 92 rfl (by rfl) w_Entry rfl bk_ zz_ ?_) | (refine bd 29 rfl (by rfl) rfl state_zs ?_) | (refine bd 26 rfl (by rfl) rfl block_zs ?_) | (refine ld 29 rfl (by rfl) w_State rfl bk_ lz_ ?_) | (refine ld 26 rfl (by rfl) w_Block rfl bk_ lz_ ?_) | (refine ldp 26 rfl (by rfl) w_Block rfl bk_ ln_ (by omega) ?_) | (refine ld 27 rfl (by rfl) w_Four rfl bk_ lz_ ?_) | (refine ldp 27 rfl (by rfl) w_Four rfl bk_ ln_ (by omega) ?_) | (refine st 29 rfl (by rfl) w_State rfl rfl bk_ lz_ lz_ one_ ?_) | (refine st 26 rfl (by rfl) w_Block rfl rfl bk_ lz_ lz_ one_ ?_) | (refine st 27 rfl (by rfl) w_Four rfl rfl bk_ lz_ lz_ one_ ?_))
  exact bodyPost_ret (v := .tuple #[.agg (arrV O1), .agg (arrV (zs 38))]) (res_cc Tryz.results82 rfl w_Block (by exact bk_) LO1.sz rfl w_State (by exact bk_) (Len.zs 38).sz) rfl ⟨rfl, by rw [hB]; exact bl_⟩
end Go.Proofs.YtkoljgmapclhkaaGreatDoor

namespace Go.Proofs.YtkoljgmapclhkaaGreatDoor

/-- An entry. -/
structure Ent where
  kind : Int
  stamp : Int
  data : ByteArray
def rightE (e : Ent) : Bool :=
  if e.kind = 1 then decide (10 ≤ e.data.size) && decide (e.data.size ≤ 32) else if e.kind = 2 then decide (e.data.size = 0) else if e.kind = 3 then readE e.data == 0 else false
/-- What is heard of an entry, and the state then. -/
def stepO (L : List Int) (e : Ent) : List (List Int) :=
  if rightE e && rightS L then (if e.kind = 1 then [decO L e.data] else if e.kind = 2 then [loseO L] else []) else []
def stepS (L : List Int) (e : Ent) : List Int :=
  if rightE e && rightS L then (if e.kind = 1 then decSt L e.data else if e.kind = 2 then List.replicate 38 0 else L) else L
def foldO : List Int → List Ent → List (List Int)
  | _, [] => []
  | L, e :: r => stepO L e ++ foldO (stepS L e) r
def foldS (L : List Int) (l : List Ent) : List Int := l.foldl stepS L
def trueE (L : List Int) (e : Ent) : Bool := rightS L && rightE e && (!decide (e.kind = 3) || readSt e.data == L)
def heardE (e : Ent) : Bool := rightE e && !decide (e.kind = 3)
def soundsE (l : List Ent) : Nat := (l.filter heardE).length
def truthsE : List Int → List Ent → Nat
  | _, [] => 0
  | L, e :: r => if trueE L e then truthsE (stepS L e) r + 1 else 0
theorem foldO_app (L : List Int) (a b : List Ent) : foldO L (a ++ b) = foldO L a ++ foldO (foldS L a) b := by
  induction a generalizing L with
  | nil => rfl
  | cons e r ih => simp only [List.cons_append, foldO, ih, List.append_assoc]; rfl
theorem foldS_app (L : List Int) (a b : List Ent) : foldS L (a ++ b) = foldS (foldS L a) b := by simp [foldS]
theorem foldS_nil (L : List Int) : foldS L [] = L := rfl
theorem foldS_cons (L : List Int) (e : Ent) (r : List Ent) : foldS L (e :: r) = foldS (stepS L e) r := rfl
theorem decO_len (L : List Int) (s : ByteArray) : (decO L s).length = 16 := by
  unfold decO; split
  · unfold soundL nextO layL; rw [List.length_map, layG_len, overL_len]
  · simp
theorem decSt_len {L : List Int} (s : ByteArray) : (decSt L s).length = 38 := by
  unfold decSt; split
  · have hLO := levsS_ok s (levL L)
    have hWO := wavS_ok s (levL L)
    unfold nextSt; simp only [List.length_append, List.length_map, List.length_drop, backL_len, List.length_cons, List.length_nil, hLO.1, hWO.1]
  · simp
theorem stepS_len {L : List Int} (h : L.length = 38) (e : Ent) : (stepS L e).length = 38 := by
  unfold stepS
  split
  · split
    · exact decSt_len _
    · split
      · simp
      · exact h
  · exact h
theorem foldS_len {L : List Int} (h : L.length = 38) (l : List Ent) : (foldS L l).length = 38 := by
  induction l generalizing L with
  | nil => exact h
  | cons e r ih => exact ih (stepS_len h e)
theorem stepO_len (L : List Int) (e : Ent) : ∀ b ∈ stepO L e, b.length = 16 := by
  unfold stepO
  intro b hb
  split at hb
  · split at hb
    · simp only [List.mem_singleton] at hb; rw [hb]; exact decO_len _ _
    · split at hb
      · simp only [List.mem_singleton] at hb; rw [hb]; exact loseO_len _
      · cases hb
  · cases hb
theorem foldO_len (L : List Int) (l : List Ent) : ∀ b ∈ foldO L l, b.length = 16 := by
  induction l generalizing L with
  | nil => intro b hb; cases hb
  | cons e r ih =>
    intro b hb
    rcases List.mem_append.1 hb with h | h
    · exact stepO_len L e b h
    · exact ih _ b h
theorem stepO_le (L : List Int) (e : Ent) : (stepO L e).length ≤ 1 := by
  unfold stepO; split
  · split
    · simp
    · split <;> simp
  · simp
theorem foldO_le (L : List Int) (l : List Ent) : (foldO L l).length ≤ l.length := by
  induction l generalizing L with
  | nil => simp [foldO]
  | cons e r ih => have := stepO_le L e; have := ih (stepS L e); simp only [foldO, List.length_append, List.length_cons]; omega
/-- Behind a right state all is right. -/
theorem stepS_right {L : List Int} (hl : L.length = 38) (h : rightS L = true) (e : Ent) : rightS (stepS L e) = true := by
  unfold stepS
  split
  · next hr =>
    split
    · next h1 =>
      unfold rightE at hr
      rw [if_pos h1] at hr
      simp only [Bool.and_eq_true, decide_eq_true_eq] at hr
      exact (dec_good L e.data hr.1 h).2.2.2.1
    · split
      · exact rightS_zero
      · exact h
  · exact h
theorem foldS_right {L : List Int} (hl : L.length = 38) (h : rightS L = true) (l : List Ent) : rightS (foldS L l) = true := by
  induction l generalizing L with
  | nil => exact h
  | cons e r ih => exact ih (stepS_len hl e) (stepS_right hl h e)
theorem stepO_count {L : List Int} (h : rightS L = true) (e : Ent) : (stepO L e).length = if heardE e then 1 else 0 := by
  unfold stepO heardE
  rw [h, Bool.and_true]
  cases hr : rightE e with
  | false => simp
  | true =>
    by_cases h1 : e.kind = 1
    · simp [h1]
    · by_cases h2 : e.kind = 2
      · simp [h2]
      · by_cases h3 : e.kind = 3
        · simp [h3]
        · unfold rightE at hr; rw [if_neg h1, if_neg h2, if_neg h3] at hr; cases hr
theorem soundsE_cons (e : Ent) (r : List Ent) : soundsE (e :: r) = (if heardE e then 1 else 0) + soundsE r := by
  unfold soundsE
  rw [List.filter_cons]
  split
  · rw [List.length_cons]; omega
  · omega
theorem soundsE_app (a b : List Ent) : soundsE (a ++ b) = soundsE a + soundsE b := by unfold soundsE; rw [List.filter_append, List.length_append]
theorem foldO_count {L : List Int} (hl : L.length = 38) (h : rightS L = true) (l : List Ent) : (foldO L l).length = soundsE l := by
  induction l generalizing L with
  | nil => rfl
  | cons e r ih => rw [foldO, List.length_append, stepO_count h, ih (stepS_len hl e) (stepS_right hl h e), soundsE_cons]
end Go.Proofs.YtkoljgmapclhkaaGreatDoor

namespace Go.Proofs.YtkoljgmapclhkaaGreatDoor
open Go.RowKit

abbrev entV (e : Ent) : Array Value := #[.int .i64 e.kind, .int .u32 e.stamp, .string e.data]
theorem ent_one (e : Ent) : (entV e).all (·.oneCell') = true := by simp [Value.oneCell']
theorem toList_str (s : ByteArray) : s.toList = s.data.toList := by
  have := Lib.toList_data s
  exact this
theorem notEmpty_str {s : ByteArray} (h : ¬ s.size = 0) : s.toList.isEmpty = false := by
  rw [toList_str]
  have h2 : s.data.toList.length = s.size := by rw [Array.length_toList]; rfl
  cases hd : s.data.toList with
  | nil => rw [hd] at h2; exact absurd h2.symm h
  | cons a l => rfl
set_option maxRecDepth 100000 in
set_option maxHeartbeats 1000000 in
theorem ERight_any (e : Ent) (w : World) : Calls Tryz.prog 48 #[.agg (entV e)] w fun r w' => r = .returned (.bool (rightE e)) ∧ Below w.heap.size w w' := by
  obtain ⟨k, sp, s⟩ := e
  obtain ⟨R, hR⟩ : ∃ R, rightE ⟨k, sp, s⟩ = R := ⟨_, rfl⟩
  rw [hR]
  have HR := Lib.hid hR
  clear hR
  have hrd := fun w => Read_any s w
  have LR := Len.mk (readSt_len s)
  obtain ⟨O, hO⟩ : ∃ O, readSt s = O := ⟨_, rfl⟩
  obtain ⟨E, hE⟩ : ∃ E, readE s = E := ⟨_, rfl⟩
  simp only [hO, hE] at hrd LR
  have HRD := Lib.hid hrd
  have HE := Lib.hid hE
  clear hrd hO hE
  obtain ⟨B, hB⟩ : ∃ B, w.heap.size = B := ⟨_, rfl⟩
  have hfar := Below.refl B w
  have hsz : B ≤ w.heap.size := by omega
  by_cases h1 : k = 1
  · subst h1
    by_cases ha : 10 ≤ s.size
    · have ha' : (10 : Int) ≤ s.size := by omega
      by_cases hb : s.size ≤ 32
      · have hb' : (s.size : Int) ≤ 32 := by omega
        have hr : R = true := by rw [← HR.out]; unfold rightE; simp [ha, hb]
        subst hr
        go_enter Tryz.func48, Tryz.ntmps48
        go_wp2
        go_ret
        exact ⟨rfl, (by (try rw [hB]); exact bl_)⟩
      · have hb' : ¬ (s.size : Int) ≤ 32 := by omega
        have hr : R = false := by rw [← HR.out]; unfold rightE; simp [hb]
        subst hr
        go_enter Tryz.func48, Tryz.ntmps48
        go_wp2
        go_ret
        exact ⟨rfl, (by (try rw [hB]); exact bl_)⟩
    · have ha' : ¬ (10 : Int) ≤ s.size := by omega
      have hr : R = false := by rw [← HR.out]; unfold rightE; simp [ha]
      subst hr
      go_enter Tryz.func48, Tryz.ntmps48
      go_wp2
      go_ret
      exact ⟨rfl, (by (try rw [hB]); exact bl_)⟩
  by_cases h2 : k = 2
  · subst h2
    by_cases h0 : s.size = 0
    · have hr : R = true := by rw [← HR.out]; unfold rightE; simp [h0]
      obtain rfl : s = ⟨#[]⟩ := by
        apply ByteArray.ext
        exact Array.eq_empty_of_size_eq_zero h0
      subst hr
      go_enter Tryz.func48, Tryz.ntmps48
      go_wp2
      go_ret
      exact ⟨rfl, (by (try rw [hB]); exact bl_)⟩
    · have hr : R = false := by rw [← HR.out]; unfold rightE; simp [h0]
      have hne : s.toList.isEmpty = false := by
        exact notEmpty_str h0
      subst hr
      go_enter Tryz.func48, Tryz.ntmps48
      go_wp2
      go_ret
      exact ⟨rfl, (by (try rw [hB]); exact bl_)⟩
  by_cases h3 : k = 3
  · subst h3
    have hr : R = (E == 0) := by rw [← HR.out, ← HE.out]; unfold rightE; simp
    go_enter Tryz.func48, Tryz.ntmps48
    go_wp2_with fail
    refine (HRD.out _).mono ?_
    rintro e w2 ⟨rfl, hb2⟩
    replace hfar : Below B w w2 := (hfar.alloc (by omega) _).trans (hb2.mono (by simp; omega))
    have hs2 := hb2.size
    simp only [World.size_alloc] at hs2
    go_wp2_with (first | (refine st 92 rfl (by rfl) w_Entry rfl rfl bk_ zz_ zz_ one_ ?_) | (refine ld 92 rfl (by rfl) w_Entry rfl bk_ zz_ ?_) | (refine bd 29 rfl (by rfl) rfl state_zs ?_) | (refine bd 26 rfl (by rfl) rfl block_zs ?_) | (refine ld 29 rfl (by rfl) w_State rfl bk_ lz_ ?_) | (refine ld 26 rfl (by rfl) w_Block rfl bk_ lz_ ?_) | (refine ldp 26 rfl (by rfl) w_Block rfl bk_ ln_ (by omega) ?_) | (refine ld 27 rfl (by rfl) w_Four rfl bk_ lz_ ?_) | (refine ldp 27 rfl (by rfl) w_Four rfl bk_ ln_ (by omega) ?_) | (refine st 29 rfl (by rfl) w_State rfl rfl bk_ lz_ lz_ one_ ?_) | (refine st 26 rfl (by rfl) w_Block rfl rfl bk_ lz_ lz_ one_ ?_) | (refine st 27 rfl (by rfl) w_Four rfl rfl bk_ lz_ lz_ one_ ?_))
    go_ret
    exact ⟨by rw [hr]; rfl, (by (try rw [hB]); exact bl_)⟩
  · have hr : R = false := by rw [← HR.out]; unfold rightE; simp [h1, h2, h3]
    have e1 : (k == 1) = false := by simpa using h1
    have e2 : (k == 2) = false := by simpa using h2
    have e3 : (k == 3) = false := by simpa using h3
    subst hr
    go_enter Tryz.func48, Tryz.ntmps48
    go_wp2
    go_ret
    exact ⟨rfl, (by (try rw [hB]); exact bl_)⟩
set_option maxRecDepth 100000 in
set_option maxHeartbeats 1000000 in
theorem stold_any (e : Ent) (w : World) : Calls Tryz.prog 83 #[.agg (entV e)] w fun r w' => r = .returned (.agg (arrV (readSt e.data))) ∧ Below w.heap.size w w' := by
  obtain ⟨k, sp, s⟩ := e
  show Calls _ _ _ _ fun r w' => r = .returned (.agg (arrV (readSt s))) ∧ _
  have hrd := fun w => Read_any s w
  have LO := Len.mk (readSt_len s)
  obtain ⟨O, hO⟩ : ∃ O, readSt s = O := ⟨_, rfl⟩
  obtain ⟨E, hE⟩ : ∃ E, readE s = E := ⟨_, rfl⟩
  simp only [hO, hE] at hrd LO ⊢
  have HRD := Lib.hid hrd
  clear hrd hO hE
  obtain ⟨B, hB⟩ : ∃ B, w.heap.size = B := ⟨_, rfl⟩
  have hfar := Below.refl B w
  have hsz : B ≤ w.heap.size := by omega
  go_enter Tryz.func83, Tryz.ntmps83
  go_upto_region 1 with (fail)
  refine wp_gen (fun W => Blk W (B) (entV ⟨k, sp, s⟩) 92 ∧ Blk W (B + 1) (arrV (zs 38)) 29 ∧ Below (B) w W ∧ B + 2 ≤ W.heap.size) ⟨bk_, bk_, bl_, sz_⟩ ?_
  clear hfar hsz
  rintro w1 ⟨hA, hR, hfar, hsz⟩
  have c2 := hA.cell 2
  simp only [List.getElem?_toArray, List.getElem?_cons_zero, List.getElem?_cons_succ] at c2
  go_wp2_with fail
  refine (HRD.out _).mono ?_
  rintro e w2 ⟨rfl, hb2⟩
  replace hA := hA.newB hb2
  replace hR := hR.newB hb2
  replace hfar := hfar.trans (hb2.mono (by omega))
  replace hsz := Nat.le_trans hsz hb2.size
  obtain ⟨g, hs_g⟩ : ∃ g, w2.heap.size = g := ⟨_, rfl⟩
  have hk_g : B + 2 ≤ g := by omega
  clear c2
  go_wp2_with (first | (refine st 92 rfl (by rfl) w_Entry rfl rfl bk_ zz_ zz_ one_ ?_) | (refine ld 92 rfl (by rfl) w_Entry rfl bk_ zz_ ?_) | (refine bd 29 rfl (by rfl) rfl state_zs ?_) | (refine bd 26 rfl (by rfl) rfl block_zs ?_) | (refine ld 29 rfl (by rfl) w_State rfl bk_ lz_ ?_) | (refine ld 26 rfl (by rfl) w_Block rfl bk_ lz_ ?_) | (refine ldp 26 rfl (by rfl) w_Block rfl bk_ ln_ (by omega) ?_) | (refine ld 27 rfl (by rfl) w_Four rfl bk_ lz_ ?_) | (refine ldp 27 rfl (by rfl) w_Four rfl bk_ ln_ (by omega) ?_) | (refine st 29 rfl (by rfl) w_State rfl rfl bk_ lz_ lz_ one_ ?_) | (refine st 26 rfl (by rfl) w_Block rfl rfl bk_ lz_ lz_ one_ ?_) | (refine st 27 rfl (by rfl) w_Four rfl rfl bk_ lz_ lz_ one_ ?_))
  exact bodyPost_ret (v := .agg (arrV O)) (res_c Tryz.results83 rfl w_State (by exact bk_) LO.sz) rfl ⟨rfl, (by (try rw [hB]); exact bl_)⟩
/-- A result that is a slice of blocks, and a state. -/
def RetBS (w : World) (l : List (List Int)) (L : List Int) (e : Ending) (w' : World) : Prop :=
  ∃ v, e = .returned (.tuple #[v, .agg (arrV L)]) ∧ w'.ownsRow w.heap.size 26 16 v l.length (l.flatMap intsV) ∧ Below w.heap.size w w'
theorem own_one {W : World} {g B : Nat} {b : List Int} (h : Blk W g (arrV b) 26) (hl : Len b 16) (hg : B ≤ g) : W.ownsRow B 26 16 (.slice (some ⟨g, 0, none⟩) 1 1) 1 ([b].flatMap intsV) :=
  ⟨by simp [hl.out], .inr ⟨g, 1, arrV b, rfl, hg, h, Nat.le_refl _, by unfold maxLen; omega, by rw [hl.sz], by simp; exact List.take_of_length_le (by rw [List.length_map, hl.out]; omega)⟩⟩
abbrev bandC : Array Value := #[.int .i64 0, .int .i64 2, .int .i64 4, .int .i64 8, .int .i64 16]
set_option maxRecDepth 100000 in
set_option maxHeartbeats 4000000 in
theorem Step_any (L : List Int) (hL : L.length = 38) (e : Ent) (w : World) (hW : BandsW w) : Calls Tryz.prog 50 #[.agg (arrV L), .agg (entV e)] w (RetBS w (stepO L e) (stepS L e)) := by
  obtain ⟨k, sp, s⟩ := e
  have hBW : Blk w 0 bandC 164 := hW
  have hB0 := hW.lt
  obtain ⟨O, hO⟩ : ∃ O, stepO L ⟨k, sp, s⟩ = O := ⟨_, rfl⟩
  obtain ⟨S', hS⟩ : ∃ S', stepS L ⟨k, sp, s⟩ = S' := ⟨_, rfl⟩
  rw [hO, hS]
  have HO := Lib.hid hO
  have HS := Lib.hid hS
  clear hO hS
  have hEr := fun w => ERight_any ⟨k, sp, s⟩ w
  have hRt := fun w => Right_any L hL w
  have LL := Len.mk hL
  have HER := Lib.hid hEr
  have HRT := Lib.hid hRt
  clear hL hEr hRt hW
  obtain ⟨B, hB⟩ : ∃ B, w.heap.size = B := ⟨_, rfl⟩
  rw [hB] at hB0
  have hfar := Below.refl B w
  have hsz : B ≤ w.heap.size := by omega
  go_enter Tryz.func50, Tryz.ntmps50
  go_upto_region 1 with (fail)
  refine wp_gen (fun W => Blk W (0) (bandC) 164 ∧ Blk W (B) (arrV L) 29 ∧ Blk W (B + 1) (entV ⟨k, sp, s⟩) 92 ∧ Blk W (B + 1 + 1) (arrV (zs 38)) 29 ∧ Below (B) w W ∧ B + 3 ≤ W.heap.size) ⟨bk_, bk_, bk_, bk_, bl_, sz_⟩ ?_
  clear hBW hfar hsz
  rintro w1 ⟨hBW, hA, hE, hR, hfar, hsz⟩
  go_wp2_with (first | (refine st 92 rfl (by rfl) w_Entry rfl rfl bk_ zz_ zz_ one_ ?_) | (refine ld 92 rfl (by rfl) w_Entry rfl bk_ zz_ ?_) | (refine bd 29 rfl (by rfl) rfl state_zs ?_) | (refine bd 26 rfl (by rfl) rfl block_zs ?_) | (refine ld 29 rfl (by rfl) w_State rfl bk_ lz_ ?_) | (refine ld 26 rfl (by rfl) w_Block rfl bk_ lz_ ?_) | (refine ldp 26 rfl (by rfl) w_Block rfl bk_ ln_ (by omega) ?_) | (refine ld 27 rfl (by rfl) w_Four rfl bk_ lz_ ?_) | (refine ldp 27 rfl (by rfl) w_Four rfl bk_ ln_ (by omega) ?_) | (refine st 29 rfl (by rfl) w_State rfl rfl bk_ lz_ lz_ one_ ?_) | (refine st 26 rfl (by rfl) w_Block rfl rfl bk_ lz_ lz_ one_ ?_) | (refine st 27 rfl (by rfl) w_Four rfl rfl bk_ lz_ lz_ one_ ?_))
  refine (HER.out _).mono ?_
  rintro e w2 ⟨rfl, hb2⟩
  replace hBW := hBW.newB hb2
  replace hA := hA.newB hb2
  replace hE := hE.newB hb2
  replace hR := hR.newB hb2
  replace hfar := hfar.trans (hb2.mono (by omega))
  replace hsz := Nat.le_trans hsz hb2.size
  cases hre : rightE ⟨k, sp, s⟩ with
  | false =>
    have h1 : O = [] := by rw [← HO.out]; unfold stepO; rw [hre]; rfl
    have h2 : S' = L := by rw [← HS.out]; unfold stepS; rw [hre]; rfl
    replace h2 := h2.symm
    subst h1 h2
    go_upto_region 2 with (first | (refine st 92 rfl (by rfl) w_Entry rfl rfl bk_ zz_ zz_ one_ ?_) | (refine ld 92 rfl (by rfl) w_Entry rfl bk_ zz_ ?_) | (refine bd 29 rfl (by rfl) rfl state_zs ?_) | (refine bd 26 rfl (by rfl) rfl block_zs ?_) | (refine ld 29 rfl (by rfl) w_State rfl bk_ lz_ ?_) | (refine ld 26 rfl (by rfl) w_Block rfl bk_ lz_ ?_) | (refine ldp 26 rfl (by rfl) w_Block rfl bk_ ln_ (by omega) ?_) | (refine ld 27 rfl (by rfl) w_Four rfl bk_ lz_ ?_) | (refine ldp 27 rfl (by rfl) w_Four rfl bk_ ln_ (by omega) ?_) | (refine st 29 rfl (by rfl) w_State rfl rfl bk_ lz_ lz_ one_ ?_) | (refine st 26 rfl (by rfl) w_Block rfl rfl bk_ lz_ lz_ one_ ?_) | (refine st 27 rfl (by rfl) w_Four rfl rfl bk_ lz_ lz_ one_ ?_))
    refine wp_region_held_drew (S := fun W => Blk W (B) (arrV L) 29) (by kernel_rfl) (hA.drew) (fun hH => ?_)
    refine tk 0 hH (v := .agg (arrV L)) (y := (yieldsIf_ld (by rfl) 29 rfl w_State rfl (fun _ hS => hS) zz_)) (k := ?_)
    refine tk 1 hH (y := yp) (k := ?_)
    refine wpAnyH_ready (rs := [2]) (by kernel_rfl) (by simp) ?_
    refine rc (h := fun K hK => ?_) (r := AllReadyH.nil)
    refine wp_st 29 rfl w_State rfl rfl bk_ zz_ zz_ one_ ?_
    refine hK.out _ _ bk_ (fun hH => ?_)
    clear hK K
    try simp only [Act.put]
    refine wpAnyH_done (by kernel_rfl) ?_ _
    go_wp2_with fail
    exact bodyPost_ret (v := .tuple #[.slice none 0 0, .agg (arrV L)]) (res_tc Tryz.results50 rfl rfl w_State (by exact bk_) LL.sz) rfl ⟨_, rfl, World.ownsRow_nil _ _ _ _, (by (try rw [hB]); exact bl_)⟩
  | true =>
    go_wp2_with (first | (refine st 92 rfl (by rfl) w_Entry rfl rfl bk_ zz_ zz_ one_ ?_) | (refine ld 92 rfl (by rfl) w_Entry rfl bk_ zz_ ?_) | (refine bd 29 rfl (by rfl) rfl state_zs ?_) | (refine bd 26 rfl (by rfl) rfl block_zs ?_) | (refine ld 29 rfl (by rfl) w_State rfl bk_ lz_ ?_) | (refine ld 26 rfl (by rfl) w_Block rfl bk_ lz_ ?_) | (refine ldp 26 rfl (by rfl) w_Block rfl bk_ ln_ (by omega) ?_) | (refine ld 27 rfl (by rfl) w_Four rfl bk_ lz_ ?_) | (refine ldp 27 rfl (by rfl) w_Four rfl bk_ ln_ (by omega) ?_) | (refine st 29 rfl (by rfl) w_State rfl rfl bk_ lz_ lz_ one_ ?_) | (refine st 26 rfl (by rfl) w_Block rfl rfl bk_ lz_ lz_ one_ ?_) | (refine st 27 rfl (by rfl) w_Four rfl rfl bk_ lz_ lz_ one_ ?_))
    refine (HRT.out _).mono ?_
    rintro e w3 ⟨rfl, hb3⟩
    replace hBW := hBW.newB hb3
    replace hA := hA.newB hb3
    replace hE := hE.newB hb3
    replace hR := hR.newB hb3
    replace hfar := hfar.trans (hb3.mono (by omega))
    replace hsz := Nat.le_trans hsz hb3.size
    cases hrs : rightS L with
    | false =>
      have h1 : O = [] := by rw [← HO.out]; unfold stepO; rw [hre, hrs]; rfl
      have h2 : S' = L := by rw [← HS.out]; unfold stepS; rw [hre, hrs]; rfl
      replace h2 := h2.symm
      subst h1 h2
      go_upto_region 2 with (first | (refine st 92 rfl (by rfl) w_Entry rfl rfl bk_ zz_ zz_ one_ ?_) | (refine ld 92 rfl (by rfl) w_Entry rfl bk_ zz_ ?_) | (refine bd 29 rfl (by rfl) rfl state_zs ?_) | (refine bd 26 rfl (by rfl) rfl block_zs ?_) | (refine ld 29 rfl (by rfl) w_State rfl bk_ lz_ ?_) | (refine ld 26 rfl (by rfl) w_Block rfl bk_ lz_ ?_) | (refine ldp 26 rfl (by rfl) w_Block rfl bk_ ln_ (by omega) ?_) | (refine ld 27 rfl (by rfl) w_Four rfl bk_ lz_ ?_) | (refine ldp 27 rfl (by rfl) w_Four rfl bk_ ln_ (by omega) ?_) | (refine st 29 rfl (by rfl) w_State rfl rfl bk_ lz_ lz_ one_ ?_) | (refine st 26 rfl (by rfl) w_Block rfl rfl bk_ lz_ lz_ one_ ?_) | (refine st 27 rfl (by rfl) w_Four rfl rfl bk_ lz_ lz_ one_ ?_))
      refine wp_region_held_drew (S := fun W => Blk W (B) (arrV L) 29) (by kernel_rfl) (hA.drew) (fun hH => ?_)
      refine tk 0 hH (v := .agg (arrV L)) (y := (yieldsIf_ld (by rfl) 29 rfl w_State rfl (fun _ hS => hS) zz_)) (k := ?_)
      refine tk 1 hH (y := yp) (k := ?_)
      refine wpAnyH_ready (rs := [2]) (by kernel_rfl) (by simp) ?_
      refine rc (h := fun K hK => ?_) (r := AllReadyH.nil)
      refine wp_st 29 rfl w_State rfl rfl bk_ zz_ zz_ one_ ?_
      refine hK.out _ _ bk_ (fun hH => ?_)
      clear hK K
      try simp only [Act.put]
      refine wpAnyH_done (by kernel_rfl) ?_ _
      go_wp2_with fail
      exact bodyPost_ret (v := .tuple #[.slice none 0 0, .agg (arrV L)]) (res_tc Tryz.results50 rfl rfl w_State (by exact bk_) LL.sz) rfl ⟨_, rfl, World.ownsRow_nil _ _ _ _, (by (try rw [hB]); exact bl_)⟩
    | true =>
      have c0 := hE.cell 0
      have c2 := hE.cell 2
      simp only [List.getElem?_toArray, List.getElem?_cons_zero, List.getElem?_cons_succ] at c0 c2
      by_cases h1 : k = 1
      · subst h1
        have hde := fun w hW => Decode_any L LL.out s w hW
        have e1 : O = [decO L s] := by rw [← HO.out]; unfold stepO; rw [hre, hrs]; rfl
        have e2 : S' = decSt L s := by rw [← HS.out]; unfold stepS; rw [hre, hrs]; rfl
        have LD := Len.mk (decO_len L s)
        obtain ⟨D, hD⟩ : ∃ D, decO L s = D := ⟨_, rfl⟩
        have LS := Len.mk (decSt_len (L := L) s)
        obtain ⟨E, hEr⟩ : ∃ E, decE L s = E := ⟨_, rfl⟩
        simp only [hD, hEr, ← e2] at hde e1 LD LS
        subst e1
        have HDE := Lib.hid hde
        clear hde hD hEr e2
        go_upto_region 5 with (first | (refine st 92 rfl (by rfl) w_Entry rfl rfl bk_ zz_ zz_ one_ ?_) | (refine ld 92 rfl (by rfl) w_Entry rfl bk_ zz_ ?_) | (refine bd 29 rfl (by rfl) rfl state_zs ?_) | (refine bd 26 rfl (by rfl) rfl block_zs ?_) | (refine ld 29 rfl (by rfl) w_State rfl bk_ lz_ ?_) | (refine ld 26 rfl (by rfl) w_Block rfl bk_ lz_ ?_) | (refine ldp 26 rfl (by rfl) w_Block rfl bk_ ln_ (by omega) ?_) | (refine ld 27 rfl (by rfl) w_Four rfl bk_ lz_ ?_) | (refine ldp 27 rfl (by rfl) w_Four rfl bk_ ln_ (by omega) ?_) | (refine st 29 rfl (by rfl) w_State rfl rfl bk_ lz_ lz_ one_ ?_) | (refine st 26 rfl (by rfl) w_Block rfl rfl bk_ lz_ lz_ one_ ?_) | (refine st 27 rfl (by rfl) w_Four rfl rfl bk_ lz_ lz_ one_ ?_))
        go_wp2_with (first | (refine st 92 rfl (by rfl) w_Entry rfl rfl bk_ zz_ zz_ one_ ?_) | (refine ld 92 rfl (by rfl) w_Entry rfl bk_ zz_ ?_) | (refine bd 29 rfl (by rfl) rfl state_zs ?_) | (refine bd 26 rfl (by rfl) rfl block_zs ?_) | (refine ld 29 rfl (by rfl) w_State rfl bk_ lz_ ?_) | (refine ld 26 rfl (by rfl) w_Block rfl bk_ lz_ ?_) | (refine ldp 26 rfl (by rfl) w_Block rfl bk_ ln_ (by omega) ?_) | (refine ld 27 rfl (by rfl) w_Four rfl bk_ lz_ ?_) | (refine ldp 27 rfl (by rfl) w_Four rfl bk_ ln_ (by omega) ?_) | (refine st 29 rfl (by rfl) w_State rfl rfl bk_ lz_ lz_ one_ ?_) | (refine st 26 rfl (by rfl) w_Block rfl rfl bk_ lz_ lz_ one_ ?_) | (refine st 27 rfl (by rfl) w_Four rfl rfl bk_ lz_ lz_ one_ ?_))
        refine (HDE.out _ hBW).mono ?_
        rintro e w4 ⟨rfl, hb4⟩
        replace hBW := hBW.newB hb4
        replace hA := hA.newB hb4
        replace hR := hR.newB hb4
        replace hE := hE.newB hb4
        replace hfar := hfar.trans (hb4.mono (by omega))
        replace hsz := Nat.le_trans hsz hb4.size
        obtain ⟨g, hs_g⟩ : ∃ g, w4.heap.size = g := ⟨_, rfl⟩
        have hk_g : B + 3 ≤ g := by omega
        clear c0 c2
        go_upto_region 6 with (first | (refine st 92 rfl (by rfl) w_Entry rfl rfl bk_ zz_ zz_ one_ ?_) | (refine ld 92 rfl (by rfl) w_Entry rfl bk_ zz_ ?_) | (refine bd 29 rfl (by rfl) rfl state_zs ?_) | (refine bd 26 rfl (by rfl) rfl block_zs ?_) | (refine ld 29 rfl (by rfl) w_State rfl bk_ lz_ ?_) | (refine ld 26 rfl (by rfl) w_Block rfl bk_ lz_ ?_) | (refine ldp 26 rfl (by rfl) w_Block rfl bk_ ln_ (by omega) ?_) | (refine ld 27 rfl (by rfl) w_Four rfl bk_ lz_ ?_) | (refine ldp 27 rfl (by rfl) w_Four rfl bk_ ln_ (by omega) ?_) | (refine st 29 rfl (by rfl) w_State rfl rfl bk_ lz_ lz_ one_ ?_) | (refine st 26 rfl (by rfl) w_Block rfl rfl bk_ lz_ lz_ one_ ?_) | (refine st 27 rfl (by rfl) w_Four rfl rfl bk_ lz_ lz_ one_ ?_))
        refine wp_gen (fun W => Blk W (0) (bandC) 164 ∧ Blk W (B) (arrV L) 29 ∧ Blk W (B + 1 + 1) (arrV (zs 38)) 29 ∧ Blk W (B + 1) (entV ⟨1, sp, s⟩) 92 ∧ Blk W (g) (arrV D) 26 ∧ Blk W (g + 1) (arrV S') 29 ∧ Below (B) w W ∧ g + 2 ≤ W.heap.size) ⟨bk_, bk_, bk_, bk_, bk_, bk_, bl_, sz_⟩ ?_
        clear hBW hA hR hE hfar hsz
        rintro w5 ⟨hBW, hA, hR, hE, hN1, hN2, hfar, hsz⟩
        refine wp_region_held_drew (S := fun W => Blk W (g) (arrV D) 26 ∧ Blk W (g + 1) (arrV S') 29) (by kernel_rfl) ⟨hN1.drew, hN2.drew⟩ (fun hH => ?_)
        refine tk 0 hH (v := .agg (arrV D)) (y := (yieldsIf_ld (by rfl) 26 rfl w_Block rfl (fun _ hS => hS.1) zz_)) (k := ?_)
        refine tk 2 hH (v := .agg (arrV S')) (y := (yieldsIf_ld (by rfl) 29 rfl w_State rfl (fun _ hS => hS.2) zz_)) (k := ?_)
        refine wpAnyH_ready (rs := [1]) (by kernel_rfl) (by simp) ?_
        refine rc (h := fun K hK => ?_) (r := AllReadyH.nil)
        refine wp_bs1 24 rfl rfl Tryz.underlying24 el_Block (by omega) (by omega) zz_ ?_
        refine hK.out _ _ ⟨bk_, bk_⟩ (fun hH => ?_)
        clear hK K
        try simp only [Act.put, sa, List.set_cons_zero, List.set_cons_succ]
        refine tk 3 hH (y := yp) (k := ?_)
        refine wpAnyH_ready (rs := [4]) (by kernel_rfl) (by simp) ?_
        refine rc (h := fun K hK => ?_) (r := AllReadyH.nil)
        refine wp_st 29 rfl w_State rfl rfl bk_ zz_ zz_ one_ ?_
        refine hK.out _ _ ⟨bk_, bk_⟩ (fun hH => ?_)
        clear hK K
        try simp only [Act.put]
        refine wpAnyH_done (by kernel_rfl) ?_ _
        go_wp2_with fail
        exact bodyPost_ret (v := .tuple #[_, .agg (arrV S')]) (res_tc Tryz.results50 rfl rfl w_State (by exact bk_) LS.sz) rfl ⟨_, rfl, own_one (by exact bk_) LD (by (try rw [hB]); exact sz_), (by (try rw [hB]); exact bl_)⟩
      by_cases h2 : k = 2
      · subst h2
        have hde := fun w => Gap_any L LL.out w
        have e1 : O = [loseO L] := by rw [← HO.out]; unfold stepO; rw [hre, hrs]; rfl
        have e2 : S' = zs 38 := by rw [← HS.out]; unfold stepS; rw [hre, hrs]; rfl
        have LD := Len.mk (loseO_len L)
        have LS := Len.zs 38
        obtain ⟨D, hD⟩ : ∃ D, loseO L = D := ⟨_, rfl⟩
        simp only [hD, ← e2] at hde e1 LD LS
        subst e1
        have HDE := Lib.hid hde
        clear hde hD e2
        go_upto_region 8 with (first | (refine st 92 rfl (by rfl) w_Entry rfl rfl bk_ zz_ zz_ one_ ?_) | (refine ld 92 rfl (by rfl) w_Entry rfl bk_ zz_ ?_) | (refine bd 29 rfl (by rfl) rfl state_zs ?_) | (refine bd 26 rfl (by rfl) rfl block_zs ?_) | (refine ld 29 rfl (by rfl) w_State rfl bk_ lz_ ?_) | (refine ld 26 rfl (by rfl) w_Block rfl bk_ lz_ ?_) | (refine ldp 26 rfl (by rfl) w_Block rfl bk_ ln_ (by omega) ?_) | (refine ld 27 rfl (by rfl) w_Four rfl bk_ lz_ ?_) | (refine ldp 27 rfl (by rfl) w_Four rfl bk_ ln_ (by omega) ?_) | (refine st 29 rfl (by rfl) w_State rfl rfl bk_ lz_ lz_ one_ ?_) | (refine st 26 rfl (by rfl) w_Block rfl rfl bk_ lz_ lz_ one_ ?_) | (refine st 27 rfl (by rfl) w_Four rfl rfl bk_ lz_ lz_ one_ ?_))
        go_wp2_with (first | (refine st 92 rfl (by rfl) w_Entry rfl rfl bk_ zz_ zz_ one_ ?_) | (refine ld 92 rfl (by rfl) w_Entry rfl bk_ zz_ ?_) | (refine bd 29 rfl (by rfl) rfl state_zs ?_) | (refine bd 26 rfl (by rfl) rfl block_zs ?_) | (refine ld 29 rfl (by rfl) w_State rfl bk_ lz_ ?_) | (refine ld 26 rfl (by rfl) w_Block rfl bk_ lz_ ?_) | (refine ldp 26 rfl (by rfl) w_Block rfl bk_ ln_ (by omega) ?_) | (refine ld 27 rfl (by rfl) w_Four rfl bk_ lz_ ?_) | (refine ldp 27 rfl (by rfl) w_Four rfl bk_ ln_ (by omega) ?_) | (refine st 29 rfl (by rfl) w_State rfl rfl bk_ lz_ lz_ one_ ?_) | (refine st 26 rfl (by rfl) w_Block rfl rfl bk_ lz_ lz_ one_ ?_) | (refine st 27 rfl (by rfl) w_Four rfl rfl bk_ lz_ lz_ one_ ?_))
        refine (HDE.out _).mono ?_
        rintro e w4 ⟨rfl, hb4⟩
        replace hBW := hBW.newB hb4
        replace hA := hA.newB hb4
        replace hR := hR.newB hb4
        replace hE := hE.newB hb4
        replace hfar := hfar.trans (hb4.mono (by omega))
        replace hsz := Nat.le_trans hsz hb4.size
        obtain ⟨g, hs_g⟩ : ∃ g, w4.heap.size = g := ⟨_, rfl⟩
        have hk_g : B + 3 ≤ g := by omega
        clear c0 c2
        go_upto_region 9 with (first | (refine st 92 rfl (by rfl) w_Entry rfl rfl bk_ zz_ zz_ one_ ?_) | (refine ld 92 rfl (by rfl) w_Entry rfl bk_ zz_ ?_) | (refine bd 29 rfl (by rfl) rfl state_zs ?_) | (refine bd 26 rfl (by rfl) rfl block_zs ?_) | (refine ld 29 rfl (by rfl) w_State rfl bk_ lz_ ?_) | (refine ld 26 rfl (by rfl) w_Block rfl bk_ lz_ ?_) | (refine ldp 26 rfl (by rfl) w_Block rfl bk_ ln_ (by omega) ?_) | (refine ld 27 rfl (by rfl) w_Four rfl bk_ lz_ ?_) | (refine ldp 27 rfl (by rfl) w_Four rfl bk_ ln_ (by omega) ?_) | (refine st 29 rfl (by rfl) w_State rfl rfl bk_ lz_ lz_ one_ ?_) | (refine st 26 rfl (by rfl) w_Block rfl rfl bk_ lz_ lz_ one_ ?_) | (refine st 27 rfl (by rfl) w_Four rfl rfl bk_ lz_ lz_ one_ ?_))
        refine wp_gen (fun W => Blk W (0) (bandC) 164 ∧ Blk W (B) (arrV L) 29 ∧ Blk W (B + 1 + 1) (arrV (zs 38)) 29 ∧ Blk W (B + 1) (entV ⟨2, sp, s⟩) 92 ∧ Blk W (g) (arrV D) 26 ∧ Blk W (g + 1) (arrV S') 29 ∧ Below (B) w W ∧ g + 2 ≤ W.heap.size) ⟨bk_, bk_, bk_, bk_, bk_, bk_, bl_, sz_⟩ ?_
        clear hBW hA hR hE hfar hsz
        rintro w5 ⟨hBW, hA, hR, hE, hN1, hN2, hfar, hsz⟩
        refine wp_region_held_drew (S := fun W => Blk W (g) (arrV D) 26 ∧ Blk W (g + 1) (arrV S') 29) (by kernel_rfl) ⟨hN1.drew, hN2.drew⟩ (fun hH => ?_)
        refine tk 0 hH (v := .agg (arrV D)) (y := (yieldsIf_ld (by rfl) 26 rfl w_Block rfl (fun _ hS => hS.1) zz_)) (k := ?_)
        refine tk 2 hH (v := .agg (arrV S')) (y := (yieldsIf_ld (by rfl) 29 rfl w_State rfl (fun _ hS => hS.2) zz_)) (k := ?_)
        refine wpAnyH_ready (rs := [1]) (by kernel_rfl) (by simp) ?_
        refine rc (h := fun K hK => ?_) (r := AllReadyH.nil)
        refine wp_bs1 24 rfl rfl Tryz.underlying24 el_Block (by omega) (by omega) zz_ ?_
        refine hK.out _ _ ⟨bk_, bk_⟩ (fun hH => ?_)
        clear hK K
        try simp only [Act.put, sa, List.set_cons_zero, List.set_cons_succ]
        refine tk 3 hH (y := yp) (k := ?_)
        refine wpAnyH_ready (rs := [4]) (by kernel_rfl) (by simp) ?_
        refine rc (h := fun K hK => ?_) (r := AllReadyH.nil)
        refine wp_st 29 rfl w_State rfl rfl bk_ zz_ zz_ one_ ?_
        refine hK.out _ _ ⟨bk_, bk_⟩ (fun hH => ?_)
        clear hK K
        try simp only [Act.put]
        refine wpAnyH_done (by kernel_rfl) ?_ _
        go_wp2_with fail
        exact bodyPost_ret (v := .tuple #[_, .agg (arrV S')]) (res_tc Tryz.results50 rfl rfl w_State (by exact bk_) LS.sz) rfl ⟨_, rfl, own_one (by exact bk_) LD (by (try rw [hB]); exact sz_), (by (try rw [hB]); exact bl_)⟩
      · have e1 : O = [] := by rw [← HO.out]; unfold stepO; rw [hre, hrs]; simp [h1, h2]
        have e2 : L = S' := by rw [← HS.out]; unfold stepS; rw [hre, hrs]; simp [h1, h2]
        subst e1
        subst e2
        have q1 : (k == 1) = false := by simpa using h1
        have q2 : (k == 2) = false := by simpa using h2
        go_upto_region 10 with (first | (refine st 92 rfl (by rfl) w_Entry rfl rfl bk_ zz_ zz_ one_ ?_) | (refine ld 92 rfl (by rfl) w_Entry rfl bk_ zz_ ?_) | (refine bd 29 rfl (by rfl) rfl state_zs ?_) | (refine bd 26 rfl (by rfl) rfl block_zs ?_) | (refine ld 29 rfl (by rfl) w_State rfl bk_ lz_ ?_) | (refine ld 26 rfl (by rfl) w_Block rfl bk_ lz_ ?_) | (refine ldp 26 rfl (by rfl) w_Block rfl bk_ ln_ (by omega) ?_) | (refine ld 27 rfl (by rfl) w_Four rfl bk_ lz_ ?_) | (refine ldp 27 rfl (by rfl) w_Four rfl bk_ ln_ (by omega) ?_) | (refine st 29 rfl (by rfl) w_State rfl rfl bk_ lz_ lz_ one_ ?_) | (refine st 26 rfl (by rfl) w_Block rfl rfl bk_ lz_ lz_ one_ ?_) | (refine st 27 rfl (by rfl) w_Four rfl rfl bk_ lz_ lz_ one_ ?_))
        refine wp_region_held_drew (S := fun W => Blk W (B) (arrV L) 29) (by kernel_rfl) (hA.drew) (fun hH => ?_)
        refine tk 0 hH (v := .agg (arrV L)) (y := (yieldsIf_ld (by rfl) 29 rfl w_State rfl (fun _ hS => hS) zz_)) (k := ?_)
        refine tk 1 hH (y := yp) (k := ?_)
        refine wpAnyH_ready (rs := [2]) (by kernel_rfl) (by simp) ?_
        refine rc (h := fun K hK => ?_) (r := AllReadyH.nil)
        refine wp_st 29 rfl w_State rfl rfl bk_ zz_ zz_ one_ ?_
        refine hK.out _ _ bk_ (fun hH => ?_)
        clear hK K
        try simp only [Act.put]
        refine wpAnyH_done (by kernel_rfl) ?_ _
        go_wp2_with fail
        exact bodyPost_ret (v := .tuple #[.slice none 0 0, .agg (arrV L)]) (res_tc Tryz.results50 rfl rfl w_State (by exact bk_) LL.sz) rfl ⟨_, rfl, World.ownsRow_nil _ _ _ _, (by (try rw [hB]); exact bl_)⟩
end Go.Proofs.YtkoljgmapclhkaaGreatDoor
