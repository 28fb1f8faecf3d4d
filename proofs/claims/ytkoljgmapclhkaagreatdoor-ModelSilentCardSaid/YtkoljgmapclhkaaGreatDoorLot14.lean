/- The walks of strings.Builder's copyCheck, WriteString and WriteByte at a builder of the call's own (lines of the shelf's worked walks, turned to this program). The bytes of numbers, plainly. The walks of crc.Four, state.Bytes and entry.Check. The walk of state.Bytes' put. A state's bytes, and that they are read back. The walk of state.Bytes. -/
import Derived.Test.YtkoljgmapclhkaaGreatDoorLot0
import Derived.Lib.Builder
import Derived.Lib.AppendStr
import Derived.Test.YtkoljgmapclhkaaGreatDoorLot13
import Derived.Laws.BytesArg
import Derived.Test.YtkoljgmapclhkaaGreatDoorShelf
set_option linter.unusedSimpArgs false
set_option linter.unusedVariables false
namespace Go.Proofs.YtkoljgmapclhkaaGreatDoor
open Go.RowKit

theorem bl_size : (Tryz.prog.info? 199).map (·.size) = some 2 := by kernel_rfl
theorem bl_lies : liesAt Tryz.prog Tryz.prog.depth 199 (2 / Tryz.prog.cellsOf 199) 0 199 1 = true := by kernel_rfl
theorem bl_byte : (Tryz.prog.info? 5).map (fun i => (i.zero, i.size, i.bytes)) = some (some (.int .u8 0), 1, 1) := by kernel_rfl
set_option maxHeartbeats 1000000 in
set_option maxRecDepth 100000 in
theorem copy_used (b : Nat) (w : World) (h0 : w.cell? ⟨b, 0, none⟩ = some (.pointer (some ⟨b, 0, none⟩))) :
    Calls Tryz.prog 178 #[.pointer (some ⟨b, 0, none⟩)] w fun e w' => e = .returned (.tuple #[]) ∧ w' = w := by
  obtain ⟨j, hj, _⟩ := Option.map_eq_some_iff.1 bl_size
  go_enter Tryz.func178, Tryz.ntmps178
  go_wp2
  rw [Lib.run_neq_ptr_same w _ Tryz.underlying197 hj]
  go_wp2
  go_end0
  exact ⟨rfl, rfl⟩
set_option maxHeartbeats 1000000 in
set_option maxRecDepth 100000 in
theorem copy_fresh (b : Nat) (w : World) (h0 : w.cell? ⟨b, 0, none⟩ = some (.pointer none)) (hsh : w.shape? b = some (199, 2)) (hfz : w.frozen? ⟨b, 0, none⟩ = false) :
    Calls Tryz.prog 178 #[.pointer (some ⟨b, 0, none⟩)] w fun e w' => e = .returned (.tuple #[]) ∧ w' = w.setCell ⟨b, 0, none⟩ (.pointer (some ⟨b, 0, none⟩)) := by
  obtain ⟨j, hj, hjs⟩ := Option.map_eq_some_iff.1 bl_size
  go_enter Tryz.func178, Tryz.ntmps178
  go_wp2
  rw [Lib.run_to_unsafe w ⟨b, 0, none⟩ Tryz.underlying197 Tryz.underlying235 hj (by rw [hjs]; decide) hsh (Nat.zero_lt_succ 1)]
  simp only [Result.andThen]
  rw [Oper.upon_value]
  go_wp2
  rw [run_callFunc_extern Tryz.func191 (by kernel_rfl) (by kernel_rfl) (by kernel_rfl) (e := Extern.AbiNoEscape.same) (by kernel_rfl)]
  rw [Lib.run_noEscape]
  simp only [Result.andThen]
  rw [Oper.upon_value]
  go_wp2
  rw [Lib.run_from_unsafe w ⟨b, 0, none⟩ Tryz.underlying235 Tryz.underlying197 hj hsh bl_lies]
  simp only [Result.andThen]
  rw [Oper.upon_value]
  go_wp2
  go_end0
  exact ⟨rfl, rfl⟩
theorem copy_any (B b : Nat) (bs : List Value) (w : World) (h : Lib.IsBuilder 199 5 B b bs w) :
    Calls Tryz.prog 178 #[.pointer (some ⟨b, 0, none⟩)] w fun e w' => e = .returned (.tuple #[]) ∧ (Lib.BuilderAt 199 5 B b (.pointer (some ⟨b, 0, none⟩)) bs w' ∧ Below B w w') := by
  rcases h with h | h
  · refine (copy_fresh b w h.cell0 h.shape h.frozen0).mono ?_
    rintro e w' ⟨rfl, rfl⟩
    exact ⟨rfl, h.used _, (Below.refl B w).setCell (p := ⟨b, 0, none⟩) h.1 _⟩
  · refine (copy_used b w h.cell0).mono ?_
    rintro e w' ⟨rfl, rfl⟩
    exact ⟨rfl, h, Below.refl B _⟩
set_option maxHeartbeats 2000000 in
set_option maxRecDepth 100000 in
theorem WriteByte_any (B b : Nat) (bs : List Value) (c : Int) (w : World) (h : Lib.IsBuilder 199 5 B b bs w) (hlen : bs.length + 1 ≤ 140737488355328) (hBw : B ≤ w.heap.size) :
    Calls Tryz.prog 156 #[.pointer (some ⟨b, 0, none⟩), .int .u8 c] w fun e w' => e = .returned .nilIface ∧ (Lib.BuilderAt 199 5 B b (.pointer (some ⟨b, 0, none⟩)) (bs ++ [.int .u8 c]) w' ∧ Below B w w') := by
  obtain ⟨i0, hi, hz0, hz1, hz2⟩ := info_parts bl_byte
  go_enter Tryz.func156, Tryz.ntmps156
  go_wp2_with fail
  refine (copy_any B b bs _ h).mono ?_
  rintro e w1 ⟨rfl, h1, hb1⟩
  obtain ⟨hB, v, hbk, hown, hne⟩ := h1
  have c0 : w1.cell? ⟨b, 0, none⟩ = some (.pointer (some ⟨b, 0, none⟩)) := by rw [Lib.cell_of_heap hbk]; rfl
  have c1 : w1.cell? ⟨b, 1, none⟩ = some v := by rw [Lib.cell_of_heap hbk]; rfl
  go_wp2_with (at_builtin; refine wpList_append_own _ rfl _ _ 66 rfl B 5 i0 (.int .u8 0) 1 1 Tryz.underlying66 hi hz0 hz1 hz2 rfl (by decide) _ _ _ rfl (hown.alloc _) ⟨w1.heap.size, 0, none⟩ 1 1 [.int .u8 c] rfl rfl ?c1 ?c2 ?c3 ?c4 ?c5 ?_)
  case c1 =>
    intro j u hj
    match j, hj with
    | 0, hj => simp at hj; subst hj; simp [Addr.add]
  case c2 => intro u hu; simp at hu; subst hu; rfl
  case c3 => unfold maxLen; omega
  case c4 => omega
  case c5 => have := hb1.size; simp; omega
  intro v' w2 hown' hgrow _
  have hlt : b < w1.heap.size := (Array.getElem?_eq_some_iff.1 hbk).1
  have hb2 : w2.heap[b]? = some (.cells #[.pointer (some ⟨b, 0, none⟩), v] 199 (0, 0)) := by
    rw [hgrow.block b (by simp; omega) (fun e => hne e.symm), Lib.alloc_old w1 _ b hlt]
    exact hbk
  have d0 : w2.cell? ⟨b, 0, none⟩ = some (.pointer (some ⟨b, 0, none⟩)) := by rw [Lib.cell_of_heap hb2]; rfl
  have d1 : w2.cell? ⟨b, 1, none⟩ = some v := by rw [Lib.cell_of_heap hb2]; rfl
  have f1 : w2.frozen? ⟨b, 1, none⟩ = false := Lib.frozen_of_heap hb2 1
  obtain ⟨g, cap, rfl⟩ : ∃ g cap, v' = .slice (some ⟨g, 0, none⟩) (bs.length + 1) cap := by
    rcases hown'.2 with ⟨_, h0⟩ | ⟨g, cap, cur, hv, _⟩
    · omega
    · exact ⟨g, cap, hv⟩
  go_wp2
  go_ret
  refine ⟨rfl, ?_, ?_⟩
  · exact Lib.BuilderAt.put (T := 199) (e := 5) hB hb2 (bs' := bs ++ [.int .u8 c]) (by simpa using hown') (by decide)
  · exact ((hb1.alloc (by have := hb1.size; omega) _).grown hgrow (by have := hb1.size; simp; omega) (fun k hk => (hown.lt k hk).1)).setCell (p := ⟨b, 1, none⟩) hB _
set_option maxHeartbeats 2000000 in
set_option maxRecDepth 100000 in
theorem WriteString_any (B b : Nat) (bs : List Value) (s : ByteArray) (w : World) (h : Lib.IsBuilder 199 5 B b bs w) (hlen : bs.length + s.size ≤ 140737488355328) (hBw : B ≤ w.heap.size) :
    Calls Tryz.prog 155 #[.pointer (some ⟨b, 0, none⟩), .string s] w fun e w' => e = .returned (.tuple #[.int .i64 s.size, .nilIface]) ∧ (Lib.BuilderAt 199 5 B b (.pointer (some ⟨b, 0, none⟩)) (bs ++ Lib.strCells s) w' ∧ Below B w w') := by
  obtain ⟨i0, hi, hz0, hz1, hz2⟩ := info_parts bl_byte
  go_enter Tryz.func155, Tryz.ntmps155
  go_wp2_with fail
  refine (copy_any B b bs _ h).mono ?_
  rintro e w1 ⟨rfl, h1, hb1⟩
  obtain ⟨hB, v, hbk, hown, hne⟩ := h1
  have c0 : w1.cell? ⟨b, 0, none⟩ = some (.pointer (some ⟨b, 0, none⟩)) := by rw [Lib.cell_of_heap hbk]; rfl
  have c1 : w1.cell? ⟨b, 1, none⟩ = some v := by rw [Lib.cell_of_heap hbk]; rfl
  go_wp2_with (at_builtin; refine Lib.wpList_append_own_string _ rfl _ _ 66 9 rfl B 5 i0 Tryz.underlying66 Tryz.underlying9 hi hz0 hz1 hz2 _ _ _ rfl hown s rfl ?c3 ?c4 ?c5 ?_)
  case c3 => unfold maxLen; omega
  case c4 => omega
  case c5 => have := hb1.size; omega
  intro v' w2 hown' hgrow _
  have hlt : b < w1.heap.size := (Array.getElem?_eq_some_iff.1 hbk).1
  have hb2 : w2.heap[b]? = some (.cells #[.pointer (some ⟨b, 0, none⟩), v] 199 (0, 0)) := by
    rw [hgrow.block b hlt (fun e => hne e.symm)]
    exact hbk
  have d0 : w2.cell? ⟨b, 0, none⟩ = some (.pointer (some ⟨b, 0, none⟩)) := by rw [Lib.cell_of_heap hb2]; rfl
  have d1 : w2.cell? ⟨b, 1, none⟩ = some v := by rw [Lib.cell_of_heap hb2]; rfl
  have f1 : w2.frozen? ⟨b, 1, none⟩ = false := Lib.frozen_of_heap hb2 1
  obtain ⟨ao, n', cap, rfl⟩ : ∃ ao n' cap, v' = .slice ao n' cap := by
    rcases hown'.2 with ⟨hv, _⟩ | ⟨g, cap, cur, hv, _⟩
    · exact ⟨_, _, _, hv⟩
    · exact ⟨_, _, _, hv⟩
  go_wp2
  go_ret2
  refine ⟨rfl, ?_, ?_⟩
  · exact Lib.BuilderAt.put (T := 199) (e := 5) hB hb2 (bs' := bs ++ Lib.strCells s) (by simpa [Lib.strCells_length] using hown') (by decide)
  · exact (hb1.grown hgrow (by have := hb1.size; omega) (fun k hk => (hown.lt k hk).1)).setCell (p := ⟨b, 1, none⟩) hB _
end Go.Proofs.YtkoljgmapclhkaaGreatDoor

namespace Go.Proofs.YtkoljgmapclhkaaGreatDoor

def fourN (x : Int) : List Int := [x % 256, x / 256 % 256, x / 65536 % 256, x / 16777216]
/-- The four bytes of a number. -/
def bl4 (x : Int) : List UInt8 := (strOfNums (fourN (x % 4294967296))).data.toList
theorem bl4_len (x : Int) : (bl4 x).length = 4 := by
  unfold bl4
  have := strOfNums_size (fourN (x % 4294967296))
  rw [Array.length_toList]
  exact this
end Go.Proofs.YtkoljgmapclhkaaGreatDoor

namespace Go.Proofs.YtkoljgmapclhkaaGreatDoor
open Go.RowKit

set_option maxRecDepth 100000 in
set_option maxHeartbeats 1000000 in
theorem CFour_any (x : Int) (h0 : 0 ≤ x) (h1 : x ≤ 4294967295) (w : World) : Calls Tryz.prog 151 #[.int .u32 x] w fun r w' => r = .returned (.string (strOfNums (fourN x))) ∧ Below w.heap.size w w' := by
  obtain ⟨B, hB⟩ : ∃ B, w.heap.size = B := ⟨_, rfl⟩
  have hfar := Below.refl B w
  have hsz : B ≤ w.heap.size := by omega
  have hcv : (convert 66 9 (.slice (some ⟨B, 0, none⟩) 4 4)).run Tryz.prog (w.alloc (.cells #[.int .u8 (x % 256), .int .u8 (x / 256 % 256), .int .u8 (x / 65536 % 256), .int .u8 (x / 16777216)] 5)) = .ok (.string (strOfNums (fourN x))) (w.alloc (.cells #[.int .u8 (x % 256), .int .u8 (x / 256 % 256), .int .u8 (x / 65536 % 256), .int .u8 (x / 16777216)] 5)) := by
    have hb : Blk (w.alloc (.cells #[.int .u8 (x % 256), .int .u8 (x / 256 % 256), .int .u8 (x / 65536 % 256), .int .u8 (x / 16777216)] 5)) B _ 5 := Blk.newAt hB.symm
    refine run_convert_bytes_arg _ 66 5 Tryz.underlying66 Tryz.underlying5 B 0 4 4 (fourN x) rfl (fun i hi => ?_) 9 Tryz.underlying9
    rw [Nat.zero_add, hb.cell i]
    match i, hi with
    | 0, _ | 1, _ | 2, _ | 3, _ => rfl
  go_enter Tryz.func151, Tryz.ntmps151
  go_wp2
  go_ret
  exact ⟨rfl, (by (try rw [hB]); exact bl_)⟩
end Go.Proofs.YtkoljgmapclhkaaGreatDoor

namespace Go.Proofs.YtkoljgmapclhkaaGreatDoor
open Go.RowKit

theorem str_bytes (s : ByteArray) : Lib.strCells s = Lib.byteCells s.data.toList := rfl
theorem bytes_app (a b : List UInt8) : Lib.byteCells (a ++ b) = Lib.byteCells a ++ Lib.byteCells b := by unfold Lib.byteCells; rw [List.map_append]
theorem bytesC_len (l : List UInt8) : (Lib.byteCells l).length = l.length := by unfold Lib.byteCells; rw [List.length_map]
theorem IsB.newB {T e : TypeId} {B b : Nat} {bs : List Value} {w w' : World} (h : Lib.IsBuilder T e B b bs w) (hb : Below w.heap.size w w') : Lib.IsBuilder T e B b bs w' := by
  have each : ∀ p, Lib.BuilderAt T e B b p bs w → Lib.BuilderAt T e B b p bs w' := fun p ⟨h1, v, h2, h3, h4⟩ =>
    ⟨h1, v, (hb.block b (Array.getElem?_eq_some_iff.1 h2).1).trans h2, own_newB h3 hb, h4⟩
  rcases h with h | h
  · exact .inl (each _ h)
  · exact .inr (each _ h)
set_option maxRecDepth 100000 in
set_option maxHeartbeats 4000000 in
theorem put_any (Bb g o n : Nat) (l : List Int) (hn : l.length = n) (hn16 : n ≤ 16) (bs : List UInt8) (hbs : bs.length ≤ 1000) (w : World) (hBb : Bb < w.heap.size)
    (hrd : ∀ k wr, k < n → (k = 0 → wr = w) → Below Bb w wr → wr.cell? ⟨g, o + k, none⟩ = some (.int .i64 (l.getD k 0)))
    (hb : Lib.IsBuilder 199 5 Bb Bb (Lib.byteCells bs) w) :
    Calls Tryz.prog 154 #[.slice (some ⟨g, o, none⟩) n n, .pointer (some ⟨Bb, 0, none⟩)] w fun e w' => e = .returned (.tuple #[]) ∧ Lib.IsBuilder 199 5 Bb Bb (Lib.byteCells (bs ++ l.flatMap bl4)) w' ∧ Below Bb w w' := by
  have HRD := Lib.hid hrd
  have HN := Lib.hid hn
  clear hrd hn
  go_enter Tryz.func154, Tryz.ntmps154
  go_wp2_with fail
  go_loopw [7] (fun i wr => ∃ k : Nat, k ≤ n ∧ i = .int .i64 k ∧ (k = 0 → wr = w) ∧ Below Bb w wr ∧ Lib.IsBuilder 199 5 Bb Bb (Lib.byteCells (bs ++ (l.take k).flatMap bl4)) wr) (fun i _ => n - (intOf i).toNat)
  case atStart => exact ⟨0, by omega, rfl, fun _ => rfl, Below.refl _ _, by simpa using hb⟩
  case round =>
    obtain ⟨k, hk, rfl, h0, hfar, hB⟩ := hrel
    by_cases hlt : k < n
    · have c0 := HRD.out k wr hlt h0 hfar
      have hkl : k < l.length := by rw [HN.out]; exact hlt
      have hget : l[k]? = some (l.getD k 0) := by rw [List.getD_eq_getElem?_getD, List.getElem?_eq_getElem hkl]; rfl
      obtain ⟨x, hx⟩ : ∃ x, l.getD k 0 = x := ⟨_, rfl⟩
      rw [hx] at c0 hget
      have HG := Lib.hid hget
      clear hx hget hkl h0
      go_wp2_with fail
      rw [show wrap32 x % 4294967296 = x % 4294967296 from by unfold wrap32; omega]
      refine (CFour_any _ (by omega) (by omega) _).mono ?_
      rintro r w2 ⟨rfl, hb2⟩
      have hB2 := IsB.newB hB hb2
      have hf2 := hfar.trans (hb2.mono (by have := hfar.size; omega))
      have hs2 : Bb ≤ w2.heap.size := by have := hf2.size; omega
      obtain ⟨s4, hs4⟩ : ∃ s, strOfNums (fourN (x % 4294967296)) = s := ⟨_, rfl⟩
      have hz : s4.size = 4 := by rw [← hs4]; exact strOfNums_size _
      have he : (l.take (k + 1)).flatMap bl4 = (l.take k).flatMap bl4 ++ s4.data.toList := by rw [List.take_add_one, HG.out, Option.toList_some, List.flatMap_append, List.flatMap_singleton, ← hs4]; rfl
      have hlen : (bs ++ (l.take k).flatMap bl4).length ≤ 1100 := by
        rw [List.length_append]
        have : ((l.take k).flatMap bl4).length = (l.take k).length * 4 := by
          generalize l.take k = m
          induction m with
          | nil => rfl
          | cons a r ih => rw [List.flatMap_cons, List.length_append, bl4_len, ih, List.length_cons]; omega
        rw [this, List.length_take]; omega
      rw [hs4]
      have HE2 := Lib.hid he
      have HZ := Lib.hid hz
      clear hs4 he hz
      go_wp2_with fail
      refine (WriteString_any Bb Bb _ s4 _ hB2 (by rw [bytesC_len, HZ.out]; omega) hs2).mono ?_
      rintro r w3 ⟨rfl, hB3, hb3⟩
      go_wp2_with fail
      go_roundw
      case rel => exact ⟨k + 1, hlt, by go_num, fun h => by omega, hf2.trans hb3, .inr (by rw [HE2.out, ← List.append_assoc, bytes_app, ← str_bytes]; exact hB3)⟩
      case measure => simp [intOf]; omega
    · obtain rfl : k = n := by omega
      have ht : l.take k = l := by rw [← HN.out]; exact List.take_length
      rw [ht] at hB
      go_wp2_with fail
      go_end0
      exact ⟨rfl, hB, hfar⟩
end Go.Proofs.YtkoljgmapclhkaaGreatDoor

namespace Go.Proofs.YtkoljgmapclhkaaGreatDoor

def b8 (x : Int) : UInt8 := UInt8.ofNat (x % 256).toNat
/-- A state's bytes. -/
def bytesL (L : List Int) : List UInt8 := (memL L).flatMap bl4 ++ bl4 (lastL L) ++ (levL L).map b8 ++ (wavL L).flatMap bl4 ++ [b8 (lostL L)]
def bytesS (L : List Int) : ByteArray := if rightS L = true then ⟨(bytesL L).toArray⟩ else ⟨#[]⟩
def bytesE (L : List Int) : Int := if rightS L = true then 0 else 1
theorem flat4_len (l : List Int) : (l.flatMap bl4).length = l.length * 4 := by
  induction l with
  | nil => rfl
  | cons a r ih => rw [List.flatMap_cons, List.length_append, bl4_len, ih, List.length_cons]; omega
theorem b8_val {x : Int} (h0 : 0 ≤ x) (h1 : x ≤ 255) : ((b8 x).toNat : Int) = x := by
  unfold b8
  rw [UInt8.toNat_ofNat']
  omega
theorem bAt_mk (l : List UInt8) (i : Nat) : bAt ⟨l.toArray⟩ i = (l.getD i 0).toNat := by
  unfold bAt
  by_cases h : i < l.length
  · have h2 : i < (ByteArray.mk l.toArray).size := by simpa [ByteArray.size] using h
    rw [dif_pos h2]
    show (l.toArray[i]'(by simpa using h)).toNat = _
    simp [List.getD_eq_getElem?_getD, List.getElem?_eq_getElem h]
  · have h2 : ¬ i < (ByteArray.mk l.toArray).size := by simpa [ByteArray.size] using h
    rw [dif_neg h2, List.getD_eq_getElem?_getD, List.getElem?_eq_none (by omega)]
    rfl
theorem getD_mid {pre m post : List UInt8} {o k : Nat} (ho : pre.length = o) (hk : k < m.length) : (pre ++ m ++ post).getD (o + k) 0 = m.getD k 0 := by
  subst ho
  rw [List.getD_eq_getElem?_getD, List.getD_eq_getElem?_getD, List.append_assoc, List.getElem?_append_right (by omega), Nat.add_sub_cancel_left, List.getElem?_append_left hk]
theorem word_back {pre post : List UInt8} {x : Int} {o : Nat} (ho : pre.length = o) (h0 : -2147483648 ≤ x) (h1 : x ≤ 2147483647) : wordS ⟨(pre ++ bl4 x ++ post).toArray⟩ o = x := by
  have hb : ∀ k, k < 4 → bAt ⟨(pre ++ bl4 x ++ post).toArray⟩ (o + k) = ((bl4 x).getD k 0).toNat := fun k hk => by
    rw [bAt_mk, getD_mid ho (by rw [bl4_len]; exact hk)]
  obtain ⟨y, hy⟩ : ∃ y, x % 4294967296 = y := ⟨_, rfl⟩
  have hl : bl4 x = [UInt8.ofNat (y % 256).toNat, UInt8.ofNat (y / 256 % 256).toNat, UInt8.ofNat (y / 65536 % 256).toNat, UInt8.ofNat (y / 16777216).toNat] := by
    unfold bl4 fourN strOfNums; rw [hy]; rfl
  have e0 := hb 0 (by omega)
  have e1 := hb 1 (by omega)
  have e2 := hb 2 (by omega)
  have e3 := hb 3 (by omega)
  rw [hl] at e0 e1 e2 e3
  simp only [List.getD_cons_zero, List.getD_cons_succ, UInt8.toNat_ofNat'] at e0 e1 e2 e3
  unfold wordS
  simp only [numP, hl]
  rw [e0, e1, e2, e3]
  unfold i32
  have p1 : (256 : Nat) ^ 1 = 256 := rfl
  have p2 : (256 : Nat) ^ 2 = 65536 := rfl
  have p3 : (256 : Nat) ^ 3 = 16777216 := rfl
  have p0 : (256 : Nat) ^ 0 = 1 := rfl
  rw [p0, p1, p2, p3]
  split <;> omega
theorem words_back {pre post : List UInt8} {l : List Int} {o n : Nat} (ho : pre.length = o) (hn : l.length = n) (h : ∀ x ∈ l, -2147483648 ≤ x ∧ x ≤ 2147483647) : readW ⟨(pre ++ l.flatMap bl4 ++ post).toArray⟩ o n = l := by
  subst hn
  apply List.ext_getElem (by rw [readW_len])
  intro i h1 h2
  have hd : l = l.take i ++ [l[i]] ++ l.drop (i + 1) := by
    have := List.take_append_drop i l
    rw [List.drop_eq_getElem_cons h2] at this
    rw [List.append_assoc]; exact this.symm
  have hx := h l[i] (List.getElem_mem h2)
  obtain ⟨x, hxe⟩ : ∃ x, l[i] = x := ⟨_, rfl⟩
  rw [hxe] at hd hx ⊢
  have e : pre ++ l.flatMap bl4 ++ post = (pre ++ (l.take i).flatMap bl4) ++ bl4 x ++ ((l.drop (i + 1)).flatMap bl4 ++ post) := by
    conv => lhs; rw [hd]
    simp only [List.flatMap_append, List.flatMap_singleton, List.append_assoc]
  simp only [readW, List.getElem_map, List.getElem_range]
  rw [e]
  refine word_back ?_ hx.1 hx.2
  rw [List.length_append, flat4_len, List.length_take, ho]
  omega
theorem one_back {pre post : List UInt8} {x : Int} {o : Nat} (ho : pre.length = o) (h0 : 0 ≤ x) (h1 : x ≤ 255) : (bAt ⟨(pre ++ [b8 x] ++ post).toArray⟩ o : Int) = x := by
  have := getD_mid (post := post) (m := [b8 x]) (k := 0) ho (by simp)
  rw [Nat.add_zero] at this
  rw [bAt_mk, this, List.getD_cons_zero, b8_val h0 h1]
theorem ones_back {pre post : List UInt8} {l : List Int} {o n : Nat} (ho : pre.length = o) (hn : l.length = n) (h : ∀ x ∈ l, 0 ≤ x ∧ x ≤ 255) : readB ⟨(pre ++ l.map b8 ++ post).toArray⟩ o n = l := by
  subst hn
  apply List.ext_getElem (by rw [readB_len])
  intro i h1 h2
  have hx := h l[i] (List.getElem_mem h2)
  simp only [readB, List.getElem_map, List.getElem_range]
  rw [bAt_mk, getD_mid ho (by rw [List.length_map]; exact h2), List.getD_eq_getElem?_getD, List.getElem?_map, List.getElem?_eq_getElem h2]
  exact b8_val hx.1 hx.2
theorem cut_bd {n : Nat} {x : Int} (h : (Sp.cut n x == x) = true) : -(2 ^ (n - 1)) ≤ x ∧ x ≤ 2 ^ (n - 1) - 1 := by
  have e : Sp.cut n x = x := by simpa using h
  unfold Sp.cut at e
  have hp : (0 : Int) < 2 ^ (n - 1) := Int.pow_pos (by omega)
  omega
/-- What a right state's numbers are. -/
theorem right_bounds {L : List Int} (h : rightS L = true) : (∀ x ∈ memL L, -2147483648 ≤ x ∧ x ≤ 2147483647) ∧ (-2147483648 ≤ lastL L ∧ lastL L ≤ 2147483647) ∧ (∀ x ∈ levL L, 0 ≤ x ∧ x ≤ 255) ∧ (∀ x ∈ wavL L, -2147483648 ≤ x ∧ x ≤ 2147483647) ∧ (0 ≤ lostL L ∧ lostL L ≤ 255) := by
  unfold rightS at h
  simp only [Bool.and_eq_true, decide_eq_true_eq, List.all_eq_true, Bool.not_eq_true', List.any_eq_false] at h
  obtain ⟨⟨⟨⟨⟨h1, h2⟩, h3⟩, h4⟩, h5⟩, h6⟩ := h
  refine ⟨fun x hx => ?_, ?_, fun x hx => ?_, fun x hx => ?_, h5, h6⟩
  · have := cut_bd (n := 32) (h1 x hx)
    simpa using this
  · have := cut_bd (n := 22) h3
    simp at this; omega
  · have := h2 x hx
    unfold levP at this
    simp only [Bool.and_eq_true, decide_eq_true_eq] at this
    omega
  · have := h4 x hx
    unfold wideP at this
    simp at this
    omega
theorem state_split {L : List Int} (h : L.length = 38) : memL L ++ [lastL L] ++ levL L ++ wavL L ++ [lostL L] = L := by
  unfold memL lastL levL wavL lostL
  have e : ∀ (i : Nat) (hi : i < 38), [L.getD i 0] = (L.drop i).take 1 := fun i hi => by
    rw [List.getD_eq_getElem?_getD, List.getElem?_eq_getElem (by omega), List.drop_eq_getElem_cons (by omega), List.take_succ_cons, List.take_zero]; rfl
  have d : ∀ (i k : Nat), L.take i ++ (L.drop i).take k = L.take (i + k) := fun i k => List.take_add.symm
  rw [e 16 (by omega), e 37 (by omega), d, d, d, d]
  exact List.take_of_length_le (by omega)
theorem bytesL_len {L : List Int} (h : L.length = 38) : (bytesL L).length = 137 := by
  unfold bytesL
  have h1 : (memL L).length = 16 := by unfold memL; rw [List.length_take]; omega
  have h2 : (levL L).length = 4 := by unfold levL; rw [List.length_take, List.length_drop]; omega
  have h3 : (wavL L).length = 16 := by unfold wavL; rw [List.length_take, List.length_drop]; omega
  simp only [List.length_append, flat4_len, bl4_len, List.length_map, h1, h2, h3, List.length_cons, List.length_nil]
/-- What is written is read. -/
theorem read_back {L : List Int} (h : L.length = 38) (hr : rightS L = true) : readL (bytesS L) = L := by
  have hs : bytesS L = ⟨(bytesL L).toArray⟩ := if_pos hr
  have h1 : (memL L).length = 16 := by unfold memL; rw [List.length_take]; omega
  have h2 : (levL L).length = 4 := by unfold levL; rw [List.length_take, List.length_drop]; omega
  have h3 : (wavL L).length = 16 := by unfold wavL; rw [List.length_take, List.length_drop]; omega
  obtain ⟨p1, p2, p3, p4, p5⟩ := right_bounds hr
  rw [hs]
  unfold readL
  have e1 : readW ⟨(bytesL L).toArray⟩ 0 16 = memL L := by
    have := words_back (pre := []) (post := bl4 (lastL L) ++ (levL L).map b8 ++ (wavL L).flatMap bl4 ++ [b8 (lostL L)]) (o := 0) rfl h1 p1
    rw [List.nil_append] at this
    unfold bytesL
    simpa only [List.append_assoc] using this
  have e2 : wordS ⟨(bytesL L).toArray⟩ 64 = lastL L := by
    have := word_back (pre := (memL L).flatMap bl4) (post := (levL L).map b8 ++ (wavL L).flatMap bl4 ++ [b8 (lostL L)]) (o := 64) (by rw [flat4_len, h1]) p2.1 p2.2
    unfold bytesL
    simpa only [List.append_assoc] using this
  have e3 : readB ⟨(bytesL L).toArray⟩ 68 4 = levL L := by
    have := ones_back (pre := (memL L).flatMap bl4 ++ bl4 (lastL L)) (post := (wavL L).flatMap bl4 ++ [b8 (lostL L)]) (o := 68) (by rw [List.length_append, flat4_len, bl4_len, h1]) h2 p3
    unfold bytesL
    simpa only [List.append_assoc] using this
  have e4 : readW ⟨(bytesL L).toArray⟩ 72 16 = wavL L := by
    have := words_back (pre := (memL L).flatMap bl4 ++ bl4 (lastL L) ++ (levL L).map b8) (post := [b8 (lostL L)]) (o := 72) (by rw [List.length_append, List.length_append, flat4_len, bl4_len, h1, List.length_map, h2]) h3 p4
    unfold bytesL
    simpa only [List.append_assoc] using this
  have e5 : (bAt ⟨(bytesL L).toArray⟩ 136 : Int) = lostL L := by
    have := one_back (pre := (memL L).flatMap bl4 ++ bl4 (lastL L) ++ (levL L).map b8 ++ (wavL L).flatMap bl4) (post := []) (o := 136) (by rw [List.length_append, List.length_append, List.length_append, flat4_len, flat4_len, bl4_len, h1, List.length_map, h2, h3]) p5.1 p5.2
    unfold bytesL
    simpa only [List.append_assoc, List.append_nil] using this
  rw [e1, e2, e3, e4, e5, state_split h]
theorem bytes_back {L : List Int} (h : L.length = 38) (hr : rightS L = true) : readE (bytesS L) = 0 ∧ readSt (bytesS L) = L := by
  have hs : (bytesS L).size = 137 := by
    unfold bytesS; rw [if_pos hr]
    show (bytesL L).toArray.size = 137
    rw [List.size_toArray, bytesL_len h]
  have he : readE (bytesS L) = 0 := by unfold readE; rw [if_pos hs, read_back h hr, if_pos hr]
  exact ⟨he, by unfold readSt; rw [if_pos he, read_back h hr]⟩
end Go.Proofs.YtkoljgmapclhkaaGreatDoor

namespace Go.Proofs.YtkoljgmapclhkaaGreatDoor
open Go.RowKit

theorem b8_mod (x : Int) : ((b8 x).toNat : Int) = x % 256 := by
  unfold b8
  rw [UInt8.toNat_ofNat']
  omega
theorem byteC_one (x : Int) : Lib.byteCells [b8 x] = [.int .u8 (x % 256)] := by
  unfold Lib.byteCells; rw [List.map_singleton, b8_mod]
theorem arr_at {L l : List Int} {n o m k : Nat} (h : Len L n) (hl : (L.drop o).take m = l) (hk : k < m) (hm : o + m ≤ n) : (arrV L)[o + k]? = some (.int .i64 (l.getD k 0)) := by
  subst hl
  have h1 : o + k < L.length := by have := h.out; omega
  have e : L[o + k]? = some (L[o + k]) := List.getElem?_eq_getElem h1
  rw [List.getD_eq_getElem?_getD, List.getElem?_take, if_pos hk, List.getElem?_drop, e]
  simp [List.getElem?_map, e]
theorem levB_len (L : List Int) (k : Nat) : ((levL L).take k).length ≤ 4 := by
  unfold levL; rw [List.length_take, List.length_take]; omega
theorem memB_len {L : List Int} (h : Len L 38) : ((memL L).flatMap bl4).length = 64 := by rw [flat4_len, h.mem.out]
theorem wavB_len {L : List Int} (h : Len L 38) : ((wavL L).flatMap bl4).length = 64 := by rw [flat4_len, h.wav.out]
theorem fresh_builder {W : World} {b : Nat} (h : Blk W b #[.pointer none, .slice none 0 0] 199) : Lib.IsBuilder 199 5 b b (Lib.byteCells []) W :=
  .inl ⟨Nat.le_refl _, .slice none 0 0, h, World.ownsRow_nil _ _ _ _, by simp [Value.ownBlock]⟩
set_option maxRecDepth 100000 in
set_option maxHeartbeats 4000000 in
theorem SBytes_any (L : List Int) (hL : L.length = 38) (w : World) : Calls Tryz.prog 125 #[.agg (arrV L)] w fun r w' => r = .returned (.tuple #[.string (bytesS L), .int .i64 (bytesE L)]) ∧ Below w.heap.size w w' := by
  have LL := Len.mk hL
  obtain ⟨O, hO⟩ : ∃ O, bytesS L = O := ⟨_, rfl⟩
  obtain ⟨E, hE⟩ : ∃ E, bytesE L = E := ⟨_, rfl⟩
  rw [hO, hE]
  have HO := Lib.hid hO
  have HE := Lib.hid hE
  have hRt := fun w => Right_any L hL w
  have HRT := Lib.hid hRt
  clear hO hE hL hRt
  obtain ⟨B, hB⟩ : ∃ B, w.heap.size = B := ⟨_, rfl⟩
  have hfar := Below.refl B w
  have hsz : B ≤ w.heap.size := by omega
  go_enter Tryz.func125, Tryz.ntmps125
  go_upto_region 1 with (fail)
  refine wp_gen (fun W => Blk W (B) (arrV L) 29 ∧ Below (B) w W ∧ B + 1 ≤ W.heap.size) ⟨bk_, bl_, sz_⟩ ?_
  clear hfar hsz
  rintro w1 ⟨hA, hfar, hsz⟩
  go_wp2_with (first | (refine st 92 rfl (by rfl) w_Entry rfl rfl bk_ zz_ zz_ one_ ?_) | (refine ld 92 rfl (by rfl) w_Entry rfl bk_ zz_ ?_) | (refine bd 29 rfl (by rfl) rfl state_zs ?_) | (refine bd 26 rfl (by rfl) rfl block_zs ?_) | (refine ld 29 rfl (by rfl) w_State rfl bk_ lz_ ?_) | (refine ld 26 rfl (by rfl) w_Block rfl bk_ lz_ ?_) | (refine ldp 26 rfl (by rfl) w_Block rfl bk_ ln_ (by omega) ?_) | (refine ld 27 rfl (by rfl) w_Four rfl bk_ lz_ ?_) | (refine ldp 27 rfl (by rfl) w_Four rfl bk_ ln_ (by omega) ?_) | (refine st 29 rfl (by rfl) w_State rfl rfl bk_ lz_ lz_ one_ ?_) | (refine st 26 rfl (by rfl) w_Block rfl rfl bk_ lz_ lz_ one_ ?_) | (refine st 27 rfl (by rfl) w_Four rfl rfl bk_ lz_ lz_ one_ ?_))
  refine (HRT.out _).mono ?_
  rintro e w2 ⟨rfl, hb2⟩
  replace hA := hA.newB hb2
  replace hfar := hfar.trans (hb2.mono (by omega))
  replace hsz := Nat.le_trans hsz hb2.size
  cases hr : rightS L with
  | false =>
    have e1 : O = ⟨#[]⟩ := by rw [← HO.out]; unfold bytesS; rw [hr]; rfl
    have e2 : E = 1 := by rw [← HE.out]; unfold bytesE; rw [hr]; rfl
    subst e1 e2
    go_wp2_with fail
    go_ret2
    exact ⟨rfl, (by (try rw [hB]); exact bl_)⟩
  | true =>
    have e1 : O = ⟨(bytesL L).toArray⟩ := by rw [← HO.out]; unfold bytesS; rw [hr]; rfl
    have e2 : E = 0 := by rw [← HE.out]; unfold bytesE; rw [hr]; rfl
    subst e2
    obtain ⟨b, hb⟩ : ∃ b, w2.heap.size = b := ⟨_, rfl⟩
    have hBb : B + 1 ≤ b := by omega
    go_upto_region 5 with (fail)
    refine wp_gen (fun W => Blk W (B) (arrV L) 29 ∧ Blk W (b) (#[.pointer none, .slice none 0 0]) 199 ∧ Below (B) w W ∧ b + 1 ≤ W.heap.size) ⟨bk_, bk_, bl_, sz_⟩ ?_
    clear hA hfar hsz
    rintro w3 ⟨hA, hN, hfar, hsz⟩
    have hIB := fresh_builder hN
    have hNl : b < w3.heap.size := by omega
    go_wp2_with fail
    refine (put_any b B 0 16 (memL L) LL.mem.out (by omega) [] (by simp) _ hNl (fun k wr hk _ hbl => ?rd) hIB).mono ?_
    case rd => rw [(hA.below hbl (by omega)).cell (0 + k)]; exact arr_at LL (by rw [List.drop_zero]; rfl) hk (by omega)
    rintro r w4 ⟨rfl, hI4, hb4⟩
    rw [List.nil_append] at hI4
    have hA4 := hA.below hb4 (by omega)
    have hf4 := hfar.trans (hb4.mono (by omega))
    have hs4 := hb4.size
    have c16 : w4.cell? ⟨B, 16, none⟩ = some (.int .i64 (lastL L)) := (hA4.cell 16).trans (arr_get (l := L) (by have := LL.out; omega))
    clear hA hfar hb4 hIB hN
    go_wp2_with fail
    refine (put_any b w4.heap.size 0 1 [lastL L] rfl (by omega) ((memL L).flatMap bl4) (by rw [memB_len LL]; omega) _ (by rw [World.size_alloc]; omega) (fun k wr hk h0 _ => ?rd) (IsB.newB hI4 ((Below.refl _ _).alloc (Nat.le_refl _) _))).mono ?_
    case rd =>
      obtain rfl : k = 0 := by omega
      rw [h0 rfl, (Blk.newAt (W := w4) rfl).cell (0 + 0)]
      rfl
    rintro r w5 ⟨rfl, hI5, hb5⟩
    rw [List.flatMap_singleton] at hI5
    have hA5 := (hA4.alloc (.cells #[.int .i64 (lastL L)] 3)).below hb5 (by omega)
    have hf5 := (hf4.alloc (by omega) (.cells #[.int .i64 (lastL L)] 3)).trans (hb5.mono (by omega))
    have hs5 := hb5.size
    rw [World.size_alloc] at hs5
    clear hA4 hf4 hb5 hI4 c16
    go_wp2_with (first | (refine st 92 rfl (by rfl) w_Entry rfl rfl bk_ zz_ zz_ one_ ?_) | (refine ld 92 rfl (by rfl) w_Entry rfl bk_ zz_ ?_) | (refine bd 29 rfl (by rfl) rfl state_zs ?_) | (refine bd 26 rfl (by rfl) rfl block_zs ?_) | (refine ld 29 rfl (by rfl) w_State rfl bk_ lz_ ?_) | (refine ld 26 rfl (by rfl) w_Block rfl bk_ lz_ ?_) | (refine ldp 26 rfl (by rfl) w_Block rfl bk_ ln_ (by omega) ?_) | (refine ld 27 rfl (by rfl) w_Four rfl bk_ lz_ ?_) | (refine ldp 27 rfl (by rfl) w_Four rfl bk_ ln_ (by omega) ?_) | (refine st 29 rfl (by rfl) w_State rfl rfl bk_ lz_ lz_ one_ ?_) | (refine st 26 rfl (by rfl) w_Block rfl rfl bk_ lz_ lz_ one_ ?_) | (refine st 27 rfl (by rfl) w_Four rfl rfl bk_ lz_ lz_ one_ ?_))
    go_loopw [23] (fun i wr => ∃ k : Nat, k ≤ 4 ∧ i = .int .i64 k ∧ Blk wr B (arrV L) 29 ∧ Below B w wr ∧ b < wr.heap.size ∧ Lib.IsBuilder 199 5 b b (Lib.byteCells ((memL L).flatMap bl4 ++ bl4 (lastL L) ++ ((levL L).take k).map b8)) wr) (fun i _ => 4 - (intOf i).toNat)
    case atStart => exact ⟨0, by omega, rfl, hA5, hf5, by omega, by simpa using hI5⟩
    case round =>
      clear hA5 hf5 hI5
      obtain ⟨k, hk, rfl, hA, hfar, hbs, hI⟩ := hrel
      by_cases hlt : k < 4
      · have hix := fun w => run_index_arr 27 4 (List.take 4 (List.drop 17 L)) LL.lev.out Tryz.underlying27 k hlt w
        have he : ((levL L).take (k + 1)).map b8 = ((levL L).take k).map b8 ++ [b8 ((levL L).getD k 0)] := by
          have h1 : k < (levL L).length := by rw [LL.lev.out]; exact hlt
          rw [List.take_add_one, List.getElem?_eq_getElem h1, Option.toList_some, List.map_append, List.getD_eq_getElem?_getD, List.getElem?_eq_getElem h1]
          rfl
        have hgd : (List.take 4 (List.drop 17 L)).getD k 0 = (levL L).getD k 0 := rfl
        rw [hgd] at hix
        obtain ⟨x, hx⟩ : ∃ x, (levL L).getD k 0 = x := ⟨_, rfl⟩
        rw [hx] at hix he
        have hlen : (Lib.byteCells ((memL L).flatMap bl4 ++ bl4 (lastL L) ++ ((levL L).take k).map b8)).length ≤ 72 := by
          rw [bytesC_len, List.length_append, List.length_append, memB_len LL, bl4_len, List.length_map]
          have := levB_len L k
          omega
        have HE2 := Lib.hid he
        have HLEN := Lib.hid hlen
        clear he hgd hx hlen
        go_wp2_with fail
        refine (WriteByte_any b b _ (x % 256) _ hI (by have := HLEN.out; omega) (by omega)).mono ?_
        rintro r w6 ⟨rfl, hI6, hb6⟩
        have hA6 := hA.below hb6 (by omega)
        have hf6 := hfar.trans (hb6.mono (by omega))
        have hs6 := hb6.size
        go_wp2_with fail
        go_roundw
        case rel => exact ⟨k + 1, hlt, by go_num, hA6, hf6, by have := Lib.BuilderAt.lt hI6; omega, .inr (by rw [HE2.out, ← List.append_assoc, bytes_app, byteC_one]; exact hI6)⟩
        case measure => simp [intOf]; omega
      · obtain rfl : k = 4 := by omega
        have ht : (levL L).take 4 = levL L := List.take_of_length_le (by have := LL.lev.out; omega)
        rw [ht] at hI
        have hl1 : ((memL L).flatMap bl4 ++ bl4 (lastL L) ++ (levL L).map b8).length = 72 := by
          rw [List.length_append, List.length_append, memB_len LL, bl4_len, List.length_map, LL.lev.out]
        have hl2 : (Lib.byteCells ((memL L).flatMap bl4 ++ bl4 (lastL L) ++ (levL L).map b8 ++ (wavL L).flatMap bl4)).length = 136 := by
          rw [bytesC_len, List.length_append, hl1, wavB_len LL]
        have hfin : O = ⟨((memL L).flatMap bl4 ++ bl4 (lastL L) ++ (levL L).map b8 ++ (wavL L).flatMap bl4 ++ [b8 (lostL L)]).toArray⟩ := e1
        obtain ⟨P1, hP1⟩ : ∃ P1, (memL L).flatMap bl4 ++ bl4 (lastL L) ++ (levL L).map b8 = P1 := ⟨_, rfl⟩
        obtain ⟨x, hx⟩ : ∃ x, lostL L = x := ⟨_, rfl⟩
        rw [hP1, hx] at hfin
        rw [hP1] at hI hl1 hl2
        have HF := Lib.hid hfin
        have HX := Lib.hid hx
        clear e1 HO hP1 ht hfin hx
        go_wp2_with fail
        refine (put_any b B 21 16 (wavL L) LL.wav.out (by omega) P1 (by omega) _ hbs (fun k wr hk _ hbl => ?rd) hI).mono ?_
        case rd => rw [(hA.below hbl (by omega)).cell (21 + k)]; exact arr_at LL rfl hk (by omega)
        rintro r w7 ⟨rfl, hI7, hb7⟩
        have hA7 := hA.below hb7 (by omega)
        have hf7 := hfar.trans (hb7.mono (by omega))
        have hs7 := hb7.size
        have c37 : w7.cell? ⟨B, 37, none⟩ = some (.int .i64 x) := (hA7.cell 37).trans ((arr_get (l := L) (by have := LL.out; omega)).trans (by rw [← HX.out]; rfl))
        go_wp2_with fail
        refine (WriteByte_any b b _ (x % 256) _ hI7 (by omega) (by omega)).mono ?_
        rintro r w8 ⟨rfl, hI8, hb8⟩
        have hf8 := hf7.trans (hb8.mono (by omega))
        have hs8 := hb8.size
        rw [← byteC_one, ← bytes_app] at hI8
        go_wp2_with fail
        refine (Tryz.Builder_String_any b b _ _ (.inr hI8) (by omega)).mono ?_
        rintro r w9 ⟨rfl, hb9⟩
        have hf9 := hf8.trans (hb9.mono (by omega))
        go_wp2_with fail
        go_ret2
        exact ⟨by rw [HF.out, List.append_assoc]; rfl, by rw [hB]; exact hf9⟩
end Go.Proofs.YtkoljgmapclhkaaGreatDoor
