/- The walk of spoollaw07.RangZeros: whatever the text, the cells and the number of zero bytes, it returns true. -/
import Derived.Test.YtlhjkichambaoaaDoorLawBack
import Derived.Test.YtlhjkichambaoaaDoorSpecRangZ
import Derived.Test.YtlhjkichambaoaaDoorSpecRangN
import Derived.StillTailTactics
import Derived.Deep.Cut
import Derived.Deep.OwnRows
import Derived.Deep.RegionWith
namespace Go.Proofs.YtlhjkichambaoaaDoor
open Go.RowKit

/-- n zero bytes, as a text. -/
def zeroS (n : Nat) : ByteArray := ⟨(List.replicate n 0).toArray⟩
theorem zeroS_size (n : Nat) : (zeroS n).size = n := by show (List.replicate n (0 : UInt8)).toArray.size = n; simp
theorem zeros_nums (n : Nat) : strOfNums (List.replicate n 0) = zeroS n := by
  unfold strOfNums zeroS; simp
theorem zeros_str {W : World} {B : Nat} {n : Nat} (h : Blk W B (madeCells #[.int .u8 0] n) 5) (hn : n ≤ 300) : (convert 48 9 (.slice (some ⟨B, 0, none⟩) n n)).run Tryd.prog W = .ok (.string (zeroS n)) W := by
  have hr := run_convert_bytes_arg W 48 5 Tryd.underlying48 Tryd.underlying5 B 0 n n (List.replicate n 0) (by simp) (fun i hi => by
    rw [Nat.zero_add, h.cell i]
    have hi2 : i < n := by simpa using hi
    simp [madeCells, hi2, Nat.mod_one]) 9 Tryd.underlying9
  rw [hr, zeros_nums]
theorem madeInfo : (Tryd.prog.info? 5).map (fun i => (i.zero, i.size, i.bytes)) = some (some (.int .u8 0), 1, 1) := by kernel_rfl

set_option maxRecDepth 100000 in
set_option maxHeartbeats 1600000 in
theorem RangZeros_any (s : ByteArray) (v : Value) (l : List C3) (m : Int) (hm0 : 0 ≤ m) (hm1 : m ≤ 255) (w : World) (h3 : Three w v l) : Calls Tryd.prog 5 #[.string s, v, .int .u8 m] w fun e w' => e = .returned (.bool true) ∧ Below w.heap.size w w' := by
  obtain ⟨q, rfl⟩ : ∃ q : Nat, m = q := ⟨m.toNat, by omega⟩
  have hmk : ∀ w, (Instr.makeSlice 48 (.int .u8 (q : Int)) (.int .u8 (q : Int))).run Tryd.prog w = .ok (.slice (some ⟨w.heap.size, 0, none⟩) q q) (w.alloc (.cells (madeCells #[.int .u8 0] q) 5)) :=
    run_make_row' 48 5 (.int .u8 0) 1 Tryd.underlying48 madeInfo rfl .u8 .u8 q (by omega) (by omega)
  have hcv : ∀ (B : Nat) (W : World), Blk W B (madeCells #[.int .u8 0] q) 5 → (convert 48 9 (.slice (some ⟨B, 0, none⟩) q q)).run Tryd.prog W = .ok (.string (zeroS q)) W := fun B W h => zeros_str h (by omega)
  have hnew : ∀ (W : World), Blk (W.alloc (.cells (madeCells #[.int .u8 0] q) 5)) W.heap.size (madeCells #[.int .u8 0] q) 5 := fun W => Blk.new _ _ _
  have hnew2 : ∀ (W : World), Blk (W.alloc (.cells (madeCells #[.int .u8 0] q) 5)).drew W.heap.size (madeCells #[.int .u8 0] q) 5 := fun W => (hnew W).drew
  have hzs := zeroS_size q
  obtain ⟨Z, hZ⟩ : ∃ Z, zeroS q = Z := ⟨_, rfl⟩
  rw [hZ] at hcv hzs
  have HZ := Lib.hid hZ
  clear hZ
  by_cases hlong : (500 : Int) < s.size
  · go_enter Tryd.func5, Tryd.ntmps5
    go_wp2_with fail
    refine (awake_any _).mono ?_
    rintro e w1 ⟨rfl, hb1⟩
    go_wp2_with fail
    refine (awake_any _).mono ?_
    rintro e w2 ⟨rfl, hb2⟩
    go_wp2_with fail
    go_ret
    exact ⟨rfl, hb1.trans (hb2.mono hb1.size)⟩
  · have hadd : ¬ 9223372036854775807 < s.size + Z.size := by omega
    go_enter Tryd.func5, Tryd.ntmps5
    go_wp2_with fail
    refine (awake_any _).mono ?_
    rintro e w1 ⟨rfl, hb1⟩
    go_wp2_with fail
    refine (gcells_any v l _ (h3.below hb1)).mono ?_
    rintro e w3 ⟨mv, rfl, hown, hb3⟩
    have hM3 := MRow.of_owns hown
    have h13 := hb1.trans (hb3.mono hb1.size)
    have hgood : ∀ c ∈ goodCells l, Sp.cellIs c.1 c.2.1 c.2.2 := fun c hc => goodCells_cell hc
    have hlen := goodCells_len l
    obtain ⟨M, hM⟩ : ∃ M, goodCells l = M := ⟨_, rfl⟩
    rw [hM] at hM3 hgood hlen
    clear hown hM
    obtain ⟨n, hn⟩ : ∃ n, M.length = n := ⟨_, rfl⟩
    have hmv : ∃ o cap, mv = .slice o n cap ∧ n ≤ cap ∧ cap ≤ 9223372036854775807 := by
      obtain ⟨o, cap, hv, h1, h2, _⟩ := hM3
      rw [hn] at hv h1
      exact ⟨o, cap, hv, h1, h2⟩
    obtain ⟨o, cap, rfl, hc1, hc2⟩ := hmv
    rw [hn] at hlen
    have HN := Lib.hid hn
    have HG := Lib.hid hgood
    clear hn hgood hb1 hb3 h3
    go_wp2_with fail
    go_cut [8, 9] from 25 (fun s8 s9 wx => ∃ ga gb, s8 = .pointer (some ⟨ga, 0, none⟩) ∧ s9 = .pointer (some ⟨gb, 0, none⟩) ∧ ga < gb ∧ Blk wx ga (decC (Sp.Dec.new s)) 73 ∧ Blk wx gb (decC (Sp.Dec.new (s ++ Z))) 73 ∧ Below w3.heap.size w3 wx ∧ w3.heap.size ≤ ga)
    case first =>
      go_region_with (first | (go_at_call_of 21 Z; refine (NewDec_any (s ++ Z) _).mono ?_; rintro e wb ⟨gb, hgb, rfl, hBb, hbb⟩) | (go_at_call 21; refine (NewDec_any s _).mono ?_; rintro e wa ⟨ga, hga, rfl, hBa, hba⟩; first | (with_reducible have hza := hcv _ _ ((hnew w3).drew.newB hba)) | skip))
      all_goals
        go_wp2_with fail
        go_meet
        case rel =>
          refine ⟨ga, gb, rfl, rfl, ?_, ?_, hBb, ?_, ?_⟩
          · have h1 := hBa.lt
            have h2 := hba.size
            simp only [World.size_alloc, World.size_drew] at hgb hga h2
            omega
          · first
              | exact hBa.newB hbb
              | exact (hBa.alloc _).newB hbb
              | exact (hBa.alloc _).drew.newB hbb
          · have h2 := hba.size
            simp only [World.size_alloc, World.size_drew] at hba hbb h2
            first
              | (with_reducible exact ((((Below.refl _ _).alloc (Nat.le_refl _) _).drew.trans (hba.mono (by omega))).trans (hbb.mono (by omega))))
              | (with_reducible exact ((((Below.refl _ _).drew.trans (hba.mono (by omega))).alloc (by omega) _).trans (hbb.mono (by omega))))
              | (with_reducible exact ((((Below.refl _ _).drew.trans (hba.mono (by omega))).alloc (by omega) _).drew.trans (hbb.mono (by omega))))
              | trace_state
          · simp only [World.size_alloc, World.size_drew] at hga
            omega
    case rest =>
      obtain ⟨ga, gb, rfl, rfl, hgl, hBa, hBb, hbc, hga⟩ := hcut
      have hMc := hM3.keep (Kept.of_below (S := fun _ => False) hbc) (fun _ _ _ h => h)
      have hb0 := h13.trans (hbc.mono h13.size)
      have hga0 : w.heap.size ≤ ga := by have := h13.size; omega
      have hL0 : Sp.Like (Sp.Dec.new s) (Sp.Dec.new (s ++ Z)) := Sp.like_first (fun i => by rw [← HZ.out]; exact (Sp.byteAt_zeros s q i).symm) 4
      clear hM3 hbc h13 hmk hcv hnew hnew2 hadd hzs
      go_wp2_with fail
      go_loopw [10] (fun i wr => ∃ (k : Nat) (a b : Sp.Dec), k ≤ n ∧ i = .int .i64 k ∧ Hid (Sp.Like a b) ∧ Hid (a.Ok (4 + 3 * k)) ∧ Hid (b.Ok (4 + 3 * k)) ∧ Blk wr ga (decC a) 73 ∧ Blk wr gb (decC b) 73 ∧ MRow wr (.slice o n cap) M ∧ Below w.heap.size w wr) (fun i _ => n - (intOf i).toNat)
      case atStart => exact ⟨0, _, _, Nat.zero_le _, rfl, Lib.hid hL0, Lib.hid (Sp.Dec.new_ok s), Lib.hid (Sp.Dec.new_ok (s ++ Z)), hBa, hBb, hMc, hb0⟩
      case round =>
        clear hBa hBb hMc hb0 hL0
        obtain ⟨k, a, b, hk, rfl, HL, HA, HB, hBa, hBb, hM, hb⟩ := hrel
        by_cases hlt : k < n
        · have hkM : k < M.length := by rw [HN.out]; exact hlt
          obtain ⟨c, hc⟩ : ∃ c, M[k] = c := ⟨_, rfl⟩
          have hMk : M[k]? = some c := by rw [List.getElem?_eq_getElem hkM, hc]
          have hcell := HG.out c (hc ▸ List.getElem_mem hkM)
          have hMM := hM
          obtain ⟨o', cap', hv, _, _, hmm⟩ := hMM
          cases hv
          obtain ⟨gm, cur, rfl, hBm, hcs⟩ := hmm (by omega)
          obtain ⟨q1, q2, q3⟩ := hcs k c hMk
          obtain ⟨x, y, t⟩ := c
          simp only at hcell q1 q2 q3
          obtain ⟨z0, z1⟩ := Sp.Dec.place_bd HA.out hcell.1 hcell.2.1
          have hpl := Sp.like_place HL.out t
          obtain ⟨z, hz⟩ : ∃ z, a.place t = z := ⟨_, rfl⟩
          rw [hz] at z0 z1 hpl
          have HZA := Lib.hid hz
          have HZB := Lib.hid hpl.symm
          clear hz hpl
          have p3 := (hBm.cell (k * 3 + 2)).trans q3
          have hk100 : k ≤ 100 := by omega
          go_wp2_with fail
          refine (At_any ga HA.out t hcell.1 hcell.2.1 _ hBa).mono ?_
          rw [HZA.out]
          rintro e1 w1 ⟨rfl, hK1⟩
          have hBa1 := hBa.keep hK1 (fun h => h)
          have hBb1 := hBb.keep hK1 (fun h => h)
          have hM1 := hM.keep hK1 (fun _ _ _ h => h)
          have hBm1 := hBm.keep hK1 (fun h => h)
          have hb1 : Below w.heap.size w w1 := hb.trans (hK1.below (fun _ h => h.elim) hb.size)
          have p3 := (hBm1.cell (k * 3 + 2)).trans q3
          clear hBa hBb hM hBm hb hK1
          go_wp2_with fail
          refine (At_any gb HB.out t hcell.1 hcell.2.1 _ hBb1).mono ?_
          rw [HZB.out]
          rintro e2 w2 ⟨rfl, hK2⟩
          have hBa2 := hBa1.keep hK2 (fun h => h)
          have hBb2 := hBb1.keep hK2 (fun h => h)
          have hM2 := hM1.keep hK2 (fun _ _ _ h => h)
          have hBm2 := hBm1.keep hK2 (fun h => h)
          have hb2 : Below w.heap.size w w2 := hb1.trans (hK2.below (fun _ h => h.elim) hb1.size)
          have p1 := (hBm2.cell (k * 3)).trans q1
          have p2 := (hBm2.cell (k * 3 + 1)).trans q2
          have p3 := (hBm2.cell (k * 3 + 2)).trans q3
          clear hBa1 hBb1 hM1 hBm1 hb1 hK2
          go_wp2_with fail
          go_still_tail 16, (by kernel_rfl)
          change wpList _ _ _ _ _ (World.drew _)
          go_wp2_with fail
          refine (Take_any ga HA.out (by omega) hcell _ hBa2.drew).mono ?_
          rintro e3 w3' ⟨rfl, hBa3, hK3⟩
          have hBb3 := hBb2.drew.keep hK3 (fun h => by omega)
          have hM3 := hM2.drew.keep hK3 (fun i cur hi he => by rw [he] at hi; exact absurd (hi.typ hBa2.drew) (by decide))
          have hBm3 := hBm2.drew.keep hK3 (fun he => by rw [he] at hBm2; exact absurd (hBm2.typ hBa2) (by decide))
          have hb3 : Below w.heap.size w w3' := hb2.drew.trans (hK3.below (fun i hi => by rw [hi]; exact hga0) hb2.size)
          have p1 := (hBm3.cell (k * 3)).trans q1
          have p2 := (hBm3.cell (k * 3 + 1)).trans q2
          have p3 := (hBm3.cell (k * 3 + 2)).trans q3
          clear hBa2 hBb2 hM2 hBm2 hb2 hK3
          go_wp2_with fail
          go_still_tail 16, (by kernel_rfl)
          change wpList _ _ _ _ _ (World.drew _)
          go_wp2_with fail
          refine (Take_any gb HB.out (by omega) hcell _ hBb3.drew).mono ?_
          rintro e4 w4 ⟨rfl, hBb4, hK4⟩
          have hBa4 := hBa3.drew.keep hK4 (fun h => by omega)
          have hM4 := hM3.drew.keep hK4 (fun i cur hi he => by rw [he] at hi; exact absurd (hi.typ hBb3.drew) (by decide))
          have hb4 : Below w.heap.size w w4 := hb3.drew.trans (hK4.below (fun i hi => by rw [hi]; omega) hb3.size)
          clear hBa3 hBb3 hM3 hBm3 hb3 hK4 p1 p2 p3
          have hA2 := Sp.Dec.take_ok HA.out hcell
          have hB2 := Sp.Dec.take_ok HB.out hcell
          have hL2 := Sp.like_take HL.out x y t
          have hus := Sp.like_used hL2
          rw [show (4 + 3 * (k : Int) + 3) = 4 + 3 * ((k + 1 : Nat) : Int) from by omega] at hA2 hB2
          obtain ⟨a2, ha2⟩ : ∃ a2, a.take x y t = a2 := ⟨_, rfl⟩
          obtain ⟨b2, hb2'⟩ : ∃ b2, b.take x y t = b2 := ⟨_, rfl⟩
          rw [ha2] at hBa4 hA2 hL2 hus
          rw [hb2'] at hBb4 hB2 hL2 hus
          have HU := Lib.hid hus.symm
          have HL2 := Lib.hid hL2
          have HA2 := Lib.hid hA2
          have HB2 := Lib.hid hB2
          clear ha2 hb2' hA2 hB2 hL2 hus
          go_wp2_with fail
          refine (DecUsed_any ga HA2.out (by omega) _ hBa4).mono ?_
          rintro e5 w5 ⟨rfl, hK5⟩
          have hBa5 := hBa4.keep hK5 (fun h => h)
          have hBb5 := hBb4.keep hK5 (fun h => h)
          have hM5 := hM4.keep hK5 (fun _ _ _ h => h)
          have hb5 : Below w.heap.size w w5 := hb4.trans (hK5.below (fun _ h => h.elim) hb4.size)
          go_wp2_with fail
          refine (DecUsed_any gb HB2.out (by omega) _ hBb5).mono ?_
          rw [HU.out]
          rintro e6 w6 ⟨rfl, hK6⟩
          have hBa6 := hBa5.keep hK6 (fun h => h)
          have hBb6 := hBb5.keep hK6 (fun h => h)
          have hM6 := hM5.keep hK6 (fun _ _ _ h => h)
          have hb6 : Below w.heap.size w w6 := hb5.trans (hK6.below (fun _ h => h.elim) hb5.size)
          go_wp2_with fail
          go_roundw
          case rel => exact ⟨k + 1, a2, b2, by omega, by go_num, HL2, HA2, HB2, hBa6, hBb6, hM6, hb6⟩
          case measure => simp [intOf]; omega
        · go_wp2_with fail
          go_ret
          exact ⟨rfl, hb⟩
end Go.Proofs.YtlhjkichambaoaaDoor
