/- The walks of the range decoder: a new one; a small number taken. -/
import Derived.Test.YtnohjidoelohkaaDoorRangD
import Derived.Test.YtnohjidoelohkaaDoorLapl3
import Derived.Test.YtnohjidoelohkaaDoorSpecLapl2
namespace Go.Proofs.YtnohjidoelohkaaDoor
open Go.RowKit

theorem Cell_at {v a c : Int} {ok : Bool} (h : Sp.cellOf v = (a, c, ok)) (w : World) :
    Calls Tryd.prog 32 #[.int .i64 v] w fun e W' => e = .returned (.tuple #[.int .i64 a, .int .i64 c, .bool ok]) ∧ Below w.heap.size w W' :=
  (Cell_any v w).mono fun e W' ⟨he, hb⟩ => ⟨by rw [he, h], hb⟩
theorem Find_at {p v : Int} {ok : Bool} (h : Sp.findOf p = (v, ok)) (w : World) :
    Calls Tryd.prog 31 #[.int .i64 p] w fun e W' => e = .returned (.tuple #[.int .i64 v, .bool ok]) ∧ Below w.heap.size w W' :=
  (Find_any p w).mono fun e W' ⟨he, hb⟩ => ⟨by rw [he, h], hb⟩

set_option maxHeartbeats 800000 in
theorem NewDec_any (s : ByteArray) (w : World) :
    Calls Tryd.prog 14 #[.string s] w fun e w' => ∃ g, w.heap.size ≤ g ∧ e = .returned (.pointer (some ⟨g, 0, none⟩)) ∧ Blk w' g (decC (Sp.Dec.new s)) 66 ∧ Below w.heap.size w w' := by
  go_enter Tryd.func14, Tryd.ntmps14
  go_wp2_with fail
  go_loopw [10] (fun i wr => ∃ k : Nat, k ≤ 4 ∧ i = .int .i64 k ∧ Blk wr w.heap.size (decC (Sp.Dec.first s k)) 66 ∧ Below w.heap.size w wr) (fun i _ => 4 - (intOf i).toNat)
  case atStart => exact ⟨0, by omega, rfl, Blk.new _ _ _, by go_grown⟩
  case round =>
    obtain ⟨k, hk, rfl, hB, hK⟩ := hrel
    obtain ⟨p1, p2, p3, p4, p5, p6⟩ := Sp.Dec.first_ok s k
    by_cases hlt : k < 4
    · have hfin : Sp.Dec.first s (k + 1) = ⟨s, (Sp.Dec.first s k).pos + 1, (Sp.Dec.first s k).code * 256 % 4294967296 + Sp.byteAt s (Sp.Dec.first s k).pos, 4294967295, 0⟩ := rfl
      have HF := Lib.hid hfin
      clear hfin
      obtain ⟨a, ha⟩ : ∃ a, (Sp.Dec.first s k).pos = a := ⟨_, rfl⟩
      obtain ⟨c, hc⟩ : ∃ c, (Sp.Dec.first s k).code = c := ⟨_, rfl⟩
      rw [decC, p1, ha, hc, p5, p6] at hB
      rw [ha] at p2 HF
      rw [hc] at p3 p4 HF
      have hs := hK.size
      have c2 := hB.cell 2
      simp only [List.getElem?_toArray, List.getElem?_cons_zero, List.getElem?_cons_succ] at c2
      have f2 := hB.frozen 2
      have hcall := next_any w.heap.size s a c 4294967295 0 wr.drew (by omega) (by omega) hB.drew
      clear p1 p2 p5 p6 ha hc
      go_wp2_with fail
      go_region_with (go_at_call 29; refine hcall.mono ?_; rintro e w' ⟨rfl, hB2, hK2⟩; have d2 := hB2.cell 2; simp only [List.getElem?_toArray, List.getElem?_cons_zero, List.getElem?_cons_succ] at d2; have e2 := hB2.frozen 2)
      all_goals
        go_wp2
        rw [u32_shl8_or _ _ (Sp.byteAt_bd s a).1 (Sp.byteAt_bd s a).2]
        go_roundw
        case rel =>
          refine ⟨k + 1, by omega, by go_num, ?_, ?_⟩
          · rw [HF.out]
            show Blk _ _ #[.string s, .int .i64 (a + 1), .int .u32 (c * 256 % 4294967296 + Sp.byteAt s a), .int .u32 4294967295, .int .i64 0] _
            (apply Blk.mk_eq; (case h => repeat' (first | (with_reducible assumption) | (with_reducible apply Blk.drew) | (with_reducible apply Blk.drewN) | (with_reducible apply Blk.set) | ((with_reducible refine Blk.other ?_ ?ne _); case ne => (first | (simp only []; omega) | omega)) | (with_reducible apply Blk.alloc))); (case e => first | rfl | simp))
          · have hK3 : Below w.heap.size w _ := hK.trans ((hK2.undrew).below (by intro k h; omega) hs)
            go_grown
        case measure => simp [intOf]; omega
    · obtain rfl : k = 4 := by omega
      go_wp2
      go_ret
      exact ⟨w.heap.size, Nat.le_refl _, rfl, hB, hK⟩

/-- A number taken: which, and the decoder then. -/
def ltakeV (d : Sp.Dec) : Int := (Sp.findOf (d.place 32768)).1
def ltakeD (d : Sp.Dec) : Sp.Dec := d.take (Sp.cellOf (ltakeV d)).1 (Sp.cellOf (ltakeV d)).2.1 32768
theorem place_bd {d : Sp.Dec} {b : Int} (h : d.Ok b) : 0 ≤ d.place 32768 ∧ d.place 32768 < 32768 := by
  obtain ⟨b1, b2, b3⟩ := Sp.step_bd h.rng0 h.rng1 (by omega : (1 : Int) ≤ 32768) (by omega)
  have := Int.ediv_nonneg h.code0 (by omega : 0 ≤ d.rng / 32768)
  unfold Sp.Dec.place; omega
theorem ltake_cell {d : Sp.Dec} {b : Int} (h : d.Ok b) : ∃ v a c, ltakeV d = v ∧ Sp.findOf (d.place 32768) = (v, true) ∧ Sp.cellOf v = (a, c, true) ∧ Sp.cellIs a c 32768 ∧ ltakeD d = d.take a c 32768 ∧ -24 ≤ v ∧ v ≤ 24 := by
  have hp := place_bd h
  obtain ⟨v, hf, h1, h2⟩ := Sp.find_in _ hp.1 hp.2
  obtain ⟨a, c, hc⟩ := Sp.cell_is v h1 h2
  have hv : ltakeV d = v := by rw [ltakeV, hf]
  refine ⟨v, a, c, hv, hf, hc.eq, ?_, by rw [ltakeD, hv, hc.eq], h1, h2⟩
  have h3 := hc.a0
  have h4 := hc.c8
  have h5 := hc.ac
  unfold Sp.cellIs; omega

set_option maxHeartbeats 800000 in
theorem LTake_any (g : Nat) {b : Int} {d : Sp.Dec} (hd : d.Ok b) (hb : b ≤ 1000000000000) (w : World) (hB : Blk w g (decC d) 66) :
    Calls Tryd.prog 15 #[.pointer (some ⟨g, 0, none⟩)] w fun e w' => e = .returned (.tuple #[.int .i64 (ltakeV d), .int .i64 0]) ∧ Blk w' g (decC (ltakeD d)) 66 ∧ Kept (· = g) w w' := by
  obtain ⟨v, a, c, hv, hf, hc, hci, hD, h1, h2⟩ := ltake_cell hd
  rw [hv, hD]
  have HC := Lib.hid hc
  have HF := Lib.hid hf
  clear hc hf hv hD
  have hlt := hB.lt
  go_enter Tryd.func15, Tryd.ntmps15
  go_wp2_with fail
  refine (At_any g hd 32768 (by omega) (by omega) _ hB).mono ?_
  rintro e w1 ⟨rfl, hK1⟩
  go_wp2_with fail
  refine (Find_at HF.out _).mono ?_
  rintro e w2 ⟨rfl, hK2⟩
  go_wp2_with fail
  refine (Cell_at HC.out _).mono ?_
  rintro e w3 ⟨rfl, hK3⟩
  have hB3 := ((hB.keep hK1 (fun h => h)).newB hK2).newB hK3
  go_wp2_with fail
  refine (Take_any g hd hb hci _ hB3).mono ?_
  rintro e w4 ⟨rfl, hB4, hK4⟩
  go_wp2_with fail
  go_ret2
  exact ⟨rfl, hB4, (((hK1.mono (fun _ h => h.elim)).thenBelow hK2).thenBelow hK3).trans hK4⟩
end Go.Proofs.YtnohjidoelohkaaDoor
