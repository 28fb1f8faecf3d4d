/- The walk of state.Right: is a state right? A state's 38 numbers lie in one row: 16 of Mem, Last, 4 Levels, 16 Waves, Lost. -/
import Derived.Test.YtnohjidoelohkaaDoorDecT
import Derived.Test.YtnohjidoelohkaaDoorDecV
import Derived.Deep.Cut
namespace Go.Proofs.YtnohjidoelohkaaDoor
open Go.RowKit

def memL (L : List Int) : List Int := L.take 16
def lastL (L : List Int) : Int := L.getD 16 0
def levL (L : List Int) : List Int := (L.drop 17).take 4
def wavL (L : List Int) : List Int := (L.drop 21).take 16
def lostL (L : List Int) : Int := L.getD 37 0
def fitP (x : Int) : Bool := Sp.cut 32 x == x
def levP (x : Int) : Bool := decide (0 ≤ x) && decide (x ≤ 20)
/-- Is a state right? -/
def rightS (L : List Int) : Bool := (memL L).all fitP && (levL L).all levP && (Sp.cut 22 (lastL L) == lastL L) && !(wavL L).any wideP && decide (0 ≤ lostL L) && decide (lostL L ≤ 255)
theorem Blk.range {W : World} {b : Nat} {L : List Int} {t : TypeId} (h : Blk W b (arrV L) t) (o n : Nat) (hn : o + n ≤ L.length) : W.rangeAt b o (intsV ((L.drop o).take n)) := fun j v hv => by
  have hj : j < n := by have := (List.getElem?_eq_some_iff.1 hv).1; simp at this; omega
  rw [h.cell (o + j), ← hv]
  simp [List.getElem?_take, List.getElem?_drop, hj]
/-- A guarded load of a whole array that lies in the midst of a block, where its guard lets it run. -/
theorem wpList_load_g {ops : Array Oper} {rest : List Oper} {op : Oper} {a : Act} {w : World} {Q : Exit → Act → World → Prop} (hwd : Region.wanted op (yielded ops a.tmps) = true) (ty : TypeId) (x : Operand) (ho : op.op = .load ty x)
    (b o : Nat) (hx : a.eval x = .pointer (some ⟨b, o, none⟩)) (cs : List Value) (d : TypeDesc) (hc : w.rangeAt b o cs)
    (hu : Tryd.prog.underlying ty = some d) (hd : d.isRow = true) (hi : (Tryd.prog.info? ty).map (·.size) = some cs.length)
    (h : wpList Tryd.prog ops Q rest (a.put op.dst (.agg cs.toArray)) w) : wpList Tryd.prog ops Q (op :: rest) a w :=
  wpList_step fun K hK => by rw [if_pos hwd]; exact wp_load_mid ty x ho b o hx cs d hc hu hd hi (hK _ _ h)
theorem all_false {l : List Int} {p : Int → Bool} {k : Nat} {x : Int} (hx : l[k]? = some x) (hp : p x = false) : l.all p = false := by
  rw [List.all_eq_false]
  exact ⟨x, List.mem_of_getElem? hx, by simp [hp]⟩
set_option maxRecDepth 100000 in
set_option maxHeartbeats 1600000 in
theorem Right_any (L : List Int) (hl : L.length = 38) (w : World) : Calls Tryd.prog 8 #[.agg (arrV L)] w fun e w' => e = .returned (.bool (rightS L)) ∧ Below w.heap.size w w' := by
  have hX := Blk.new w (arrV L) 29
  obtain ⟨xb, hxb⟩ : ∃ xb, w.heap.size = xb := ⟨_, rfl⟩
  rw [hxb] at hX
  have hb0 : Below w.heap.size w (w.alloc (.cells (arrV L) 29)) := (Below.refl _ _).alloc (Nat.le_refl _) _
  have hm : (memL L).length = 16 := by simp [memL, hl]
  have hi0 : (Tryd.prog.info? 27).map (·.size) = some (intsV (memL L)).length := by rw [List.length_map, hm]; exact blockInfo
  have hidx := fun k (hk : k < 16) (w : World) => run_index_arr 27 16 (memL L) hm Tryd.underlying27 k hk w
  have HI := Lib.hid hidx
  clear hidx
  go_enter Tryd.func8, Tryd.ntmps8
  go_upto_region 1 with (fail)
  revert hX hb0
  generalize (w.alloc (.cells (arrV L) 29)) = w0
  intro hX hb0
  have hr0 : w0.rangeAt xb 0 (intsV (memL L)) := by have h := hX.range 0 16 (by omega); simpa [memL] using h
  go_wp2_with (first | (refine wpList_load_mid rfl 27 (.tmp 7) rfl xb 0 rfl (intsV (memL L)) (.array 16 3) hr0 Tryd.underlying27 rfl hi0 ?_))
  go_loop [9] (fun i => ∃ k : Nat, k ≤ 16 ∧ i = .int .i64 k ∧ Hid (((memL L).take k).all fitP = true)) (fun i => 16 - (intOf i).toNat)
  case atStart => exact ⟨0, by omega, rfl, Lib.hid rfl⟩
  case round =>
    obtain ⟨k, hk, rfl, HA⟩ := hrel
    by_cases hlt : k < 16
    · have hi := HI.out k hlt
      have hx : (memL L)[k]? = some ((memL L).getD k 0) := by rw [List.getD_eq_getElem?_getD, List.getElem?_eq_getElem (by omega)]; rfl
      obtain ⟨x, hxe⟩ : ∃ x, (memL L).getD k 0 = x := ⟨_, rfl⟩
      rw [hxe] at hi hx
      have hfx := fun w => fits32 x w
      have HX := Lib.hid hx
      clear hx hxe
      cases hf : (Sp.cut 32 x == x) with
      | true =>
        rw [hf] at hfx
        go_wp2_with fail
        refine (hfx _).mono ?_
        rintro e w1 ⟨rfl, rfl⟩
        go_wp2_with fail
        go_round
        case rel => exact ⟨k + 1, hlt, by go_num, Lib.hid (by rw [List.take_add_one, HX.out, Option.toList_some, List.all_append, HA.out]; simp [fitP, hf])⟩
        case measure => simp [intOf]; omega
      | false =>
        rw [hf] at hfx
        have hno : rightS L = false := by unfold rightS; rw [all_false HX.out (show fitP x = false from hf)]; simp
        go_wp2_with fail
        refine (hfx _).mono ?_
        rintro e w1 ⟨rfl, rfl⟩
        go_wp2_with fail
        go_ret
        rw [hno]
        exact ⟨rfl, hb0⟩
    · obtain rfl : k = 16 := by omega
      have hmem : (memL L).all fitP = true := by have h := HA.out; rw [List.take_of_length_le (by omega)] at h; exact h
      have hv : (levL L).length = 4 := by simp [levL, hl]
      have hr1 : w0.rangeAt xb 17 (intsV (levL L)) := hX.range 17 4 (by omega)
      have hi1 : (Tryd.prog.info? 23).map (·.size) = some (intsV (levL L)).length := by rw [List.length_map, hv]; exact fourInfo
      have hidx2 := fun k (hk : k < 4) (w : World) => run_index_arr 23 4 (levL L) hv Tryd.underlying23 k hk w
      have HI2 := Lib.hid hidx2
      have HMEM := Lib.hid hmem
      clear hidx2 hmem HA HI hr0
      go_wp2_with (first | (refine wpList_load_mid rfl 23 (.tmp 16) rfl xb 17 rfl (intsV (levL L)) (.array 4 3) hr1 Tryd.underlying23 rfl hi1 ?_))
      go_loop [18] (fun i => ∃ k : Nat, k ≤ 4 ∧ i = .int .i64 k ∧ Hid (((levL L).take k).all levP = true)) (fun i => 4 - (intOf i).toNat)
      case atStart => exact ⟨0, by omega, rfl, Lib.hid rfl⟩
      case round =>
        obtain ⟨k, hk, rfl, HA⟩ := hrel
        by_cases hlt : k < 4
        · have hi := HI2.out k hlt
          have hx : (levL L)[k]? = some ((levL L).getD k 0) := by rw [List.getD_eq_getElem?_getD, List.getElem?_eq_getElem (by omega)]; rfl
          obtain ⟨x, hxe⟩ : ∃ x, (levL L).getD k 0 = x := ⟨_, rfl⟩
          rw [hxe] at hi hx
          have HX := Lib.hid hx
          clear hx hxe
          by_cases hx0 : x < 0
          · have HNO := Lib.hid (show rightS L = false by unfold rightS; rw [all_false HX.out (show levP x = false by simp [levP]; omega)]; simp)
            go_wp2_with fail
            go_ret
            rw [HNO.out]
            exact ⟨rfl, by first | exact hb0 | (rw [← hxb]; exact hb0)⟩
          by_cases hx1 : 20 < x
          · have HNO := Lib.hid (show rightS L = false by unfold rightS; rw [all_false HX.out (show levP x = false by simp [levP]; omega)]; simp)
            go_wp2_with fail
            go_ret
            rw [HNO.out]
            exact ⟨rfl, by first | exact hb0 | (rw [← hxb]; exact hb0)⟩
          go_wp2_with fail
          go_round
          case rel => exact ⟨k + 1, hlt, by go_num, Lib.hid (by rw [List.take_add_one, HX.out, Option.toList_some, List.all_append, HA.out]; simp [levP]; omega)⟩
          case measure => simp [intOf]; omega
        · obtain rfl : k = 4 := by omega
          have hlev : (levL L).all levP = true := by have h := HA.out; rw [List.take_of_length_le (by omega)] at h; exact h
          have hw16 : (wavL L).length = 16 := by simp [wavL, hl]
          have hr2 : w0.rangeAt xb 21 (intsV (wavL L)) := hX.range 21 16 (by omega)
          have hi2 : (Tryd.prog.info? 27).map (·.size) = some (intsV (wavL L)).length := by rw [List.length_map, hw16]; exact blockInfo
          have c16 := (hX.cell 16).trans (arr_get (l := L) (by omega))
          have c37 := (hX.cell 37).trans (arr_get (l := L) (by omega))
          have hRS : rightS L = ((Sp.cut 22 (lastL L) == lastL L) && !(wavL L).any wideP && decide (0 ≤ lostL L) && decide (lostL L ≤ 255)) := by unfold rightS; rw [HMEM.out, hlev]; simp
          change w0.cell? ⟨xb, 16, none⟩ = some (.int .i64 (lastL L)) at c16
          change w0.cell? ⟨xb, 37, none⟩ = some (.int .i64 (lostL L)) at c37
          have hft := fun w => fits22 (lastL L) w
          have hhe := fun w => Held_any (wavL L) hw16 w
          have HRS := Lib.hid hRS
          obtain ⟨la, hla⟩ : ∃ la, lastL L = la := ⟨_, rfl⟩
          obtain ⟨lo, hlo⟩ : ∃ lo, lostL L = lo := ⟨_, rfl⟩
          rw [hla] at c16 hft
          rw [hlo] at c37
          clear hRS hlev HA HI2 hr1
          cases hf : (Sp.cut 22 la == la) with
          | false =>
            rw [hf] at hft
            have HNO := Lib.hid (show rightS L = false by rw [HRS.out, hla, hf]; simp)
            go_wp2_with fail
            refine (hft _).mono ?_
            rintro e w1 ⟨rfl, rfl⟩
            go_wp2_with fail
            go_ret
            rw [HNO.out]
            exact ⟨rfl, by first | exact hb0 | (rw [← hxb]; exact hb0)⟩
          | true =>
            rw [hf] at hft
            go_wp2_with fail
            refine (hft _).mono ?_
            rintro e w1 ⟨rfl, rfl⟩
            go_wp2_with (first | (refine wpList_load_g (by rfl) 27 (.tmp 32) rfl xb 21 rfl (intsV (wavL L)) (.array 16 3) hr2 Tryd.underlying27 rfl hi2 ?_))
            refine (hhe _).mono ?_
            rintro e w2 ⟨rfl, hb2⟩
            have d37 := (hb2.cell (p := ⟨xb, 37, none⟩) hX.lt).trans c37
            have hbb := hb0.trans (hb2.mono hb0.size)
            have HR2 := Lib.hid (show rightS L = (!(wavL L).any wideP && decide (0 ≤ lo) && decide (lo ≤ 255)) by rw [HRS.out, hla, hlo, hf]; simp)
            cases hany : (wavL L).any wideP with
            | true =>
              have HNO := Lib.hid (show rightS L = false by rw [HR2.out, hany]; simp)
              go_wp2_with fail
              go_ret
              rw [HNO.out]
              exact ⟨rfl, by first | exact hbb | (rw [← hxb]; exact hbb)⟩
            | false =>
              by_cases h0 : 0 ≤ lo
              · have HNO := Lib.hid (show rightS L = decide (lo ≤ 255) by rw [HR2.out, hany]; simp [h0])
                go_wp2_with fail
                go_ret
                rw [HNO.out]
                exact ⟨rfl, by first | exact hbb | (rw [← hxb]; exact hbb)⟩
              · have HNO := Lib.hid (show rightS L = false by rw [HR2.out, hany]; simp [h0])
                go_wp2_with fail
                go_ret
                rw [HNO.out]
                exact ⟨rfl, by first | exact hbb | (rw [← hxb]; exact hbb)⟩
end Go.Proofs.YtnohjidoelohkaaDoor
