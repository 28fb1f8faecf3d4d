/- The walk of the range coder's reference (spoolref07): the end. -/
import Derived.Test.YtlhjkichambaoaaDoorRangR3
namespace Go.Proofs.YtlhjkichambaoaaDoor
open Go.RowKit

def sliceLen : Value → Nat
  | .slice _ n _ => n
  | _ => 0

def RetDone (w : World) (l : List Int) (n : Nat) (e : Ending) (w' : World) : Prop :=
  e = .returned (.tuple #[.string (Sp.fitS l n), .bool (Sp.fitOk l n)]) ∧ Below w.heap.size w w'

set_option maxRecDepth 100000 in
set_option maxHeartbeats 1600000 in
theorem RDone_any (lv : Value) (low : List Int) (r : Int) (n : Nat) (hb : Sp.Bytes low) (hl0 : 0 < low.length) (hl1 : (low.length : Int) ≤ 1000000000) (hn : n ≤ 4096) (w : World)
    (hR : Row w 3 lv (intsV low)) :
    Calls Tryd.prog 19 #[.agg #[lv, .int .i64 r], .int .i64 n] w (RetDone w low n) := by
  obtain ⟨i0, hi, hz0, hz1, hz2⟩ := info_parts infoU8
  obtain ⟨ob, cap, rfl, hob⟩ := hR.slice (by intro h; simp at h; subst h; simp at hl0)
  rw [List.length_map] at hR ⊢
  have hBB := Blk.new w #[.slice (some ⟨ob, 0, none⟩) low.length cap, .int .i64 r] 30
  have HB := Lib.hid hb
  clear hb
  obtain ⟨T, hT⟩ : ∃ T, Sp.trimZ low = T := ⟨_, rfl⟩
  have HT := Lib.hid hT
  clear hT
  obtain ⟨m, hm⟩ : ∃ m, low.length = m := ⟨_, rfl⟩
  rw [hm] at hR hBB hl0 hl1 ⊢
  have HM := Lib.hid hm
  clear hm
  have hml : (intsV low).length = m := by rw [List.length_map, HM.out]
  have HML := Lib.hid hml
  clear hml
  go_enter Tryd.func19, Tryd.ntmps19
  go_wp2
  go_loopw [6, 7] (fun v i wr => ∃ (k : Nat), k ≤ m ∧ i = .int .i64 k ∧ Row wr 5 v (bytesV (low.take k)) ∧ Kept (fun _ => False) w wr ∧ Blk wr w.heap.size #[.slice (some ⟨ob, 0, none⟩) m cap, .int .i64 r] 30 ∧ (∀ k, v.ownBlock = some k → w.heap.size ≤ k)) (fun _ i _ => m - (intOf i).toNat)
  case atStart => exact ⟨0, Nat.zero_le _, rfl, Row.nil _ _, (Kept.refl _ _).alloc _, hBB, by intro k hk; simp [Value.ownBlock] at hk⟩
  case round =>
    obtain ⟨k, hk, rfl, hRw, hK, hBw, hF⟩ := hrel
    have d0 := hBw.cell 0
    simp only [List.getElem?_toArray, List.getElem?_cons_zero, List.getElem?_cons_succ] at d0
    by_cases hlt : k < m
    · have hkm : k < low.length := by rw [HM.out]; omega
      have hRl := hR.keep hK (fun _ _ h => h)
      have hcell := hRl.cellAt HML.out k hlt
      rw [ints_get hkm] at hcell
      have hbd := HB.out.get hkm
      obtain ⟨x, hx⟩ : ∃ x, low.getD k 0 = x := ⟨_, rfl⟩
      rw [hx] at hcell hbd
      have HX := Lib.hid hx
      have HKM := Lib.hid hkm
      have htk : (bytesV (low.take k)).length = k := by rw [List.length_map, List.length_take, HM.out]; omega
      have HTK := Lib.hid htk
      clear hx hkm htk
      go_wp2_with (at_builtin; refine wpList_append_lies _ rfl (.tmp 15) (.tmp 22) 48 rfl 0 5 i0 (.int .u8 0) 1 1 Tryd.underlying48 hi hz0 hz1 hz2 rfl (by decide) u6 k (bytesV (low.take k)) rfl (by have h := hRw.alloc (.cells #[.int .u8 x] 5); unfold Row at h; rw [HTK.out] at h; exact h) ⟨wr.heap.size, 0, none⟩ 1 1 [.int .u8 x] rfl rfl (World.news_of_block (World.alloc_heap_new _ _)) (by simp [Value.oneCell']) (by decide) (by unfold maxLen; omega) (by omega) (Nat.zero_le _) _ rfl ?_; intro gb capb w3 hown3 hgrow3 hat3 hlt3)
      have hrow3 : Row w3 5 (.slice (some ⟨gb, 0, none⟩) (k + 1) capb) (bytesV (low.take (k + 1))) := by
        rw [List.take_add_one, List.getElem?_eq_getElem HKM.out, Option.toList_some, bytesV, List.map_append]
        have hxe : low[k]'HKM.out = x := by rw [← HX.out, List.getD_eq_getElem?_getD, List.getElem?_eq_getElem HKM.out]; rfl
        rw [hxe]
        exact Row.mk hown3
      have hsz := hK.size
      have hgb : w.heap.size ≤ gb := by
        rcases hat3 with h | h
        · exact hF _ h
        · simp at h; omega
      have hK3 : Kept (fun _ => False) w w3 := (hK.alloc _).grown hgrow3 (fun k hk => .inr (hF k hk))
      have hB3 : Blk w3 w.heap.size #[.slice (some ⟨ob, 0, none⟩) m cap, .int .i64 r] 30 := (hBw.alloc _).kept hgrow3 (fun e => hRw.ne hBw (by decide) e.symm)
      go_roundw
      case rel => exact ⟨k + 1, by omega, by go_num, hrow3, hK3, hB3, by intro k hk; simp [Value.ownBlock] at hk; omega⟩
      case measure => simp [intOf]; omega
    · obtain rfl : k = m := by omega
      have hRw2 : Row wr 5 u6 (bytesV low) := by have h := hRw; rw [← HM.out, List.take_length] at h; exact h
      clear hRw
      obtain ⟨g1, c1, rfl, hg1⟩ := hRw2.slice (by intro h; simp at h; have := HM.out; subst h; simp at this; omega)
      have hRw : Row wr 5 (.slice (some ⟨g1, 0, none⟩) k c1) (bytesV low) := by have h := hRw2; rw [List.length_map, HM.out] at h; exact h
      clear hRw2
      rw [List.length_map, HM.out]
      have hF1 : w.heap.size ≤ g1 := hF _ rfl
      clear hF hBB
      go_wp2_with fail
      go_loop [6] (fun v => ∃ (q : List Int) (m0 : Nat), v = .slice (some ⟨g1, 0, none⟩) m0 c1 ∧ Hid (q.length = m0) ∧ Hid (Sp.trimZ q = T) ∧ m0 ≤ k ∧ Row wr 5 (.slice (some ⟨g1, 0, none⟩) m0 c1) (bytesV q)) (fun v => sliceLen v)
      case atStart => exact ⟨low, k, rfl, HM, HT, Nat.le_refl _, hRw⟩
      case round =>
        obtain ⟨q, m0, rfl, hq, hqT, hmk, hRq⟩ := hrel
        obtain ⟨hcap1, hcap2⟩ := hRq.cap
        rcases m0 with _ | m0
        · obtain rfl : q = [] := List.length_eq_zero_iff.1 hq.out
          have hT0 := hqT.out
          rw [Sp.trimZ_nil] at hT0
          subst hT0
          have hTq : ([] : List Int) = Sp.trimZ low := HT.out.symm
          have HTQ := Lib.hid hTq
          clear hTq
          go_wp2_with fail
          have hn0 : (((0 : Nat) : Int)) = 0 := rfl
          go_loopw [6] (fun v wr => ∃ (l : List Int) (g0 n0 c0 : Nat), v = .slice (some ⟨g0, 0, none⟩) n0 c0 ∧ Hid (l.length = n0) ∧ n0 ≤ n ∧ Hid (Sp.padZ l n = Sp.padZ (Sp.trimZ low) n) ∧ Row wr 5 (.slice (some ⟨g0, 0, none⟩) n0 c0) (bytesV l) ∧ Kept (fun _ => False) w wr ∧ w.heap.size ≤ g0) (fun v _ => n - sliceLen v)
          case atStart => exact ⟨_, g1, _, c1, rfl, hq, by omega, Lib.hid (by rw [HTQ.out]), hRq, hK, hF1⟩
          case round =>
            obtain ⟨l, g0, n0, c0, rfl, hl, hn0, hP, hRl, hKl, hF0⟩ := hrel
            by_cases hln : n0 < n
            · go_wp2_with (at_builtin; refine wpList_append_lies _ rfl (.tmp 49) (.tmp 50) 48 rfl 0 5 i0 (.int .u8 0) 1 1 Tryd.underlying48 hi hz0 hz1 hz2 rfl (by decide) (.slice (some ⟨g0, 0, none⟩) n0 c0) n0 (bytesV l) rfl (by have h := hRl.alloc (.cells #[.int .u8 0] 5); unfold Row at h; rw [List.length_map, hl.out] at h; exact h) ⟨wr.heap.size, 0, none⟩ 1 1 [.int .u8 0] rfl rfl (World.news_of_block (World.alloc_heap_new _ _)) (by simp [Value.oneCell']) (by decide) (by unfold maxLen; omega) (by omega) (Nat.zero_le _) _ rfl ?_; intro gb capb w3 hown3 hgrow3 hat3 hlt3)
              have hrow3 : Row w3 5 (.slice (some ⟨gb, 0, none⟩) (n0 + 1) capb) (bytesV (l ++ [0])) := by
                rw [bytesV, List.map_append]
                exact Row.mk hown3
              have hsz := hKl.size
              have hgb : w.heap.size ≤ gb := by
                rcases hat3 with h | h
                · simp [Value.ownBlock] at h; omega
                · simp at h; omega
              have hK3 : Kept (fun _ => False) w w3 := (hKl.alloc _).grown hgrow3 (fun k hk => .inr (by simp [Value.ownBlock] at hk; omega))
              go_roundw
              case rel => exact ⟨l ++ [0], gb, n0 + 1, capb, rfl, Lib.hid (by rw [List.length_append, hl.out]; rfl), by omega, Lib.hid (by rw [Sp.padZ_more l (by rw [hl.out]; exact hln)]; exact hP.out), hrow3, hK3, hgb⟩
              case measure => simp [sliceLen]; omega
            · have kc := hRl.str
              go_wp2_with fail
              go_ret2
              have h1 : (Sp.trimZ low).length ≤ n := by rw [← HTQ.out, hq.out]; omega
              have e1 : Sp.fitS low n = strOfNums l := by rw [Sp.fitS_yes h1, ← hP.out, Sp.padZ_done l (by rw [hl.out]; omega)]
              have e2 : Sp.fitOk low n = true := by rw [Sp.fitOk, decide_eq_true h1]
              unfold RetDone
              rw [e1, e2]
              exact ⟨rfl, hKl.below (fun _ h => h.elim) (Nat.le_refl _)⟩
        · have hqq : ∃ q' x, q = q' ++ [x] := by
            rcases List.eq_nil_or_concat q with rfl | ⟨q', x, rfl⟩
            · have := hq.out; simp at this
            · exact ⟨q', x, by rw [List.concat_eq_append]⟩
          obtain ⟨q', x, rfl⟩ := hqq
          have hq' : q'.length = m0 := by have := hq.out; simpa using this
          have hcell := hRq.cellAt (by rw [List.length_map]; exact hq.out) m0 (by omega)
          have hx : (bytesV (q' ++ [x]))[m0]? = some (.int .u8 x) := by
            rw [bytesV, List.map_append, List.getElem?_append_right (by simp; omega)]; simp [hq']
          rw [hx] at hcell
          have HQ := Lib.hid hq'
          clear hq' hx
          by_cases hx0 : x = 0
          · subst hx0
            go_wp2_with fail
            go_round
            case rel =>
              refine ⟨q', m0, rfl, HQ, ?_, by omega, ?_⟩
              · exact Lib.hid (by rw [← hqT.out, Sp.trimZ_zero])
              · have h := hRq
                rw [bytesV, List.map_append] at h
                exact Row.pop (by rw [List.length_map]; exact HQ.out) h
            case measure => simp [sliceLen]
          · have hTq : q' ++ [x] = Sp.trimZ low := by rw [HT.out, ← hqT.out, Sp.trimZ_snoc _ hx0]
            have HTQ := Lib.hid hTq
            clear hTq
            by_cases hfit : m0 + 1 ≤ n
            · go_wp2_with fail
              go_loopw [6] (fun v wr => ∃ (l : List Int) (g0 n0 c0 : Nat), v = .slice (some ⟨g0, 0, none⟩) n0 c0 ∧ Hid (l.length = n0) ∧ n0 ≤ n ∧ Hid (Sp.padZ l n = Sp.padZ (Sp.trimZ low) n) ∧ Row wr 5 (.slice (some ⟨g0, 0, none⟩) n0 c0) (bytesV l) ∧ Kept (fun _ => False) w wr ∧ w.heap.size ≤ g0) (fun v _ => n - sliceLen v)
              case atStart => exact ⟨_, g1, _, c1, rfl, hq, by omega, Lib.hid (by rw [HTQ.out]), hRq, hK, hF1⟩
              case round =>
                obtain ⟨l, g0, n0, c0, rfl, hl, hn0, hP, hRl, hKl, hF0⟩ := hrel
                by_cases hln : n0 < n
                · go_wp2_with (at_builtin; refine wpList_append_lies _ rfl (.tmp 49) (.tmp 50) 48 rfl 0 5 i0 (.int .u8 0) 1 1 Tryd.underlying48 hi hz0 hz1 hz2 rfl (by decide) (.slice (some ⟨g0, 0, none⟩) n0 c0) n0 (bytesV l) rfl (by have h := hRl.alloc (.cells #[.int .u8 0] 5); unfold Row at h; rw [List.length_map, hl.out] at h; exact h) ⟨wr.heap.size, 0, none⟩ 1 1 [.int .u8 0] rfl rfl (World.news_of_block (World.alloc_heap_new _ _)) (by simp [Value.oneCell']) (by decide) (by unfold maxLen; omega) (by omega) (Nat.zero_le _) _ rfl ?_; intro gb capb w3 hown3 hgrow3 hat3 hlt3)
                  have hrow3 : Row w3 5 (.slice (some ⟨gb, 0, none⟩) (n0 + 1) capb) (bytesV (l ++ [0])) := by
                    rw [bytesV, List.map_append]
                    exact Row.mk hown3
                  have hsz := hKl.size
                  have hgb : w.heap.size ≤ gb := by
                    rcases hat3 with h | h
                    · simp [Value.ownBlock] at h; omega
                    · simp at h; omega
                  have hK3 : Kept (fun _ => False) w w3 := (hKl.alloc _).grown hgrow3 (fun k hk => .inr (by simp [Value.ownBlock] at hk; omega))
                  go_roundw
                  case rel => exact ⟨l ++ [0], gb, n0 + 1, capb, rfl, Lib.hid (by rw [List.length_append, hl.out]; rfl), by omega, Lib.hid (by rw [Sp.padZ_more l (by rw [hl.out]; exact hln)]; exact hP.out), hrow3, hK3, hgb⟩
                  case measure => simp [sliceLen]; omega
                · have kc := hRl.str
                  go_wp2_with fail
                  go_ret2
                  have h1 : (Sp.trimZ low).length ≤ n := by rw [← HTQ.out, hq.out]; omega
                  have e1 : Sp.fitS low n = strOfNums l := by rw [Sp.fitS_yes h1, ← hP.out, Sp.padZ_done l (by rw [hl.out]; omega)]
                  have e2 : Sp.fitOk low n = true := by rw [Sp.fitOk, decide_eq_true h1]
                  unfold RetDone
                  rw [e1, e2]
                  exact ⟨rfl, hKl.below (fun _ h => h.elim) (Nat.le_refl _)⟩
            · go_wp2_with fail
              go_ret2
              have h1 : ¬ (Sp.trimZ low).length ≤ n := by rw [← HTQ.out, hq.out]; omega
              have e2 : Sp.fitOk low n = false := by rw [Sp.fitOk, decide_eq_false h1]
              unfold RetDone
              rw [Sp.fitS_no h1, e2]
              exact ⟨rfl, hK.below (fun _ h => h.elim) (Nat.le_refl _)⟩
end Go.Proofs.YtlhjkichambaoaaDoor
