/- The walks of package level: a band's waves, sums, levels. -/
import Derived.Test.YthpjkgpngbdhbaaGreatDoorLot7
import Derived.Test.YthpjkgpngbdhbaaGreatDoorLot6
set_option linter.unusedSimpArgs false
set_option linter.unusedVariables false
namespace Go.Proofs.YthpjkgpngbdhbaaGreatDoor
open Go.RowKit

set_option maxHeartbeats 800000 in
theorem sumG_any (l : List Int) (v : Value) (w : World) (hS : SliceI w v l) (hl : l.length ≤ 16) (hb : ∀ x ∈ l, -8388608 ≤ x ∧ x ≤ 8388608) :
    Calls Tryz.prog 51 #[v] w fun e w' => e = .returned (.int .i64 (Sp.sizes l)) ∧ w = w' := by
  obtain ⟨o, cap, rfl, hc1, hc2, hcl⟩ := hS
  have HC := Lib.hid hcl
  have HB := Lib.hid hb
  clear hcl hb
  go_enter Tryz.func51, Tryz.ntmps51
  go_wp2_with fail
  go_loop [3, 8] (fun s i => ∃ k : Nat, k ≤ l.length ∧ i = .int .i64 k ∧ s = .int .i64 (Sp.sizes (l.take k))) (fun _ i => l.length - (intOf i).toNat)
  case atStart => exact ⟨0, Nat.zero_le _, rfl, rfl⟩
  case round =>
    obtain ⟨k, hk, rfl, rfl⟩ := hrel
    have hbd0 := sizes_nn (l.take k)
    have hbd1 := sizes_le (l := l.take k) (fun x hx => HB.out x (List.mem_of_mem_take hx))
    rw [List.length_take] at hbd1
    by_cases hlt : k < l.length
    · obtain ⟨x, hx⟩ : ∃ x, l[k]? = some x := ⟨_, List.getElem?_eq_getElem hlt⟩
      obtain ⟨g, f0, rfl, hcell⟩ := HC.out k x hx
      have hx8 := HB.out x (List.mem_of_getElem? hx)
      have htk : Sp.sizes (l.take (k + 1)) = Sp.sizes (l.take k) + max x (-x) := by rw [List.take_add_one, hx, Option.toList_some, Sp.sizes_snoc]
      have HT := Lib.hid htk
      have hm1 : max (min x 1099511627776) (-1099511627776) = x := by omega
      have hm2 : 0 ≤ max x (-x) ∧ max x (-x) ≤ 8388608 := by omega
      obtain ⟨y, hy⟩ : ∃ y, max x (-x) = y := ⟨_, rfl⟩
      rw [hy] at hm2
      have HY := Lib.hid hy
      obtain ⟨s, hs⟩ : ∃ s, Sp.sizes (l.take k) = s := ⟨_, rfl⟩
      rw [hs] at hbd0 hbd1 ⊢
      have HS := Lib.hid hs
      clear htk hx hs
      go_wp2_with fail
      go_round
      case rel => exact ⟨k + 1, hlt, by go_num, by rw [HT.out, HS.out, HY.out]⟩
      case measure => simp [intOf]; omega
    · obtain rfl : k = l.length := by omega
      rw [List.take_length]
      go_wp2_with fail
      go_ret
      exact ⟨rfl, rfl⟩
theorem infoInts : (Tryz.prog.info? 3).map (fun i => (i.zero, i.size, i.bytes)) = some (some (.int .i64 0), 1, 8) := by kernel_rfl
theorem sl_someE {W : World} {lo hi n cap : Nat} {p : Option Addr} {xs : List Value} (h : SL W lo hi 1 p n cap xs) (hn : 1 ≤ n) : ∃ g f, p = some ⟨g, f, none⟩ := by
  obtain ⟨_, hc, _, _, h5, h6, _⟩ := h
  cases p with
  | none => have := h5 rfl; omega
  | some a => obtain ⟨g, f, s⟩ := a; have := (h6 _ rfl).1; simp only at this; subst this; exact ⟨g, f, rfl⟩
/-- A slice of numbers of the call's own. -/
def Nums (W : World) (base : Nat) (v : Value) (l : List Int) : Prop := OW W base W.heap.size 3 1 v l.length (intsV l)
theorem Nums.sliceI {W : World} {base : Nat} {v : Value} {l : List Int} (h : Nums W base v l) : SliceI W v l := by
  obtain ⟨p, cap, rfl, hs⟩ := h.sl
  refine ⟨p, cap, rfl, hs.2.1, by have := hs.2.2.1; unfold maxLen at this; exact this, fun j x hx => ?_⟩
  have hj : j < l.length := (List.getElem?_eq_some_iff.1 hx).1
  obtain ⟨g, f, rfl⟩ := sl_someE hs (by omega)
  exact ⟨g, f, rfl, hs.2.2.2.2.2.2 _ rfl j _ (by rw [List.getElem?_map, hx]; rfl)⟩
theorem sl_part {W : World} {b : Nat} {l : List Int} {t : TypeId} (h : Blk W b (arrV l) t) (o n : Nat) (hon : o + n ≤ l.length) (hm : n ≤ 1000) : SL W b (b + 1) 1 (some ⟨b, o, none⟩) n n (intsV ((l.drop o).take n)) := by
  refine ⟨by rw [List.length_map, List.length_take, List.length_drop]; omega, Nat.le_refl _, by unfold maxLen; omega, h.lt, by simp, fun a ha => ?_, fun a ha j u hu => ?_⟩
  · cases ha; exact ⟨rfl, Nat.le_refl _, by simp⟩
  · cases ha; exact h.range o n hon j u hu
theorem bands_at {W : World} (h : BandsW W) {b : Nat} (hb : b < 4) : W.cell? ⟨0, b, none⟩ = some (.int .i64 (offN b)) ∧ W.cell? ⟨0, b + 1, none⟩ = some (.int .i64 ((offN b + bandN b : Nat) : Int)) := by
  have hb4 : b = 0 ∨ b = 1 ∨ b = 2 ∨ b = 3 := by omega
  have c0 := h.cell 0
  have c1 := h.cell 1
  have c2 := h.cell 2
  have c3 := h.cell 3
  have c4 := h.cell 4
  simp only [List.getElem?_toArray, List.getElem?_cons_zero, List.getElem?_cons_succ] at c0 c1 c2 c3 c4
  rcases hb4 with rfl | rfl | rfl | rfl
  · exact ⟨c0, c1⟩
  · exact ⟨c1, c2⟩
  · exact ⟨c2, c3⟩
  · exact ⟨c3, c4⟩
theorem sl_named {W : World} {lo hi size n cap : Nat} {p : Option Addr} {xs : List Value} (h : SL W lo hi size p n cap xs) : ∃ lo2 hi2, lo = lo2 ∧ hi = hi2 ∧ SL W lo2 hi2 size p n cap xs := ⟨_, _, rfl, rfl, h⟩
theorem ints_each (l : List Int) : ∀ u ∈ intsV l, u.oneCell' = true := fun u hu => by
  obtain ⟨x, _, rfl⟩ := List.mem_map.1 hu
  rfl
/-- A slice's numbers, read. -/
theorem sl_get {W : World} {lo hi n cap g o : Nat} {c : List Int} (h : SL W lo hi 1 (some ⟨g, o, none⟩) n cap (intsV c)) (i : Nat) (hi2 : i < c.length) : W.cell? ⟨g, o + i, none⟩ = some (.int .i64 (c.getD i 0)) :=
  h.2.2.2.2.2.2 _ rfl i _ (ints_get hi2)
set_option maxRecDepth 100000 in
set_option maxHeartbeats 1600000 in
theorem Band_any (l : List Int) (hl : l.length = 16) (b : Nat) (hb : b < 4) (w : World) (hW : BandsW w) :
    Calls Tryz.prog 52 #[.agg (arrV l), .int .i64 b] w fun e w' => ∃ v, e = .returned v ∧ Nums w' w.heap.size v (bandW l b) ∧ Below w.heap.size w w' := by
  obtain ⟨i0, hi, hz0, hz1, hz2⟩ := info_parts infoInts
  have LL := Len.mk hl
  have hbl := bandW_len hl hb
  have hof := off_fits b hb
  have hN8 := bandN_bd hb
  have h0 := hW.lt
  have hm := may_yes b hb
  have hBW : Blk w 0 _ 133 := hW
  have hat := fun W (h : BandsW W) => bands_at h hb
  have hsp := fun W (B : Nat) t (h : Blk W B (arrV l) t) => sl_part h (offN b) (bandN b) (by rw [hl]; exact hof) (by omega)
  have hbw : (l.drop (offN b)).take (bandN b) = bandW l b := rfl
  simp only [hbw] at hsp
  have hcs : (offN b = 0 ∧ bandN b = 2) ∨ (offN b = 2 ∧ bandN b = 2) ∨ (offN b = 4 ∧ bandN b = 4) ∨ (offN b = 8 ∧ bandN b = 8) := by
    have hb4 : b = 0 ∨ b = 1 ∨ b = 2 ∨ b = 3 := by omega
    rcases hb4 with rfl | rfl | rfl | rfl <;> decide
  obtain ⟨C, hC⟩ : ∃ C, bandW l b = C := ⟨_, rfl⟩
  obtain ⟨o, ho⟩ : ∃ o, offN b = o := ⟨_, rfl⟩
  obtain ⟨n, hn⟩ : ∃ n, bandN b = n := ⟨_, rfl⟩
  obtain ⟨e0, he0⟩ : ∃ e, o + n = e := ⟨_, rfl⟩
  simp only [ho, hn, hC, he0] at hat hsp hbl hof hN8 hcs ⊢
  have HAT := Lib.hid hat
  have HSP := Lib.hid hsp
  have hbi : (b : Int) < 4 := by omega
  obtain ⟨b1, hb1⟩ : ∃ x, b + 1 = x := ⟨_, rfl⟩
  rw [hb1] at HAT
  have e1 : (b : Int) + 1 = (b1 : Int) := by omega
  have w1 : IntKind.i64.wrap (b1 : Int) = (b1 : Int) := IntWalk.i64_in _ (by omega)
  have hb15 : (b1 : Int) < 5 := by omega
  have hb5 : (b : Int) < 5 := by omega
  have hb5n : b1 < 5 := by omega
  have hoe : o ≤ e0 := by omega
  have he16 : e0 ≤ 16 := by omega
  have hne : e0 - o = n := by omega
  clear hat hsp hbw hC ho hn hW hb1
  obtain ⟨B, hB⟩ : ∃ B, w.heap.size = B := ⟨_, rfl⟩
  rw [hB] at h0 ⊢
  have hfar := Below.refl B w
  have hsz : B ≤ w.heap.size := by omega
  go_enter Tryz.func52, Tryz.ntmps52
  go_upto_region 1 with (fail)
  refine wp_gen (fun W => Blk W (0) (#[.int .i64 0, .int .i64 2, .int .i64 4, .int .i64 8, .int .i64 16]) 133 ∧ Blk W (B) (arrV l) 32 ∧ Below (B) w W ∧ B + 1 ≤ W.heap.size) ⟨bk_, bk_, bl_, sz_⟩ ?_
  clear hBW hfar hsz
  rintro wa ⟨hBW, hA, hfar, hsz⟩
  go_wp2_with fail
  refine (hm _).mono ?_
  rintro e w' ⟨rfl, rfl⟩
  go_upto_region 3 with (fail)
  go_cut [5, 6] from 10 to 16 (fun s5 s6 wx => s5 = .int .i64 (o : Nat) ∧ s6 = .int .i64 (e0 : Nat) ∧ Blk wx 0 #[.int .i64 0, .int .i64 2, .int .i64 4, .int .i64 8, .int .i64 16] 133 ∧ Blk wx B (arrV l) 32 ∧ Below B w wx ∧ B + 1 ≤ wx.heap.size)
  case first =>
    refine wp_region_held_drew (S := fun W => Blk W (0) (#[.int .i64 0, .int .i64 2, .int .i64 4, .int .i64 8, .int .i64 16]) 133) (by kernel_rfl) (hBW.drew) (fun hH => ?_)
    refine wpAnyH_take (i := 0) (oi := { dst := some 10, op := Op.move (Operand.tmp 1), type := 3, pos := "level.go:38", after := _, guard := none }) (v := _) rfl (by kernel_rfl) (by kernel_rfl) (by kernel_rfl) (fun _ _ _ h => h) (.inl ⟨by rfl, fun w hS => by (go_simp; try rfl)⟩) hH ?_
    try simp only [Act.put, List.setIfInBounds_toArray, List.set_cons_zero, List.set_cons_succ]
    refine wpAnyH_take (i := 1) (oi := { dst := some 11, op := Op.indexAddr 133 (Operand.global 0) (Operand.tmp 10), type := 0, pos := "level.go:38", after := _, guard := none }) (v := _) rfl (by kernel_rfl) (by kernel_rfl) (by kernel_rfl) (fun _ _ _ h => h) (.inl ⟨by rfl, fun w hS => by (go_simp; try rfl)⟩) hH ?_
    try simp only [Act.put, List.setIfInBounds_toArray, List.set_cons_zero, List.set_cons_succ]
    refine wpAnyH_take (i := 2) (oi := { dst := some 12, op := Op.load 3 (Operand.tmp 11), type := 3, pos := "level.go:38", after := _, guard := none }) (v := _) rfl (by kernel_rfl) (by kernel_rfl) (by kernel_rfl) (fun _ _ _ h => h) (.inl ⟨by rfl, fun w hS => by (have c := (HAT.out _ hS).1; go_simp; try rfl)⟩) hH ?_
    try simp only [Act.put, List.setIfInBounds_toArray, List.set_cons_zero, List.set_cons_succ]
    refine wpAnyH_take (i := 3) (oi := { dst := some 13, op := Op.move (Operand.tmp 1), type := 3, pos := "level.go:38", after := _, guard := none }) (v := _) rfl (by kernel_rfl) (by kernel_rfl) (by kernel_rfl) (fun _ _ _ h => h) (.inl ⟨by rfl, fun w hS => by (go_simp; try rfl)⟩) hH ?_
    try simp only [Act.put, List.setIfInBounds_toArray, List.set_cons_zero, List.set_cons_succ]
    refine wpAnyH_take (i := 4) (oi := { dst := some 14, op := Op.binOp BinOp.add 3 (Operand.tmp 13) (Operand.const (Value.int IntKind.i64 1)) 3, type := 3, pos := "level.go:38", after := _, guard := none }) (v := _) rfl (by kernel_rfl) (by kernel_rfl) (by kernel_rfl) (fun _ _ _ h => h) (.inl ⟨by rfl, fun w hS => by (go_simp; try rfl)⟩) hH ?_
    try simp only [Act.put, List.setIfInBounds_toArray, List.set_cons_zero, List.set_cons_succ]
    refine wpAnyH_take (i := 5) (oi := { dst := some 15, op := Op.indexAddr 133 (Operand.global 0) (Operand.tmp 14), type := 0, pos := "level.go:38", after := _, guard := none }) (v := _) rfl (by kernel_rfl) (by kernel_rfl) (by kernel_rfl) (fun _ _ _ h => h) (.inl ⟨by rfl, fun w hS => by (go_simp; try rfl)⟩) hH ?_
    try simp only [Act.put, List.setIfInBounds_toArray, List.set_cons_zero, List.set_cons_succ]
    refine wpAnyH_take (i := 6) (oi := { dst := some 16, op := Op.load 3 (Operand.tmp 15), type := 3, pos := "level.go:38", after := _, guard := none }) (v := _) rfl (by kernel_rfl) (by kernel_rfl) (by kernel_rfl) (fun _ _ _ h => h) (.inl ⟨by rfl, fun w hS => by (have c := (HAT.out _ hS).2; go_simp; try rfl)⟩) hH ?_
    try simp only [Act.put, List.setIfInBounds_toArray, List.set_cons_zero, List.set_cons_succ]
    refine wpAnyH_take (i := 7) (oi := { dst := some 5, op := Op.assign (Operand.tmp 12), type := 3, pos := "level.go:38", after := _, guard := none }) (v := _) rfl (by kernel_rfl) (by kernel_rfl) (by kernel_rfl) (fun _ _ _ h => h) (.inl ⟨by rfl, fun w hS => by (go_simp; try rfl)⟩) hH ?_
    try simp only [Act.put, List.setIfInBounds_toArray, List.set_cons_zero, List.set_cons_succ]
    refine wpAnyH_take (i := 8) (oi := { dst := some 6, op := Op.assign (Operand.tmp 16), type := 3, pos := "level.go:38", after := _, guard := none }) (v := _) rfl (by kernel_rfl) (by kernel_rfl) (by kernel_rfl) (fun _ _ _ h => h) (.inl ⟨by rfl, fun w hS => by (go_simp; try rfl)⟩) hH ?_
    try simp only [Act.put, List.setIfInBounds_toArray, List.set_cons_zero, List.set_cons_succ]
    refine wpAnyH_done (by kernel_rfl) ?_ _
    go_wp2_with fail
    go_meet
    case rel => exact ⟨rfl, rfl, by exact bk_, by exact bk_, by exact bl_, by exact sz_⟩
  case rest =>
    clear hBW hA hfar hsz
    obtain ⟨rfl, rfl, hBW, hA, hfar, hsz⟩ := hcut
    have hsl := HSP.out _ _ _ hA
    have hrow0 : OW wc B B 3 1 (.slice none 0 0) 0 [] := OW.nil _ _ _ _ _ (by omega)
    have hcs2 : (o = 0 ∧ e0 = 2 ∧ n = 2) ∨ (o = 2 ∧ e0 = 4 ∧ n = 2) ∨ (o = 4 ∧ e0 = 8 ∧ n = 4) ∨ (o = 8 ∧ e0 = 16 ∧ n = 8) := by omega
    clear hcs hof hoe he16 hne hN8 he0
    rcases hcs2 with ⟨rfl, rfl, rfl⟩ | ⟨rfl, rfl, rfl⟩ | ⟨rfl, rfl, rfl⟩ | ⟨rfl, rfl, rfl⟩
    all_goals
      go_wp2_with (refine ap 62 rfl (by rfl) rfl B 3 i0 (.int .i64 0) 1 8 Tryz.underlying62 hi hz0 hz1 hz2 rfl (by omega) rfl hrow0.1 rfl hsl (ints_each _) (by unfold maxLen; omega) (by omega) (by omega) ?_; intro v' w3 hown hgr _)
      go_ret
      have hf3 : Below B w w3 := hfar.grown hgr (by omega) (fun j hj => by have h : (none : Option Nat) = some j := hj; cases h)
      refine ⟨v', rfl, ?_, by (try rw [hB]); exact hf3⟩
      unfold Nums
      rw [hbl]
      rw [Nat.zero_add] at hown
      exact OW.mk0 hown
theorem Len.set4 {l : List Int} (h : l.length = 4) (i : Nat) (x : Int) : (l.set i x).length = 4 := by rw [List.length_set, h]
/-- A row that turns from the front on. -/
def turnF (f o : List Int) (k : Nat) : List Int := f.take k ++ o.drop k
theorem turnF_zero (f o : List Int) : turnF f o 0 = o := by simp [turnF]
theorem turnF_all {f o : List Int} {n : Nat} (h : f.length = n) (ho : o.length = n) : turnF f o n = f := by
  subst h
  unfold turnF; rw [List.take_length, List.drop_of_length_le (by omega), List.append_nil]
theorem turnF_len {f o : List Int} {n k : Nat} (h : f.length = n) (ho : o.length = n) (hk : k ≤ n) : Len (turnF f o k) n := by
  apply Len.mk
  unfold turnF; rw [List.length_append, List.length_take, List.length_drop]; omega
theorem turnF_set {f o : List Int} {n k : Nat} {x : Int} (h : f.length = n) (ho : o.length = n) (hk : k < n) (hx : f.getD k 0 = x) : (turnF f o k).set k x = turnF f o (k + 1) := by
  subst hx
  unfold turnF
  have hl : (f.take k).length = k := by rw [List.length_take]; omega
  have hd : o.drop k = o[k]'(by omega) :: o.drop (k + 1) := List.drop_eq_getElem_cons (by omega)
  have ht : f.take (k + 1) = f.take k ++ [f.getD k 0] := by rw [List.take_add_one, List.getElem?_eq_getElem (by omega), List.getD_eq_getElem?_getD, List.getElem?_eq_getElem (by omega)]; rfl
  rw [List.set_append, if_neg (by omega), hl, Nat.sub_self, hd, List.set_cons_zero, ht, List.append_assoc, List.singleton_append]
set_option maxRecDepth 100000 in
set_option maxHeartbeats 4000000 in
theorem Levels_any (l : List Int) (hw : WavesOk l) (w : World) (hW : BandsW w) : Calls Tryz.prog 19 #[.agg (arrV l)] w fun e w' => e = .returned (.agg (arrV (levelsL l))) ∧ Below w.heap.size w w' := by
  have hl := hw.1
  have LL := Len.mk hl
  have h0 := hW.lt
  have hBW : Blk w 0 _ 133 := hW
  have hba := fun b hb w hW => Band_any l hl b hb w hW
  have hbl := fun b (hb : b < 4) => bandW_len hl hb
  have hbm := fun b x (h : x ∈ bandW l b) => hw.2 x (bandW_mem h)
  have hlv := fun b (hb : b < 4) => levelsL_get l hb
  have LV := Len.mk (levelsL_ok l).1
  obtain ⟨V, hV⟩ : ∃ V, levelsL l = V := ⟨_, rfl⟩
  simp only [hV] at hlv LV ⊢
  have HBA := Lib.hid hba
  have HBL := Lib.hid hbl
  have HBM := Lib.hid hbm
  have HLV := Lib.hid hlv
  clear hba hbl hbm hlv hV hW hw hl
  obtain ⟨B, hB⟩ : ∃ B, w.heap.size = B := ⟨_, rfl⟩
  rw [hB] at h0
  have hfar := Below.refl B w
  have hsz : B ≤ w.heap.size := by omega
  have hz4 : (zs 4).length = 4 := Len.zs 4
  go_enter Tryz.func19, Tryz.ntmps19
  go_upto_region 2 with (fail)
  refine wp_gen (fun W => Blk W (0) (#[.int .i64 0, .int .i64 2, .int .i64 4, .int .i64 8, .int .i64 16]) 133 ∧ Blk W (B) (arrV l) 32 ∧ Blk W (B + 1) (arrV (zs 4)) 23 ∧ Blk W (B + 1 + 1) (arrV (zs 4)) 23 ∧ Below (B) w W ∧ B + 3 ≤ W.heap.size) ⟨bk_, bk_, bk_, bk_, bl_, sz_⟩ ?_
  clear hBW hfar hsz
  rintro w1 ⟨hBW, hA, hR, hO, hfar, hsz⟩
  go_wp2_with fail
  go_loopw [5] (fun i wr => ∃ k : Nat, k ≤ 4 ∧ i = .int .i64 k ∧ Blk wr 0 #[.int .i64 0, .int .i64 2, .int .i64 4, .int .i64 8, .int .i64 16] 133 ∧ Blk wr B (arrV l) 32 ∧ Blk wr (B + 1) (arrV (zs 4)) 23 ∧ Blk wr (B + 1 + 1) (arrV (turnF V (zs 4) k)) 23 ∧ Below B w wr ∧ B + 3 ≤ wr.heap.size) (fun i _ => 4 - (intOf i).toNat)
  case atStart => exact ⟨0, by omega, rfl, hBW, hA, hR, by rw [turnF_zero]; exact hO, hfar, hsz⟩
  case round =>
    clear hBW hA hR hO hfar hsz
    obtain ⟨k, hk, rfl, hBW, hA, hR, hO, hfar, hsz⟩ := hrel
    by_cases hlt : k < 4
    · have hlti : (k : Int) < 4 := by omega
      have hset := turnF_set (k := k) LV.out hz4 hlt (HLV.out k hlt)
      have LT := turnF_len (k := k) LV.out hz4 (Nat.le_of_lt hlt)
      have hC := HBL.out k hlt
      have hCm := HBM.out k
      have hN8 := bandN_bd hlt
      have hba := HBA.out k hlt
      obtain ⟨C, hCe⟩ : ∃ C, bandW l k = C := ⟨_, rfl⟩
      obtain ⟨T, hT⟩ : ∃ T, turnF V (zs 4) k = T := ⟨_, rfl⟩
      rw [hT] at hset hO LT
      simp only [hCe] at hset hC hCm hba
      have hs0 := sizes_nn C
      have hs1 := sizes_le (l := C) (B := 8388608) hCm
      rw [hC] at hs1
      have hsum := fun W v (h : SliceI W v C) => sumG_any C v W h (by omega) hCm
      have hlen : levOf C = min ((Lib.bitLen (Sp.sizes C).toNat : Nat) : Int) 20 := rfl
      have hL := fun W => Length_any (Sp.sizes C) hs0 (by omega) W
      obtain ⟨sc, hsc⟩ : ∃ x, Sp.sizes C = x := ⟨_, rfl⟩
      rw [hsc] at hlen
      simp only [hsc] at hsum hL
      obtain ⟨bl, hbl⟩ : ∃ x, Lib.bitLen sc.toNat = x := ⟨_, rfl⟩
      rw [hbl] at hlen
      simp only [hbl] at hL
      rw [hlen] at hset
      obtain ⟨y, hy⟩ : ∃ y, min (bl : Int) 20 = y := ⟨_, rfl⟩
      rw [hy] at hset
      have HSET := Lib.hid hset
      have HBA1 := Lib.hid hba
      have HSUM := Lib.hid hsum
      have HLN := Lib.hid hL
      clear hset hba hsum hL hlen hbl hs0 hs1 hsc hT hCe hC hCm
      go_upto_region 5 with (fail)
      go_wp2_with (refine ld 32 rfl (by rfl) w_Block rfl hA LL.sz ?_)
      refine (HBA1.out _ hBW).mono ?_
      rintro e w2 ⟨v2, rfl, hv2, hb2⟩
      replace hBW := hBW.newB hb2
      replace hA := hA.newB hb2
      replace hR := hR.newB hb2
      replace hO := hO.newB hb2
      replace hfar := hfar.trans (hb2.mono (by omega))
      replace hsz := Nat.le_trans hsz hb2.size
      go_wp2_with fail
      refine (HSUM.out _ _ hv2.sliceI).mono ?_
      rintro e w' ⟨rfl, rfl⟩
      go_wp2_with fail
      refine (HLN.out _).mono ?_
      rintro e w' ⟨rfl, rfl⟩
      have c2 := (hO.cell k).trans (arr_get (l := T) (by rw [LT.out]; omega))
      have f2 := hO.frozen k
      go_wp2_with fail
      go_roundw
      case rel => exact ⟨k + 1, hlt, by go_num, by exact bk_, by exact bk_, by exact bk_, by rw [← HSET.out]; exact bk_, by exact bl_, by exact sz_⟩
      case measure => simp [intOf]; omega
    · obtain rfl : k = 4 := by omega
      rw [turnF_all LV.out hz4] at hO
      go_wp2_with (first | (refine ld 23 rfl (by rfl) w_Four rfl hO LV.sz ?_) | (refine st 23 rfl (by rfl) w_Four rfl rfl bk_ lz_ LV.sz one_ ?_))
      exact bodyPost_ret (v := .agg (arrV V)) (res_c Tryz.results19 rfl w_Four (by exact bk_) LV.sz) rfl ⟨rfl, (by (try rw [hB]); exact bl_)⟩
end Go.Proofs.YthpjkgpngbdhbaaGreatDoor
