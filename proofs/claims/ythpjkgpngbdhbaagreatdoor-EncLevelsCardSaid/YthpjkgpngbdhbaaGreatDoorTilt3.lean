/- The walk of tilt.Lift: high tones lifted. -/
import Derived.Test.YthpjkgpngbdhbaaGreatDoorLot7
import Derived.Test.YthpjkgpngbdhbaaGreatDoorLot6
set_option linter.unusedSimpArgs false
set_option linter.unusedVariables false
namespace Go.Proofs.YthpjkgpngbdhbaaGreatDoor
open Go.RowKit

/-- Samples made one by one: what each becomes, and what goes on. -/
def scan2 (o nx : Int → Int → Int) : Int → List Int → List Int
  | _, [] => []
  | s, x :: r => o s x :: scan2 o nx (nx s x) r
theorem scan2_len (o nx : Int → Int → Int) : ∀ (l : List Int) (s : Int), (scan2 o nx s l).length = l.length := by
  intro l
  induction l with
  | nil => intro _; rfl
  | cons x r ih => intro s; simp [scan2, ih]
theorem scan2_append (o nx : Int → Int → Int) (x : Int) : ∀ (l : List Int) (s : Int), scan2 o nx s (l ++ [x]) = scan2 o nx s l ++ [o (l.foldl nx s) x] := by
  intro l
  induction l with
  | nil => intro _; rfl
  | cons y r ih => intro s; simp [scan2, ih]
theorem scan2_step (o nx : Int → Int → Int) {l : List Int} {k : Nat} {x : Int} (hx : l[k]? = some x) (s : Int) : (scan2 o nx s (l.take k) ++ l.drop k).set k (o ((l.take k).foldl nx s) x) = scan2 o nx s (l.take (k + 1)) ++ l.drop (k + 1) := by
  have hk : k < l.length := (List.getElem?_eq_some_iff.1 hx).1
  have hlen : (scan2 o nx s (l.take k)).length = k := by rw [scan2_len, List.length_take]; omega
  have hd : l.drop k = x :: l.drop (k + 1) := by
    rw [List.drop_eq_getElem_cons hk]
    congr 1
    exact (List.getElem?_eq_some_iff.1 hx).2
  rw [List.take_add_one, hx, Option.toList_some, scan2_append, hd, List.set_append, if_neg (by omega), hlen, Nat.sub_self]
  simp
theorem lift_scan : ∀ (l : List Int) (s : Int), liftG s l = scan2 lift1 (fun _ x => Sp.cut 22 x) s l := by
  intro l
  induction l with
  | nil => intro _; rfl
  | cons x r ih => intro s; simp [liftG, scan2, ih]
set_option maxRecDepth 100000 in
set_option maxHeartbeats 1600000 in
theorem each2_any (f : FuncId) (p : Value) (T : Nat → Prop) (St : Int → World → Prop) (hst : ∀ s W W', St s W → (∀ k, T k → W'.heap[k]? = W.heap[k]?) → St s W') (o nx : Int → Int → Int) (l : List Int) (hl : l.length = 16) (s : Int) (w : World) (hT : ∀ k, T k → k < w.heap.size) (hs : St s w)
    (hcf : ∀ (x : Int) (w : World), (callFunc f #[.int .i64 x, p]).run Tryz.prog w = .ok (.enter f #[.int .i64 x, p]) w)
    (hf : ∀ s x W, St s W → Calls Tryz.prog f #[.int .i64 x, p] W fun e W' => e = .returned (.int .i64 (o s x)) ∧ St (nx s x) W' ∧ Kept T W W') :
    Calls Tryz.prog 48 #[.agg (arrV l), .func (.func f) #[] #[p]] w fun e w' => e = .returned (.agg (arrV (scan2 o nx s l))) ∧ St (l.foldl nx s) w' ∧ Kept T w w' := by
  obtain ⟨hA, hR, hk0, hs0⟩ := two_new T w (arrV l) #[.int .i64 0, .int .i64 0, .int .i64 0, .int .i64 0, .int .i64 0, .int .i64 0, .int .i64 0, .int .i64 0, .int .i64 0, .int .i64 0, .int .i64 0, .int .i64 0, .int .i64 0, .int .i64 0, .int .i64 0, .int .i64 0] 32 32
  obtain ⟨B, hB⟩ : ∃ B, w.heap.size = B := ⟨_, rfl⟩
  have hTB : ∀ k, T k → k < B := fun k hk => by have := hT k hk; omega
  have hidx := fun k (hk : k < 16) (w : World) => run_index_arr 32 16 l hl Tryz.underlying32 k hk w
  have HI := Lib.hid hidx
  have HF := Lib.hid hf
  have HST := Lib.hid hst
  have hsz : (Tryz.prog.info? 32).map (·.size) = some (arrV l).size := by rw [arr_size, hl]; exact blockInfo
  have hz : (arrV (List.replicate 16 0)).size = 16 := by rw [arr_size]; rfl
  have hSt0 : St s ((w.alloc (.cells (arrV l) 32)).alloc (.cells #[.int .i64 0, .int .i64 0, .int .i64 0, .int .i64 0, .int .i64 0, .int .i64 0, .int .i64 0, .int .i64 0, .int .i64 0, .int .i64 0, .int .i64 0, .int .i64 0, .int .i64 0, .int .i64 0, .int .i64 0, .int .i64 0] 32)) := hst _ _ _ hs (fun k hk => by
    rw [Below.heap_alloc _ _ _ (by have := hT k hk; simp; omega), Below.heap_alloc _ _ _ (hT k hk)])
  clear hidx hf hst hs hT
  go_enter Tryz.func48, Tryz.ntmps48
  go_upto_region 1 with (fail)
  simp only [hB] at hA hR hs0 ⊢
  revert hA hR hk0 hs0 hSt0
  generalize ((w.alloc (.cells (arrV l) 32)).alloc (.cells #[.int .i64 0, .int .i64 0, .int .i64 0, .int .i64 0, .int .i64 0, .int .i64 0, .int .i64 0, .int .i64 0, .int .i64 0, .int .i64 0, .int .i64 0, .int .i64 0, .int .i64 0, .int .i64 0, .int .i64 0, .int .i64 0] 32)) = w0
  intro hk0 hSt0 hA hR hs0
  rw [zero16] at hR
  go_wp2_with (first | (refine wpList_load_blk rfl 32 (.tmp 2) rfl B rfl (arrV l) 32 hA Tryz.underlying32 hsz ?_))
  go_loopw [8] (fun i wr => ∃ k : Nat, k ≤ 16 ∧ i = .int .i64 k ∧ Blk wr B (arrV (scan2 o nx s (l.take k) ++ l.drop k)) 32 ∧ Blk wr (B + 1) (arrV (List.replicate 16 0)) 32 ∧ St ((l.take k).foldl nx s) wr ∧ Kept T w wr) (fun i _ => 16 - (intOf i).toNat)
  case atStart => exact ⟨0, by omega, rfl, hA, hR, hSt0, hk0⟩
  case round =>
    obtain ⟨k, hk, rfl, hA, hR, hS, hK⟩ := hrel
    by_cases hlt : k < 16
    · have hi := HI.out k hlt
      have hx : l[k]? = some (l.getD k 0) := by rw [List.getD_eq_getElem?_getD, List.getElem?_eq_getElem (by omega)]; rfl
      obtain ⟨x, hxe⟩ : ∃ x, l.getD k 0 = x := ⟨_, rfl⟩
      rw [hxe] at hi hx
      obtain ⟨S, hSe⟩ : ∃ S, (l.take k).foldl nx s = S := ⟨_, rfl⟩
      rw [hSe] at hS
      have hcall := HF.out S x wr hS
      have hfold : (l.take (k + 1)).foldl nx s = nx S x := by rw [List.take_add_one, hx]; simp [hSe]
      have hrow : (scan2 o nx s (l.take k) ++ l.drop k).set k (o S x) = scan2 o nx s (l.take (k + 1)) ++ l.drop (k + 1) := by have h := scan2_step o nx hx s; rwa [hSe] at h
      have HFO := Lib.hid hfold
      have HRO := Lib.hid hrow
      obtain ⟨y, hy⟩ : ∃ y, o S x = y := ⟨_, rfl⟩
      rw [hy] at hcall HRO
      obtain ⟨z, hz2⟩ : ∃ z, nx S x = z := ⟨_, rfl⟩
      rw [hz2] at hcall HFO
      have hlen : (scan2 o nx s (l.take k) ++ l.drop k).length = 16 := by rw [List.length_append, scan2_len, List.length_take, List.length_drop, hl]; omega
      obtain ⟨L, hL⟩ : ∃ L, scan2 o nx s (l.take k) ++ l.drop k = L := ⟨_, rfl⟩
      rw [hL] at hA HRO hlen
      clear hxe hx hSe hfold hrow hy hz2 hL
      go_wp2_with fail
      refine hcall.mono ?_
      rintro e w1 ⟨rfl, hS1, hK1⟩
      have hA1 := hA.keep hK1 (fun h => by have := hTB _ h; omega)
      have hR1 := hR.keep hK1 (fun h => by have := hTB _ h; omega)
      have hKK := hK.trans hK1
      have c1 := (hA1.cell k).trans (arr_get (by rw [hlen]; exact hlt))
      have f1 := hA1.frozen k
      have hA2 := hA1.set k (.int .i64 y)
      rw [arr_set, HRO.out] at hA2
      have hR2 := hR1.other (a := ⟨B, k, none⟩) (by simp only []; omega) (.int .i64 y)
      have hS2 : St z (w1.setCell ⟨B, k, none⟩ (.int .i64 y)) := HST.out _ _ _ hS1 (fun j hj => Below.heap_setCell _ _ _ _ (fun e => by have := hTB _ hj; simp only at e; omega))
      have hK2 := hKK.setCell (p := ⟨B, k, none⟩) (Or.inr (by show w.heap.size ≤ B; omega)) (.int .i64 y)
      go_wp2_with fail
      go_roundw
      case rel => exact ⟨k + 1, hlt, by go_num, hA2, hR2, by rw [HFO.out]; exact hS2, hK2⟩
      case measure => simp [intOf]; omega
    · obtain rfl : k = 16 := by omega
      have et : l.take 16 = l := List.take_of_length_le (by omega)
      have ed : l.drop 16 = [] := List.drop_of_length_le (by omega)
      rw [et, ed, List.append_nil] at hA
      rw [et] at hS
      have hlen : (scan2 o nx s l).length = 16 := by rw [scan2_len, hl]
      obtain ⟨L, hL⟩ : ∃ L, scan2 o nx s l = L := ⟨_, rfl⟩
      have HL := Lib.hid hL
      rw [hL] at hA hlen
      have hsz2 : (Tryz.prog.info? 32).map (·.size) = some (arrV L).size := by rw [arr_size, hlen]; exact blockInfo
      have hsz3 : (arrV (List.replicate 16 0)).size = (arrV L).size := by rw [hz, arr_size, hlen]
      have hR3 := hR.setRow (new := arrV L)
      have hS3 : St (l.foldl nx s) (wr.setRow (B + 1) (arrV L)) := HST.out _ _ _ hS (fun j hj => setRow_other wr (B + 1) j _ (by have := hTB _ hj; omega))
      have hK3 := hK.setRow (g := B + 1) (Or.inr (by omega)) (arrV L)
      clear hL et ed hsz hS hK
      go_wp2_with (first | (refine wpList_load_blk rfl 32 (.tmp 2) rfl B rfl (arrV L) 32 hA Tryz.underlying32 hsz2 ?_) | (refine wpList_store_blk rfl 32 (.tmp 4) (.tmp 18) rfl (B + 1) _ (arrV L) rfl rfl 32 hR hsz2 hsz3 (arr_one _) ?_))
      exact bodyPost_ret (v := .agg (arrV L)) (results_cell_row Tryz.results48 _ _ (B + 1) 32 _ (0, 0) (.array 16 3) rfl hR3 Tryz.underlying32 rfl hsz2) rfl ⟨by rw [HL.out], hS3, hK3⟩
set_option maxHeartbeats 1600000 in
theorem Lift1_any (g : Nat) (s x : Int) (h0 : -2097152 ≤ s) (h1 : s ≤ 2097151) (w : World) (hB : Blk w g #[.int .i64 s] 3) :
    Calls Tryz.prog 49 #[.int .i64 x, .pointer (some ⟨g, 0, none⟩)] w fun e w' => e = .returned (.int .i64 (lift1 s x)) ∧ Blk w' g #[.int .i64 (Sp.cut 22 x)] 3 ∧ Kept (· = g) w w' := by
  have c0 := hB.cell 0
  simp only [List.getElem?_toArray, List.getElem?_cons_zero] at c0
  have f0 := hB.frozen 0
  have q1 := td_bd (27853 * s) 58412449792 (by omega) (by omega)
  have hl : lift1 s x = Sp.cut 22 x - (27853 * s).tdiv 32768 := rfl
  obtain ⟨q, hq⟩ : ∃ q, (27853 * s).tdiv 32768 = q := ⟨_, rfl⟩
  have hc1 := fun w => tcut_any x w
  have b1 := cut22_bd x
  obtain ⟨c, hc⟩ : ∃ c, Sp.cut 22 x = c := ⟨_, rfl⟩
  rw [hq] at q1 hl
  rw [hc] at b1 hl ⊢
  simp only [hc] at hc1
  have w1 : IntKind.i64.wrap (27853 * s) = 27853 * s := IntWalk.i64_in _ (by omega)
  have w3 : IntKind.i64.wrap (c - q) = c - q := IntWalk.i64_in _ (by omega)
  have w2 : IntKind.i64.wrap q = q := IntWalk.i64_in _ (by omega)
  rw [hl]
  clear hl hc
  go_enter Tryz.func49, Tryz.ntmps49
  go_upto_region 1 with (fail)
  go_cut [4] from 5 to 10 (fun s4 wx => s4 = .int .i64 (c - q) ∧ ∃ m, wx = w.drewN m)
  case first =>
    go_region_with (first | (go_at_call_of 47 x; refine (hc1 _).mono ?_; rintro r5 w5 ⟨rfl, rfl⟩))
    all_goals
      go_wp2_with fail
      go_meet
      case rel => exact ⟨by first | rfl | simp, 1, rfl⟩
  case rest =>
    obtain ⟨rfl, m, rfl⟩ := hcut
    have hB2 : Blk (w.drewN m) g #[.int .i64 s] 3 := hB
    have c0 : (w.drewN m).cell? ⟨g, 0, none⟩ = some (.int .i64 s) := c0
    have f0 := hB2.frozen 0
    go_wp2_with fail
    refine (hc1 _).mono ?_
    rintro r5 w5 ⟨rfl, rfl⟩
    go_wp2_with fail
    go_ret
    refine ⟨rfl, ?_, ?_⟩
    · repeat' (first | (with_reducible assumption) | (with_reducible refine Blk.drew ?_) | (with_reducible refine Blk.drewN ?_ _) | (with_reducible apply Blk.set1) | ((with_reducible refine Blk.other ?_ ?ne _); case ne => (first | (simp only []; omega) | omega)) | (with_reducible refine Blk.alloc ?_ _))
    · repeat (first | (with_reducible exact Kept.refl _ _) | (with_reducible assumption) | (with_reducible refine Kept.drew ?_) | (with_reducible refine Kept.drewN ?_ _) | ((with_reducible refine Kept.setCell ?_ ?hp _); case hp => (first | exact Or.inl rfl | (left; simp; done) | (right; simp only [World.size_alloc, World.size_setCell, World.size_drew]; omega))) | (with_reducible refine Kept.alloc ?_ _))
set_option maxRecDepth 100000 in
set_option maxHeartbeats 1600000 in
theorem Lift_any (last : Int) (l : List Int) (hl : l.length = 16) (w : World) : Calls Tryz.prog 18 #[.int .i64 last, .agg (arrV l)] w fun e w' => e = .returned (.tuple #[.agg (arrV (liftL last l)), .int .i64 (liftN last l)]) ∧ Below w.heap.size w w' := by
  have LL := Len.mk hl
  obtain ⟨B, hB⟩ : ∃ B, w.heap.size = B := ⟨_, rfl⟩
  have hcall := fun W h1 h2 => each2_any 49 (.pointer (some ⟨B, 0, none⟩)) (· = B) (fun s W => Blk W B #[.int .i64 s] 3 ∧ -2097152 ≤ s ∧ s ≤ 2097151) (fun s W W' h hk => ⟨(hk B rfl).trans h.1, h.2⟩) lift1 (fun _ x => Sp.cut 22 x) l hl (Sp.cut 22 last) W h1 h2 (fun _ _ => by kernel_rfl)
    (fun s x W h => (Lift1_any B s x h.2.1 h.2.2 W h.1).mono fun e W' ⟨e1, e2, e3⟩ => ⟨e1, ⟨e2, cut22_bd x⟩, e3⟩)
  simp only [← lift_scan] at hcall
  have hLL : liftG (Sp.cut 22 last) l = liftL last l := rfl
  have hNN : l.foldl (fun _ x => Sp.cut 22 x) (Sp.cut 22 last) = liftN last l := rfl
  have hol : (liftL last l).length = 16 := by rw [liftL_len, hl]
  simp only [hLL, hNN] at hcall
  obtain ⟨L, hL⟩ : ∃ L, liftL last l = L := ⟨_, rfl⟩
  obtain ⟨n, hn⟩ : ∃ n, liftN last l = n := ⟨_, rfl⟩
  rw [hL] at hol
  simp only [hL, hn] at hcall ⊢
  have LO := Len.mk hol
  have HC := Lib.hid hcall
  have hcut := fun w => tcut_any last w
  have hcb := cut22_bd last
  obtain ⟨c, hc⟩ : ∃ c, Sp.cut 22 last = c := ⟨_, rfl⟩
  rw [hc] at hcb HC
  simp only [hc] at hcut
  have HCUT := Lib.hid hcut
  clear hcall hL hn hLL hNN hc hcut hol
  have hfar := Below.refl B w
  have hsz : B ≤ w.heap.size := by omega
  go_enter Tryz.func18, Tryz.ntmps18
  go_upto_region 1 with (fail)
  refine wp_gen (fun W => Blk W (B) (#[.int .i64 last]) 3 ∧ Blk W (B + 1) (arrV l) 32 ∧ Blk W (B + 1 + 1) (arrV (zs 16)) 32 ∧ Below (B) w W ∧ B + 3 ≤ W.heap.size) ⟨bk_, bk_, bk_, bl_, sz_⟩ ?_
  clear hfar hsz
  rintro w1 ⟨hA, hB1, hR, hfar, hsz⟩
  have c0 := hA.cell 0
  simp only [List.getElem?_toArray, List.getElem?_cons_zero] at c0
  have f0 := hA.frozen 0
  go_wp2_with fail
  refine (HCUT.out _).mono ?_
  rintro e w' ⟨rfl, rfl⟩
  go_upto_region 2 with (fail)
  refine wp_gen (fun W => Blk W (B) (#[.int .i64 c]) 3 ∧ Blk W (B + 1) (arrV l) 32 ∧ Blk W (B + 1 + 1) (arrV (zs 16)) 32 ∧ Below (B) w W ∧ B + 3 ≤ W.heap.size) ⟨bk_, bk_, bk_, bl_, sz_⟩ ?_
  clear hA hB1 hR hfar hsz
  rintro w2 ⟨hA, hB1, hR, hfar, hsz⟩
  clear c0 f0
  go_wp2_with (refine ld 32 rfl (by rfl) w_Block rfl hB1 LL.sz ?_)
  refine (HC.out _ (fun k hk => by subst hk; omega) ⟨hA, hcb⟩).mono ?_
  rintro e w3 ⟨rfl, ⟨hA3, hn0, hn1⟩, hK3⟩
  have hR3 := hR.keep hK3 (by omega)
  have hb3 : Below B w w3 := hfar.trans (hK3.below (fun k hk => by have h : k = B := hk; omega) (by omega))
  have hs3' := hK3.size
  obtain ⟨g6, hg6⟩ : ∃ g, w3.heap.size = g := ⟨_, rfl⟩
  have hg7 : B + 3 ≤ g6 := by omega
  clear hA hB1 hR hfar hsz
  have hA := hA3
  have hR := hR3
  have hfar := hb3
  have hsz : B + 3 ≤ w3.heap.size := by omega
  clear hA3 hR3 hb3
  go_upto_region 3 with (refine st 32 rfl (by rfl) w_Block rfl rfl bk_ lz_ lz_ one_ ?_)
  refine wp_gen (fun W => Blk W (B) (#[.int .i64 n]) 3 ∧ Blk W (B + 1 + 1) (arrV (zs 16)) 32 ∧ Blk W (g6) (arrV L) 32 ∧ Below (B) w W ∧ g6 + 1 ≤ W.heap.size) ⟨bk_, bk_, bk_, bl_, sz_⟩ ?_
  clear hA hR hfar hsz
  rintro w4 ⟨hA, hR, hO, hfar, hsz⟩
  refine wp_region_held_drew (S := fun W => Blk W (B) (#[.int .i64 n]) 3 ∧ Blk W (g6) (arrV L) 32) (by kernel_rfl) ⟨hA.drew, hO.drew⟩ (fun hH => ?_)
  refine wpAnyH_take (i := 0) (oi := { dst := some 12, op := Op.load 32 (Operand.tmp 6), type := 32, pos := "tilt.go:36", after := _, guard := none }) (v := .agg (arrV L)) rfl (by kernel_rfl) (by kernel_rfl) (by kernel_rfl) (fun _ _ _ h => h) (yieldsIf_ld (by rfl) 32 rfl w_Block rfl (fun _ hS => hS.2) zz_) hH ?_
  try simp only [Act.put, List.setIfInBounds_toArray, List.set_cons_zero, List.set_cons_succ]
  refine wpAnyH_take (i := 1) (oi := { dst := some 13, op := Op.load 3 (Operand.tmp 2), type := 3, pos := "tilt.go:36", after := _, guard := none }) (v := _) rfl (by kernel_rfl) (by kernel_rfl) (by kernel_rfl) (fun _ _ _ h => h) (.inl ⟨by rfl, fun w hS => by (have c := (show w.cell? ⟨B, 0, none⟩ = some (.int .i64 n) from by simpa using hS.1.cell 0); go_simp; try rfl)⟩) hH ?_
  try simp only [Act.put, List.setIfInBounds_toArray, List.set_cons_zero, List.set_cons_succ]
  refine wpAnyH_ready (rs := [2]) (by kernel_rfl) (by simp) ?_
  refine AllReadyH.cons (o := { dst := none, op := Op.store 32 (Operand.tmp 4) (Operand.tmp 12), type := 0, pos := "tilt.go:36", after := _, guard := none }) rfl (fun K hK => ?_) AllReadyH.nil
  rw [if_pos (by rfl)]
  refine wp_st 32 rfl w_Block rfl rfl bk_ zz_ zz_ one_ ?_
  refine hK.out _ _ ⟨bk_, bk_⟩ (fun hH => ?_)
  clear hK K
  try simp only [Act.put]
  refine wpAnyH_take (i := 3) (oi := { dst := some 5, op := Op.assign (Operand.tmp 13), type := 3, pos := "tilt.go:36", after := _, guard := none }) (v := _) rfl (by kernel_rfl) (by kernel_rfl) (by kernel_rfl) (fun _ _ _ h => h) (.inl ⟨by rfl, fun w hS => by (go_simp; try rfl)⟩) hH ?_
  try simp only [Act.put, List.setIfInBounds_toArray, List.set_cons_zero, List.set_cons_succ]
  refine wpAnyH_done (by kernel_rfl) ?_ _
  go_wp2_with fail
  exact bodyPost_ret (v := .tuple #[.agg (arrV L), .int .i64 n]) (res_ct Tryz.results18 rfl w_Block (by exact bk_) LO.sz rfl) rfl ⟨rfl, (by (try rw [hB]); exact bl_)⟩
end Go.Proofs.YthpjkgpngbdhbaaGreatDoor
