/- The walk of tilt.Lift: high tones lifted. The walks of package level: a band's waves, sums, levels. The walks of slices.Grow and slices.Concat of numbers. The walk of mdct.Waves: two frames' waves. The walk of mdct.Waves: two frames' waves. The walks of package shape: pulses given to waves. The walk of lapl.Put. -/
import Derived.Test.YtkoljgmapclhkaaGreatDoorLot7
import Derived.Test.YtkoljgmapclhkaaGreatDoorLot6
import Derived.Lib.AppendZerosOnto
import Derived.Lib.Walk
import Derived.Lib.SliceRun
import Derived.Test.YtkoljgmapclhkaaGreatDoorLot1
set_option linter.unusedSimpArgs false
set_option linter.unusedVariables false
namespace Go.Proofs.YtkoljgmapclhkaaGreatDoor
open Go.RowKit

/-- Samples made one by one: what each becomes, and what goes on. -/
def scan2 (o nx : Int → Int → Int) : Int → List Int → List Int
  | _, [] => []
  | s, x :: r => o s x :: scan2 o nx (nx s x) r
theorem scan2_len (o nx : Int → Int → Int) : ∀ (l : List Int) (s : Int), (scan2 o nx s l).length = l.length := by
  intro l
  induction l with
  | nil => intro _; rfl
  | cons x r ih => intro s; simp [scan2, ih]
theorem scan2_append (o nx : Int → Int → Int) (x : Int) : ∀ (l : List Int) (s : Int), scan2 o nx s (l ++ [x]) = scan2 o nx s l ++ [o (l.foldl nx s) x] := by
  intro l
  induction l with
  | nil => intro _; rfl
  | cons y r ih => intro s; simp [scan2, ih]
theorem scan2_step (o nx : Int → Int → Int) {l : List Int} {k : Nat} {x : Int} (hx : l[k]? = some x) (s : Int) : (scan2 o nx s (l.take k) ++ l.drop k).set k (o ((l.take k).foldl nx s) x) = scan2 o nx s (l.take (k + 1)) ++ l.drop (k + 1) := by
  have hk : k < l.length := (List.getElem?_eq_some_iff.1 hx).1
  have hlen : (scan2 o nx s (l.take k)).length = k := by rw [scan2_len, List.length_take]; omega
  have hd : l.drop k = x :: l.drop (k + 1) := by
    rw [List.drop_eq_getElem_cons hk]
    congr 1
    exact (List.getElem?_eq_some_iff.1 hx).2
  rw [List.take_add_one, hx, Option.toList_some, scan2_append, hd, List.set_append, if_neg (by omega), hlen, Nat.sub_self]
  simp
theorem lift_scan : ∀ (l : List Int) (s : Int), liftG s l = scan2 lift1 (fun _ x => Sp.cut 22 x) s l := by
  intro l
  induction l with
  | nil => intro _; rfl
  | cons x r ih => intro s; simp [liftG, scan2, ih]
set_option maxRecDepth 100000 in
set_option maxHeartbeats 1600000 in
theorem each2_any (f : FuncId) (p : Value) (T : Nat → Prop) (St : Int → World → Prop) (hst : ∀ s W W', St s W → (∀ k, T k → W'.heap[k]? = W.heap[k]?) → St s W') (o nx : Int → Int → Int) (l : List Int) (hl : l.length = 16) (s : Int) (w : World) (hT : ∀ k, T k → k < w.heap.size) (hs : St s w)
    (hcf : ∀ (x : Int) (w : World), (callFunc f #[.int .i64 x, p]).run Tryz.prog w = .ok (.enter f #[.int .i64 x, p]) w)
    (hf : ∀ s x W, St s W → Calls Tryz.prog f #[.int .i64 x, p] W fun e W' => e = .returned (.int .i64 (o s x)) ∧ St (nx s x) W' ∧ Kept T W W') :
    Calls Tryz.prog 86 #[.agg (arrV l), .func (.func f) #[] #[p]] w fun e w' => e = .returned (.agg (arrV (scan2 o nx s l))) ∧ St (l.foldl nx s) w' ∧ Kept T w w' := by
  obtain ⟨hA, hR, hk0, hs0⟩ := two_new T w (arrV l) #[.int .i64 0, .int .i64 0, .int .i64 0, .int .i64 0, .int .i64 0, .int .i64 0, .int .i64 0, .int .i64 0, .int .i64 0, .int .i64 0, .int .i64 0, .int .i64 0, .int .i64 0, .int .i64 0, .int .i64 0, .int .i64 0] 26 26
  obtain ⟨B, hB⟩ : ∃ B, w.heap.size = B := ⟨_, rfl⟩
  have hTB : ∀ k, T k → k < B := fun k hk => by have := hT k hk; omega
  have hidx := fun k (hk : k < 16) (w : World) => run_index_arr 26 16 l hl Tryz.underlying26 k hk w
  have HI := Lib.hid hidx
  have HF := Lib.hid hf
  have HST := Lib.hid hst
  have hsz : (Tryz.prog.info? 26).map (·.size) = some (arrV l).size := by rw [arr_size, hl]; exact blockInfo
  have hz : (arrV (List.replicate 16 0)).size = 16 := by rw [arr_size]; rfl
  have hSt0 : St s ((w.alloc (.cells (arrV l) 26)).alloc (.cells #[.int .i64 0, .int .i64 0, .int .i64 0, .int .i64 0, .int .i64 0, .int .i64 0, .int .i64 0, .int .i64 0, .int .i64 0, .int .i64 0, .int .i64 0, .int .i64 0, .int .i64 0, .int .i64 0, .int .i64 0, .int .i64 0] 26)) := hst _ _ _ hs (fun k hk => by
    rw [Below.heap_alloc _ _ _ (by have := hT k hk; simp; omega), Below.heap_alloc _ _ _ (hT k hk)])
  clear hidx hf hst hs hT
  go_enter Tryz.func86, Tryz.ntmps86
  go_upto_region 1 with (fail)
  simp only [hB] at hA hR hs0 ⊢
  revert hA hR hk0 hs0 hSt0
  generalize ((w.alloc (.cells (arrV l) 26)).alloc (.cells #[.int .i64 0, .int .i64 0, .int .i64 0, .int .i64 0, .int .i64 0, .int .i64 0, .int .i64 0, .int .i64 0, .int .i64 0, .int .i64 0, .int .i64 0, .int .i64 0, .int .i64 0, .int .i64 0, .int .i64 0, .int .i64 0] 26)) = w0
  intro hk0 hSt0 hA hR hs0
  rw [zero16] at hR
  go_wp2_with (first | (refine wpList_load_blk rfl 26 (.tmp 2) rfl B rfl (arrV l) 26 hA Tryz.underlying26 hsz ?_))
  go_loopw [8] (fun i wr => ∃ k : Nat, k ≤ 16 ∧ i = .int .i64 k ∧ Blk wr B (arrV (scan2 o nx s (l.take k) ++ l.drop k)) 26 ∧ Blk wr (B + 1) (arrV (List.replicate 16 0)) 26 ∧ St ((l.take k).foldl nx s) wr ∧ Kept T w wr) (fun i _ => 16 - (intOf i).toNat)
  case atStart => exact ⟨0, by omega, rfl, hA, hR, hSt0, hk0⟩
  case round =>
    obtain ⟨k, hk, rfl, hA, hR, hS, hK⟩ := hrel
    by_cases hlt : k < 16
    · have hi := HI.out k hlt
      have hx : l[k]? = some (l.getD k 0) := by rw [List.getD_eq_getElem?_getD, List.getElem?_eq_getElem (by omega)]; rfl
      obtain ⟨x, hxe⟩ : ∃ x, l.getD k 0 = x := ⟨_, rfl⟩
      rw [hxe] at hi hx
      obtain ⟨S, hSe⟩ : ∃ S, (l.take k).foldl nx s = S := ⟨_, rfl⟩
      rw [hSe] at hS
      have hcall := HF.out S x wr hS
      have hfold : (l.take (k + 1)).foldl nx s = nx S x := by rw [List.take_add_one, hx]; simp [hSe]
      have hrow : (scan2 o nx s (l.take k) ++ l.drop k).set k (o S x) = scan2 o nx s (l.take (k + 1)) ++ l.drop (k + 1) := by have h := scan2_step o nx hx s; rwa [hSe] at h
      have HFO := Lib.hid hfold
      have HRO := Lib.hid hrow
      obtain ⟨y, hy⟩ : ∃ y, o S x = y := ⟨_, rfl⟩
      rw [hy] at hcall HRO
      obtain ⟨z, hz2⟩ : ∃ z, nx S x = z := ⟨_, rfl⟩
      rw [hz2] at hcall HFO
      have hlen : (scan2 o nx s (l.take k) ++ l.drop k).length = 16 := by rw [List.length_append, scan2_len, List.length_take, List.length_drop, hl]; omega
      obtain ⟨L, hL⟩ : ∃ L, scan2 o nx s (l.take k) ++ l.drop k = L := ⟨_, rfl⟩
      rw [hL] at hA HRO hlen
      clear hxe hx hSe hfold hrow hy hz2 hL
      go_wp2_with fail
      refine hcall.mono ?_
      rintro e w1 ⟨rfl, hS1, hK1⟩
      have hA1 := hA.keep hK1 (fun h => by have := hTB _ h; omega)
      have hR1 := hR.keep hK1 (fun h => by have := hTB _ h; omega)
      have hKK := hK.trans hK1
      have c1 := (hA1.cell k).trans (arr_get (by rw [hlen]; exact hlt))
      have f1 := hA1.frozen k
      have hA2 := hA1.set k (.int .i64 y)
      rw [arr_set, HRO.out] at hA2
      have hR2 := hR1.other (a := ⟨B, k, none⟩) (by simp only []; omega) (.int .i64 y)
      have hS2 : St z (w1.setCell ⟨B, k, none⟩ (.int .i64 y)) := HST.out _ _ _ hS1 (fun j hj => Below.heap_setCell _ _ _ _ (fun e => by have := hTB _ hj; simp only at e; omega))
      have hK2 := hKK.setCell (p := ⟨B, k, none⟩) (Or.inr (by show w.heap.size ≤ B; omega)) (.int .i64 y)
      go_wp2_with fail
      go_roundw
      case rel => exact ⟨k + 1, hlt, by go_num, hA2, hR2, by rw [HFO.out]; exact hS2, hK2⟩
      case measure => simp [intOf]; omega
    · obtain rfl : k = 16 := by omega
      have et : l.take 16 = l := List.take_of_length_le (by omega)
      have ed : l.drop 16 = [] := List.drop_of_length_le (by omega)
      rw [et, ed, List.append_nil] at hA
      rw [et] at hS
      have hlen : (scan2 o nx s l).length = 16 := by rw [scan2_len, hl]
      obtain ⟨L, hL⟩ : ∃ L, scan2 o nx s l = L := ⟨_, rfl⟩
      have HL := Lib.hid hL
      rw [hL] at hA hlen
      have hsz2 : (Tryz.prog.info? 26).map (·.size) = some (arrV L).size := by rw [arr_size, hlen]; exact blockInfo
      have hsz3 : (arrV (List.replicate 16 0)).size = (arrV L).size := by rw [hz, arr_size, hlen]
      have hR3 := hR.setRow (new := arrV L)
      have hS3 : St (l.foldl nx s) (wr.setRow (B + 1) (arrV L)) := HST.out _ _ _ hS (fun j hj => setRow_other wr (B + 1) j _ (by have := hTB _ hj; omega))
      have hK3 := hK.setRow (g := B + 1) (Or.inr (by omega)) (arrV L)
      clear hL et ed hsz hS hK
      go_wp2_with (first | (refine wpList_load_blk rfl 26 (.tmp 2) rfl B rfl (arrV L) 26 hA Tryz.underlying26 hsz2 ?_) | (refine wpList_store_blk rfl 26 (.tmp 4) (.tmp 18) rfl (B + 1) _ (arrV L) rfl rfl 26 hR hsz2 hsz3 (arr_one _) ?_))
      exact bodyPost_ret (v := .agg (arrV L)) (results_cell_row Tryz.results86 _ _ (B + 1) 26 _ (0, 0) (.array 16 3) rfl hR3 Tryz.underlying26 rfl hsz2) rfl ⟨by rw [HL.out], hS3, hK3⟩
set_option maxHeartbeats 1600000 in
theorem Lift1_any (g : Nat) (s x : Int) (h0 : -2097152 ≤ s) (h1 : s ≤ 2097151) (w : World) (hB : Blk w g #[.int .i64 s] 3) :
    Calls Tryz.prog 87 #[.int .i64 x, .pointer (some ⟨g, 0, none⟩)] w fun e w' => e = .returned (.int .i64 (lift1 s x)) ∧ Blk w' g #[.int .i64 (Sp.cut 22 x)] 3 ∧ Kept (· = g) w w' := by
  have c0 := hB.cell 0
  simp only [List.getElem?_toArray, List.getElem?_cons_zero] at c0
  have f0 := hB.frozen 0
  have q1 := td_bd (27853 * s) 58412449792 (by omega) (by omega)
  have hl : lift1 s x = Sp.cut 22 x - (27853 * s).tdiv 32768 := rfl
  obtain ⟨q, hq⟩ : ∃ q, (27853 * s).tdiv 32768 = q := ⟨_, rfl⟩
  have hc1 := fun w => tcut_any x w
  have b1 := cut22_bd x
  obtain ⟨c, hc⟩ : ∃ c, Sp.cut 22 x = c := ⟨_, rfl⟩
  rw [hq] at q1 hl
  rw [hc] at b1 hl ⊢
  simp only [hc] at hc1
  have w1 : IntKind.i64.wrap (27853 * s) = 27853 * s := IntWalk.i64_in _ (by omega)
  have w3 : IntKind.i64.wrap (c - q) = c - q := IntWalk.i64_in _ (by omega)
  have w2 : IntKind.i64.wrap q = q := IntWalk.i64_in _ (by omega)
  rw [hl]
  clear hl hc
  go_enter Tryz.func87, Tryz.ntmps87
  go_upto_region 1 with (fail)
  go_cut [4] from 5 to 10 (fun s4 wx => s4 = .int .i64 (c - q) ∧ ∃ m, wx = w.drewN m)
  case first =>
    go_region_with (first | (go_at_call_of 85 x; refine (hc1 _).mono ?_; rintro r5 w5 ⟨rfl, rfl⟩))
    all_goals
      go_wp2_with fail
      go_meet
      case rel => exact ⟨by first | rfl | simp, 1, rfl⟩
  case rest =>
    obtain ⟨rfl, m, rfl⟩ := hcut
    have hB2 : Blk (w.drewN m) g #[.int .i64 s] 3 := hB
    have c0 : (w.drewN m).cell? ⟨g, 0, none⟩ = some (.int .i64 s) := c0
    have f0 := hB2.frozen 0
    go_wp2_with fail
    refine (hc1 _).mono ?_
    rintro r5 w5 ⟨rfl, rfl⟩
    go_wp2_with fail
    go_ret
    refine ⟨rfl, ?_, ?_⟩
    · repeat' (first | (with_reducible assumption) | (with_reducible refine Blk.drew ?_) | (with_reducible refine Blk.drewN ?_ _) | (with_reducible apply Blk.set1) | ((with_reducible refine Blk.other ?_ ?ne _); case ne => (first | (simp only []; omega) | omega)) | (with_reducible refine Blk.alloc ?_ _))
    · repeat (first | (with_reducible exact Kept.refl _ _) | (with_reducible assumption) | (with_reducible refine Kept.drew ?_) | (with_reducible refine Kept.drewN ?_ _) | ((with_reducible refine Kept.setCell ?_ ?hp _); case hp => (first | exact Or.inl rfl | (left; simp; done) | (right; simp only [World.size_alloc, World.size_setCell, World.size_drew]; omega))) | (with_reducible refine Kept.alloc ?_ _))
set_option maxRecDepth 100000 in
set_option maxHeartbeats 1600000 in
theorem Lift_any (last : Int) (l : List Int) (hl : l.length = 16) (w : World) : Calls Tryz.prog 55 #[.int .i64 last, .agg (arrV l)] w fun e w' => e = .returned (.tuple #[.agg (arrV (liftL last l)), .int .i64 (liftN last l)]) ∧ Below w.heap.size w w' := by
  have LL := Len.mk hl
  obtain ⟨B, hB⟩ : ∃ B, w.heap.size = B := ⟨_, rfl⟩
  have hcall := fun W h1 h2 => each2_any 87 (.pointer (some ⟨B, 0, none⟩)) (· = B) (fun s W => Blk W B #[.int .i64 s] 3 ∧ -2097152 ≤ s ∧ s ≤ 2097151) (fun s W W' h hk => ⟨(hk B rfl).trans h.1, h.2⟩) lift1 (fun _ x => Sp.cut 22 x) l hl (Sp.cut 22 last) W h1 h2 (fun _ _ => by kernel_rfl)
    (fun s x W h => (Lift1_any B s x h.2.1 h.2.2 W h.1).mono fun e W' ⟨e1, e2, e3⟩ => ⟨e1, ⟨e2, cut22_bd x⟩, e3⟩)
  simp only [← lift_scan] at hcall
  have hLL : liftG (Sp.cut 22 last) l = liftL last l := rfl
  have hNN : l.foldl (fun _ x => Sp.cut 22 x) (Sp.cut 22 last) = liftN last l := rfl
  have hol : (liftL last l).length = 16 := by rw [liftL_len, hl]
  simp only [hLL, hNN] at hcall
  obtain ⟨L, hL⟩ : ∃ L, liftL last l = L := ⟨_, rfl⟩
  obtain ⟨n, hn⟩ : ∃ n, liftN last l = n := ⟨_, rfl⟩
  rw [hL] at hol
  simp only [hL, hn] at hcall ⊢
  have LO := Len.mk hol
  have HC := Lib.hid hcall
  have hcut := fun w => tcut_any last w
  have hcb := cut22_bd last
  obtain ⟨c, hc⟩ : ∃ c, Sp.cut 22 last = c := ⟨_, rfl⟩
  rw [hc] at hcb HC
  simp only [hc] at hcut
  have HCUT := Lib.hid hcut
  clear hcall hL hn hLL hNN hc hcut hol
  have hfar := Below.refl B w
  have hsz : B ≤ w.heap.size := by omega
  go_enter Tryz.func55, Tryz.ntmps55
  go_upto_region 1 with (fail)
  refine wp_gen (fun W => Blk W (B) (#[.int .i64 last]) 3 ∧ Blk W (B + 1) (arrV l) 26 ∧ Blk W (B + 1 + 1) (arrV (zs 16)) 26 ∧ Below (B) w W ∧ B + 3 ≤ W.heap.size) ⟨bk_, bk_, bk_, bl_, sz_⟩ ?_
  clear hfar hsz
  rintro w1 ⟨hA, hB1, hR, hfar, hsz⟩
  have c0 := hA.cell 0
  simp only [List.getElem?_toArray, List.getElem?_cons_zero] at c0
  have f0 := hA.frozen 0
  go_wp2_with fail
  refine (HCUT.out _).mono ?_
  rintro e w' ⟨rfl, rfl⟩
  go_upto_region 2 with (fail)
  refine wp_gen (fun W => Blk W (B) (#[.int .i64 c]) 3 ∧ Blk W (B + 1) (arrV l) 26 ∧ Blk W (B + 1 + 1) (arrV (zs 16)) 26 ∧ Below (B) w W ∧ B + 3 ≤ W.heap.size) ⟨bk_, bk_, bk_, bl_, sz_⟩ ?_
  clear hA hB1 hR hfar hsz
  rintro w2 ⟨hA, hB1, hR, hfar, hsz⟩
  clear c0 f0
  go_wp2_with (refine ld 26 rfl (by rfl) w_Block rfl hB1 LL.sz ?_)
  refine (HC.out _ (fun k hk => by subst hk; omega) ⟨hA, hcb⟩).mono ?_
  rintro e w3 ⟨rfl, ⟨hA3, hn0, hn1⟩, hK3⟩
  have hR3 := hR.keep hK3 (by omega)
  have hb3 : Below B w w3 := hfar.trans (hK3.below (fun k hk => by have h : k = B := hk; omega) (by omega))
  have hs3' := hK3.size
  obtain ⟨g6, hg6⟩ : ∃ g, w3.heap.size = g := ⟨_, rfl⟩
  have hg7 : B + 3 ≤ g6 := by omega
  clear hA hB1 hR hfar hsz
  have hA := hA3
  have hR := hR3
  have hfar := hb3
  have hsz : B + 3 ≤ w3.heap.size := by omega
  clear hA3 hR3 hb3
  go_upto_region 3 with (refine st 26 rfl (by rfl) w_Block rfl rfl bk_ lz_ lz_ one_ ?_)
  refine wp_gen (fun W => Blk W (B) (#[.int .i64 n]) 3 ∧ Blk W (B + 1 + 1) (arrV (zs 16)) 26 ∧ Blk W (g6) (arrV L) 26 ∧ Below (B) w W ∧ g6 + 1 ≤ W.heap.size) ⟨bk_, bk_, bk_, bl_, sz_⟩ ?_
  clear hA hR hfar hsz
  rintro w4 ⟨hA, hR, hO, hfar, hsz⟩
  refine wp_region_held_drew (S := fun W => Blk W (B) (#[.int .i64 n]) 3 ∧ Blk W (g6) (arrV L) 26) (by kernel_rfl) ⟨hA.drew, hO.drew⟩ (fun hH => ?_)
  refine tk 0 hH (v := .agg (arrV L)) (y := (yieldsIf_ld (by rfl) 26 rfl w_Block rfl (fun _ hS => hS.2) zz_)) (k := ?_)
  refine tk 1 hH (y := (.inl ⟨by rfl, fun w hS => by (have c := (show w.cell? ⟨B, 0, none⟩ = some (.int .i64 n) from by simpa using hS.1.cell 0); go_simp; try rfl)⟩)) (k := ?_)
  refine wpAnyH_ready (rs := [2]) (by kernel_rfl) (by simp) ?_
  refine rc (h := fun K hK => ?_) (r := AllReadyH.nil)
  refine wp_st 26 rfl w_Block rfl rfl bk_ zz_ zz_ one_ ?_
  refine hK.out _ _ ⟨bk_, bk_⟩ (fun hH => ?_)
  clear hK K
  try simp only [Act.put]
  refine tk 3 hH (y := yp) (k := ?_)
  refine wpAnyH_done (by kernel_rfl) ?_ _
  go_wp2_with fail
  exact bodyPost_ret (v := .tuple #[.agg (arrV L), .int .i64 n]) (res_ct Tryz.results55 rfl w_Block (by exact bk_) LO.sz rfl) rfl ⟨rfl, (by (try rw [hB]); exact bl_)⟩
end Go.Proofs.YtkoljgmapclhkaaGreatDoor

namespace Go.Proofs.YtkoljgmapclhkaaGreatDoor
open Go.RowKit

set_option maxHeartbeats 800000 in
theorem sumG_any (l : List Int) (v : Value) (w : World) (hS : SliceI w v l) (hl : l.length ≤ 16) (hb : ∀ x ∈ l, -8388608 ≤ x ∧ x ≤ 8388608) :
    Calls Tryz.prog 132 #[v] w fun e w' => e = .returned (.int .i64 (Sp.sizes l)) ∧ w = w' := by
  obtain ⟨o, cap, rfl, hc1, hc2, hcl⟩ := hS
  have HC := Lib.hid hcl
  have HB := Lib.hid hb
  clear hcl hb
  go_enter Tryz.func132, Tryz.ntmps132
  go_wp2_with fail
  go_loop [3, 8] (fun s i => ∃ k : Nat, k ≤ l.length ∧ i = .int .i64 k ∧ s = .int .i64 (Sp.sizes (l.take k))) (fun _ i => l.length - (intOf i).toNat)
  case atStart => exact ⟨0, Nat.zero_le _, rfl, rfl⟩
  case round =>
    obtain ⟨k, hk, rfl, rfl⟩ := hrel
    have hbd0 := sizes_nn (l.take k)
    have hbd1 := sizes_le (l := l.take k) (fun x hx => HB.out x (List.mem_of_mem_take hx))
    rw [List.length_take] at hbd1
    by_cases hlt : k < l.length
    · obtain ⟨x, hx⟩ : ∃ x, l[k]? = some x := ⟨_, List.getElem?_eq_getElem hlt⟩
      obtain ⟨g, f0, rfl, hcell⟩ := HC.out k x hx
      have hx8 := HB.out x (List.mem_of_getElem? hx)
      have htk : Sp.sizes (l.take (k + 1)) = Sp.sizes (l.take k) + max x (-x) := by rw [List.take_add_one, hx, Option.toList_some, Sp.sizes_snoc]
      have HT := Lib.hid htk
      have hm1 : max (min x 1099511627776) (-1099511627776) = x := by omega
      have hm2 : 0 ≤ max x (-x) ∧ max x (-x) ≤ 8388608 := by omega
      obtain ⟨y, hy⟩ : ∃ y, max x (-x) = y := ⟨_, rfl⟩
      rw [hy] at hm2
      have HY := Lib.hid hy
      obtain ⟨s, hs⟩ : ∃ s, Sp.sizes (l.take k) = s := ⟨_, rfl⟩
      rw [hs] at hbd0 hbd1 ⊢
      have HS := Lib.hid hs
      clear htk hx hs
      go_wp2_with fail
      go_round
      case rel => exact ⟨k + 1, hlt, by go_num, by rw [HT.out, HS.out, HY.out]⟩
      case measure => simp [intOf]; omega
    · obtain rfl : k = l.length := by omega
      rw [List.take_length]
      go_wp2_with fail
      go_ret
      exact ⟨rfl, rfl⟩
theorem infoInts : (Tryz.prog.info? 3).map (fun i => (i.zero, i.size, i.bytes)) = some (some (.int .i64 0), 1, 8) := by kernel_rfl
theorem sl_someE {W : World} {lo hi n cap : Nat} {p : Option Addr} {xs : List Value} (h : SL W lo hi 1 p n cap xs) (hn : 1 ≤ n) : ∃ g f, p = some ⟨g, f, none⟩ := by
  obtain ⟨_, hc, _, _, h5, h6, _⟩ := h
  cases p with
  | none => have := h5 rfl; omega
  | some a => obtain ⟨g, f, s⟩ := a; have := (h6 _ rfl).1; simp only at this; subst this; exact ⟨g, f, rfl⟩
/-- A slice of numbers of the call's own. -/
def Nums (W : World) (base : Nat) (v : Value) (l : List Int) : Prop := OW W base W.heap.size 3 1 v l.length (intsV l)
theorem Nums.sliceI {W : World} {base : Nat} {v : Value} {l : List Int} (h : Nums W base v l) : SliceI W v l := by
  obtain ⟨p, cap, rfl, hs⟩ := h.sl
  refine ⟨p, cap, rfl, hs.2.1, by have := hs.2.2.1; unfold maxLen at this; exact this, fun j x hx => ?_⟩
  have hj : j < l.length := (List.getElem?_eq_some_iff.1 hx).1
  obtain ⟨g, f, rfl⟩ := sl_someE hs (by omega)
  exact ⟨g, f, rfl, hs.2.2.2.2.2.2 _ rfl j _ (by rw [List.getElem?_map, hx]; rfl)⟩
theorem sl_part {W : World} {b : Nat} {l : List Int} {t : TypeId} (h : Blk W b (arrV l) t) (o n : Nat) (hon : o + n ≤ l.length) (hm : n ≤ 1000) : SL W b (b + 1) 1 (some ⟨b, o, none⟩) n n (intsV ((l.drop o).take n)) := by
  refine ⟨by rw [List.length_map, List.length_take, List.length_drop]; omega, Nat.le_refl _, by unfold maxLen; omega, h.lt, by simp, fun a ha => ?_, fun a ha j u hu => ?_⟩
  · cases ha; exact ⟨rfl, Nat.le_refl _, by simp⟩
  · cases ha; exact h.range o n hon j u hu
theorem bands_at {W : World} (h : BandsW W) {b : Nat} (hb : b < 4) : W.cell? ⟨0, b, none⟩ = some (.int .i64 (offN b)) ∧ W.cell? ⟨0, b + 1, none⟩ = some (.int .i64 ((offN b + bandN b : Nat) : Int)) := by
  have hb4 : b = 0 ∨ b = 1 ∨ b = 2 ∨ b = 3 := by omega
  have c0 := h.cell 0
  have c1 := h.cell 1
  have c2 := h.cell 2
  have c3 := h.cell 3
  have c4 := h.cell 4
  simp only [List.getElem?_toArray, List.getElem?_cons_zero, List.getElem?_cons_succ] at c0 c1 c2 c3 c4
  rcases hb4 with rfl | rfl | rfl | rfl
  · exact ⟨c0, c1⟩
  · exact ⟨c1, c2⟩
  · exact ⟨c2, c3⟩
  · exact ⟨c3, c4⟩
theorem sl_named {W : World} {lo hi size n cap : Nat} {p : Option Addr} {xs : List Value} (h : SL W lo hi size p n cap xs) : ∃ lo2 hi2, lo = lo2 ∧ hi = hi2 ∧ SL W lo2 hi2 size p n cap xs := ⟨_, _, rfl, rfl, h⟩
theorem ints_each (l : List Int) : ∀ u ∈ intsV l, u.oneCell' = true := fun u hu => by
  obtain ⟨x, _, rfl⟩ := List.mem_map.1 hu
  rfl
/-- A slice's numbers, read. -/
theorem sl_get {W : World} {lo hi n cap g o : Nat} {c : List Int} (h : SL W lo hi 1 (some ⟨g, o, none⟩) n cap (intsV c)) (i : Nat) (hi2 : i < c.length) : W.cell? ⟨g, o + i, none⟩ = some (.int .i64 (c.getD i 0)) :=
  h.2.2.2.2.2.2 _ rfl i _ (ints_get hi2)
set_option maxRecDepth 100000 in
set_option maxHeartbeats 1600000 in
theorem Band_any (l : List Int) (hl : l.length = 16) (b : Nat) (hb : b < 4) (w : World) (hW : BandsW w) :
    Calls Tryz.prog 94 #[.agg (arrV l), .int .i64 b] w fun e w' => ∃ v, e = .returned v ∧ Nums w' w.heap.size v (bandW l b) ∧ Below w.heap.size w w' := by
  obtain ⟨i0, hi, hz0, hz1, hz2⟩ := info_parts infoInts
  have LL := Len.mk hl
  have hbl := bandW_len hl hb
  have hof := off_fits b hb
  have hN8 := bandN_bd hb
  have h0 := hW.lt
  have hm := may_yes b hb
  have hBW : Blk w 0 _ 164 := hW
  have hat := fun W (h : BandsW W) => bands_at h hb
  have hsp := fun W (B : Nat) t (h : Blk W B (arrV l) t) => sl_part h (offN b) (bandN b) (by rw [hl]; exact hof) (by omega)
  have hbw : (l.drop (offN b)).take (bandN b) = bandW l b := rfl
  simp only [hbw] at hsp
  have hcs : (offN b = 0 ∧ bandN b = 2) ∨ (offN b = 2 ∧ bandN b = 2) ∨ (offN b = 4 ∧ bandN b = 4) ∨ (offN b = 8 ∧ bandN b = 8) := by
    have hb4 : b = 0 ∨ b = 1 ∨ b = 2 ∨ b = 3 := by omega
    rcases hb4 with rfl | rfl | rfl | rfl <;> decide
  obtain ⟨C, hC⟩ : ∃ C, bandW l b = C := ⟨_, rfl⟩
  obtain ⟨o, ho⟩ : ∃ o, offN b = o := ⟨_, rfl⟩
  obtain ⟨n, hn⟩ : ∃ n, bandN b = n := ⟨_, rfl⟩
  obtain ⟨e0, he0⟩ : ∃ e, o + n = e := ⟨_, rfl⟩
  simp only [ho, hn, hC, he0] at hat hsp hbl hof hN8 hcs ⊢
  have HAT := Lib.hid hat
  have HSP := Lib.hid hsp
  have hbi : (b : Int) < 4 := by omega
  obtain ⟨b1, hb1⟩ : ∃ x, b + 1 = x := ⟨_, rfl⟩
  rw [hb1] at HAT
  have e1 : (b : Int) + 1 = (b1 : Int) := by omega
  have w1 : IntKind.i64.wrap (b1 : Int) = (b1 : Int) := IntWalk.i64_in _ (by omega)
  have hb15 : (b1 : Int) < 5 := by omega
  have hb5 : (b : Int) < 5 := by omega
  have hb5n : b1 < 5 := by omega
  have hoe : o ≤ e0 := by omega
  have he16 : e0 ≤ 16 := by omega
  have hne : e0 - o = n := by omega
  clear hat hsp hbw hC ho hn hW hb1
  obtain ⟨B, hB⟩ : ∃ B, w.heap.size = B := ⟨_, rfl⟩
  rw [hB] at h0 ⊢
  have hfar := Below.refl B w
  have hsz : B ≤ w.heap.size := by omega
  go_enter Tryz.func94, Tryz.ntmps94
  go_upto_region 1 with (fail)
  refine wp_gen (fun W => Blk W (0) (#[.int .i64 0, .int .i64 2, .int .i64 4, .int .i64 8, .int .i64 16]) 164 ∧ Blk W (B) (arrV l) 26 ∧ Below (B) w W ∧ B + 1 ≤ W.heap.size) ⟨bk_, bk_, bl_, sz_⟩ ?_
  clear hBW hfar hsz
  rintro wa ⟨hBW, hA, hfar, hsz⟩
  go_wp2_with fail
  refine (hm _).mono ?_
  rintro e w' ⟨rfl, rfl⟩
  go_upto_region 3 with (fail)
  go_cut [5, 6] from 10 to 16 (fun s5 s6 wx => s5 = .int .i64 (o : Nat) ∧ s6 = .int .i64 (e0 : Nat) ∧ Blk wx 0 #[.int .i64 0, .int .i64 2, .int .i64 4, .int .i64 8, .int .i64 16] 164 ∧ Blk wx B (arrV l) 26 ∧ Below B w wx ∧ B + 1 ≤ wx.heap.size)
  case first =>
    refine wp_region_held_drew (S := fun W => Blk W (0) (#[.int .i64 0, .int .i64 2, .int .i64 4, .int .i64 8, .int .i64 16]) 164) (by kernel_rfl) (hBW.drew) (fun hH => ?_)
    refine tk 0 hH (y := yp) (k := ?_)
    refine tk 1 hH (y := yp) (k := ?_)
    refine tk 2 hH (y := (.inl ⟨by rfl, fun w hS => by (have c := (HAT.out _ hS).1; go_simp; try rfl)⟩)) (k := ?_)
    refine tk 3 hH (y := yp) (k := ?_)
    refine tk 4 hH (y := yp) (k := ?_)
    refine tk 5 hH (y := yp) (k := ?_)
    refine tk 6 hH (y := (.inl ⟨by rfl, fun w hS => by (have c := (HAT.out _ hS).2; go_simp; try rfl)⟩)) (k := ?_)
    refine tk 7 hH (y := yp) (k := ?_)
    refine tk 8 hH (y := yp) (k := ?_)
    refine wpAnyH_done (by kernel_rfl) ?_ _
    go_wp2_with fail
    go_meet
    case rel => exact ⟨rfl, rfl, by exact bk_, by exact bk_, by exact bl_, by exact sz_⟩
  case rest =>
    clear hBW hA hfar hsz
    obtain ⟨rfl, rfl, hBW, hA, hfar, hsz⟩ := hcut
    have hsl := HSP.out _ _ _ hA
    have hrow0 : OW wc B B 3 1 (.slice none 0 0) 0 [] := OW.nil _ _ _ _ _ (by omega)
    have hcs2 : (o = 0 ∧ e0 = 2 ∧ n = 2) ∨ (o = 2 ∧ e0 = 4 ∧ n = 2) ∨ (o = 4 ∧ e0 = 8 ∧ n = 4) ∨ (o = 8 ∧ e0 = 16 ∧ n = 8) := by omega
    clear hcs hof hoe he16 hne hN8 he0
    rcases hcs2 with ⟨rfl, rfl, rfl⟩ | ⟨rfl, rfl, rfl⟩ | ⟨rfl, rfl, rfl⟩ | ⟨rfl, rfl, rfl⟩
    all_goals
      go_wp2_with (refine ap 48 rfl (by rfl) rfl B 3 i0 (.int .i64 0) 1 8 Tryz.underlying48 hi hz0 hz1 hz2 rfl (by omega) rfl hrow0.1 rfl hsl (ints_each _) (by unfold maxLen; omega) (by omega) (by omega) ?_; intro v' w3 hown hgr _)
      go_ret
      have hf3 : Below B w w3 := hfar.grown hgr (by omega) (fun j hj => by have h : (none : Option Nat) = some j := hj; cases h)
      refine ⟨v', rfl, ?_, by (try rw [hB]); exact hf3⟩
      unfold Nums
      rw [hbl]
      rw [Nat.zero_add] at hown
      exact OW.mk0 hown
theorem Len.set4 {l : List Int} (h : l.length = 4) (i : Nat) (x : Int) : (l.set i x).length = 4 := by rw [List.length_set, h]
/-- A row that turns from the front on. -/
def turnF (f o : List Int) (k : Nat) : List Int := f.take k ++ o.drop k
theorem turnF_zero (f o : List Int) : turnF f o 0 = o := by simp [turnF]
theorem turnF_all {f o : List Int} {n : Nat} (h : f.length = n) (ho : o.length = n) : turnF f o n = f := by
  subst h
  unfold turnF; rw [List.take_length, List.drop_of_length_le (by omega), List.append_nil]
theorem turnF_len {f o : List Int} {n k : Nat} (h : f.length = n) (ho : o.length = n) (hk : k ≤ n) : Len (turnF f o k) n := by
  apply Len.mk
  unfold turnF; rw [List.length_append, List.length_take, List.length_drop]; omega
theorem turnF_set {f o : List Int} {n k : Nat} {x : Int} (h : f.length = n) (ho : o.length = n) (hk : k < n) (hx : f.getD k 0 = x) : (turnF f o k).set k x = turnF f o (k + 1) := by
  subst hx
  unfold turnF
  have hl : (f.take k).length = k := by rw [List.length_take]; omega
  have hd : o.drop k = o[k]'(by omega) :: o.drop (k + 1) := List.drop_eq_getElem_cons (by omega)
  have ht : f.take (k + 1) = f.take k ++ [f.getD k 0] := by rw [List.take_add_one, List.getElem?_eq_getElem (by omega), List.getD_eq_getElem?_getD, List.getElem?_eq_getElem (by omega)]; rfl
  rw [List.set_append, if_neg (by omega), hl, Nat.sub_self, hd, List.set_cons_zero, ht, List.append_assoc, List.singleton_append]
set_option maxRecDepth 100000 in
set_option maxHeartbeats 4000000 in
theorem Levels_any (l : List Int) (hw : WavesOk l) (w : World) (hW : BandsW w) : Calls Tryz.prog 89 #[.agg (arrV l)] w fun e w' => e = .returned (.agg (arrV (levelsL l))) ∧ Below w.heap.size w w' := by
  have hl := hw.1
  have LL := Len.mk hl
  have h0 := hW.lt
  have hBW : Blk w 0 _ 164 := hW
  have hba := fun b hb w hW => Band_any l hl b hb w hW
  have hbl := fun b (hb : b < 4) => bandW_len hl hb
  have hbm := fun b x (h : x ∈ bandW l b) => hw.2 x (bandW_mem h)
  have hlv := fun b (hb : b < 4) => levelsL_get l hb
  have LV := Len.mk (levelsL_ok l).1
  obtain ⟨V, hV⟩ : ∃ V, levelsL l = V := ⟨_, rfl⟩
  simp only [hV] at hlv LV ⊢
  have HBA := Lib.hid hba
  have HBL := Lib.hid hbl
  have HBM := Lib.hid hbm
  have HLV := Lib.hid hlv
  clear hba hbl hbm hlv hV hW hw hl
  obtain ⟨B, hB⟩ : ∃ B, w.heap.size = B := ⟨_, rfl⟩
  rw [hB] at h0
  have hfar := Below.refl B w
  have hsz : B ≤ w.heap.size := by omega
  have hz4 : (zs 4).length = 4 := Len.zs 4
  go_enter Tryz.func89, Tryz.ntmps89
  go_upto_region 2 with (fail)
  refine wp_gen (fun W => Blk W (0) (#[.int .i64 0, .int .i64 2, .int .i64 4, .int .i64 8, .int .i64 16]) 164 ∧ Blk W (B) (arrV l) 26 ∧ Blk W (B + 1) (arrV (zs 4)) 27 ∧ Blk W (B + 1 + 1) (arrV (zs 4)) 27 ∧ Below (B) w W ∧ B + 3 ≤ W.heap.size) ⟨bk_, bk_, bk_, bk_, bl_, sz_⟩ ?_
  clear hBW hfar hsz
  rintro w1 ⟨hBW, hA, hR, hO, hfar, hsz⟩
  go_wp2_with fail
  go_loopw [5] (fun i wr => ∃ k : Nat, k ≤ 4 ∧ i = .int .i64 k ∧ Blk wr 0 #[.int .i64 0, .int .i64 2, .int .i64 4, .int .i64 8, .int .i64 16] 164 ∧ Blk wr B (arrV l) 26 ∧ Blk wr (B + 1) (arrV (zs 4)) 27 ∧ Blk wr (B + 1 + 1) (arrV (turnF V (zs 4) k)) 27 ∧ Below B w wr ∧ B + 3 ≤ wr.heap.size) (fun i _ => 4 - (intOf i).toNat)
  case atStart => exact ⟨0, by omega, rfl, hBW, hA, hR, by rw [turnF_zero]; exact hO, hfar, hsz⟩
  case round =>
    clear hBW hA hR hO hfar hsz
    obtain ⟨k, hk, rfl, hBW, hA, hR, hO, hfar, hsz⟩ := hrel
    by_cases hlt : k < 4
    · have hlti : (k : Int) < 4 := by omega
      have hset := turnF_set (k := k) LV.out hz4 hlt (HLV.out k hlt)
      have LT := turnF_len (k := k) LV.out hz4 (Nat.le_of_lt hlt)
      have hC := HBL.out k hlt
      have hCm := HBM.out k
      have hN8 := bandN_bd hlt
      have hba := HBA.out k hlt
      obtain ⟨C, hCe⟩ : ∃ C, bandW l k = C := ⟨_, rfl⟩
      obtain ⟨T, hT⟩ : ∃ T, turnF V (zs 4) k = T := ⟨_, rfl⟩
      rw [hT] at hset hO LT
      simp only [hCe] at hset hC hCm hba
      have hs0 := sizes_nn C
      have hs1 := sizes_le (l := C) (B := 8388608) hCm
      rw [hC] at hs1
      have hsum := fun W v (h : SliceI W v C) => sumG_any C v W h (by omega) hCm
      have hlen : levOf C = min ((Lib.bitLen (Sp.sizes C).toNat : Nat) : Int) 20 := rfl
      have hL := fun W => Length_any (Sp.sizes C) hs0 (by omega) W
      obtain ⟨sc, hsc⟩ : ∃ x, Sp.sizes C = x := ⟨_, rfl⟩
      rw [hsc] at hlen
      simp only [hsc] at hsum hL
      obtain ⟨bl, hbl⟩ : ∃ x, Lib.bitLen sc.toNat = x := ⟨_, rfl⟩
      rw [hbl] at hlen
      simp only [hbl] at hL
      rw [hlen] at hset
      obtain ⟨y, hy⟩ : ∃ y, min (bl : Int) 20 = y := ⟨_, rfl⟩
      rw [hy] at hset
      have HSET := Lib.hid hset
      have HBA1 := Lib.hid hba
      have HSUM := Lib.hid hsum
      have HLN := Lib.hid hL
      clear hset hba hsum hL hlen hbl hs0 hs1 hsc hT hCe hC hCm
      go_upto_region 5 with (fail)
      go_wp2_with (refine ld 26 rfl (by rfl) w_Block rfl hA LL.sz ?_)
      refine (HBA1.out _ hBW).mono ?_
      rintro e w2 ⟨v2, rfl, hv2, hb2⟩
      replace hBW := hBW.newB hb2
      replace hA := hA.newB hb2
      replace hR := hR.newB hb2
      replace hO := hO.newB hb2
      replace hfar := hfar.trans (hb2.mono (by omega))
      replace hsz := Nat.le_trans hsz hb2.size
      go_wp2_with fail
      refine (HSUM.out _ _ hv2.sliceI).mono ?_
      rintro e w' ⟨rfl, rfl⟩
      go_wp2_with fail
      refine (HLN.out _).mono ?_
      rintro e w' ⟨rfl, rfl⟩
      have c2 := (hO.cell k).trans (arr_get (l := T) (by rw [LT.out]; omega))
      have f2 := hO.frozen k
      go_wp2_with fail
      go_roundw
      case rel => exact ⟨k + 1, hlt, by go_num, by exact bk_, by exact bk_, by exact bk_, by rw [← HSET.out]; exact bk_, by exact bl_, by exact sz_⟩
      case measure => simp [intOf]; omega
    · obtain rfl : k = 4 := by omega
      rw [turnF_all LV.out hz4] at hO
      go_wp2_with (first | (refine ld 27 rfl (by rfl) w_Four rfl hO LV.sz ?_) | (refine st 27 rfl (by rfl) w_Four rfl rfl bk_ lz_ LV.sz one_ ?_))
      exact bodyPost_ret (v := .agg (arrV V)) (res_c Tryz.results89 rfl w_Four (by exact bk_) LV.sz) rfl ⟨rfl, (by (try rw [hB]); exact bl_)⟩
end Go.Proofs.YtkoljgmapclhkaaGreatDoor

namespace Go.Proofs.YtkoljgmapclhkaaGreatDoor
open Go.RowKit

theorem info_int : (Tryz.prog.info? 3).map (fun i => (i.zero, i.size, i.bytes)) = some (some (.int .i64 0), 1, 8) := by kernel_rfl
set_option maxRecDepth 100000 in
set_option maxHeartbeats 1600000 in
theorem Grow_any (n : Nat) (h1 : 1 ≤ n) (h2 : n ≤ 1000) (w : World) : Calls Tryz.prog 145 #[.slice none 0 0, .int .i64 n] w fun e w' => ∃ v, e = .returned v ∧ OW w' w.heap.size w'.heap.size 3 1 v 0 [] ∧ Below w.heap.size w w' := by
  obtain ⟨i0, hi, hz0, hz1, hz2⟩ := info_parts info_int
  have hold : (Builtin.firstCells i0.size 0 (.slice none 0 0)).run Tryz.prog w.drew = .ok #[] w.drew := run_firstCells_none w.drew i0.size 0 0 0
  have hrz : ∀ ty, (Builtin.append_ #[48, 3] ty #[.slice none 0 0, .int .i64 (n : Int)]).run Tryz.prog w =
      .ok (.slice (some ⟨w.heap.size, 0, none⟩) n (grownCap w (0 + n) 0 3)) (w.drew.alloc (.cells (([] : List Value).toArray ++ Builtin.zeroCells (Value.int .i64 0).cells n ++ Builtin.zeroCells (Value.int .i64 0).cells (grownCap w (0 + n) 0 3 - (0 + n))) 3)) := fun ty => by
    have h := Lib.run_append_grow_zeros w 48 3 ty 3 i0 (.int .i64 0) .i64 .i64 Tryz.underlying48 Tryz.underlying3 hi hz0 none 0 0 [] hold n (by omega) (by omega) (by omega) (by omega) (by rw [hz2]; omega) (by rw [hz2]; exact growslice_fits (by omega) (by omega))
    rw [Nat.zero_add] at h ⊢
    exact h
  have hG1 := grownCap_ge w (0 + n) 0 3
  have hG2 := grownCap_le_maxLen w (0 + n) 0 3 (by unfold maxLen; omega)
  obtain ⟨G, hG⟩ : ∃ G, grownCap w (0 + n) 0 3 = G := ⟨_, rfl⟩
  rw [hG] at hG1 hG2
  simp only [hG] at hrz
  unfold maxLen at hG2
  have hn0 : (0 : Int) < n := by omega
  clear hold hG
  go_enter Tryz.func145, Tryz.ntmps145
  go_wp2_with (at_builtin; refine Lib.wpList_append_run _ rfl _ _ _ _ rfl _ _ rfl rfl _ _ (hrz _) ?_)
  go_ret
  refine ⟨_, rfl, ⟨⟨rfl, .inr ⟨w.heap.size, G, _, rfl, Nat.le_refl _, Blk.new w _ _, by omega, by unfold maxLen; omega, ?_, rfl⟩⟩, fun k hk => ?_, Nat.le_refl _⟩, ((Below.refl _ _).alloc (Nat.le_refl _) _).drew⟩
  · simp [size_zeroCells, Value.cells]; omega
  · simp [Value.ownBlock] at hk; simp; omega
set_option maxRecDepth 100000 in
set_option maxHeartbeats 4000000 in
theorem Concat_any (a b : List Int) (ha : a.length = 16) (hb : b.length = 16) (bs lo hi : Nat) (pa pb : Option Addr) (ca cb : Nat) (w : World) (hS : Blk w bs #[.slice pa 16 ca, .slice pb 16 cb] 48) (hA : SL w lo hi 1 pa 16 ca (intsV a)) (hBb : SL w lo hi 1 pb 16 cb (intsV b)) (hbs : bs < w.heap.size) :
    Calls Tryz.prog 101 #[.slice (some ⟨bs, 0, none⟩) 2 2] w fun e w' => ∃ v, e = .returned v ∧ OW w' w.heap.size w'.heap.size 3 1 v 32 (intsV (a ++ b)) ∧ Below w.heap.size w w' := by
  obtain ⟨i0, hi0, hz0, hz1, hz2⟩ := info_parts info_int
  have hca := hA.2.1
  have hcb := hBb.2.1
  have hcam := hA.2.2.1
  have hcbm := hBb.2.2.1
  unfold maxLen at hcam hcbm
  have hhi := hA.2.2.2.1
  obtain ⟨B, hB⟩ : ∃ B, w.heap.size = B := ⟨_, rfl⟩
  rw [hB] at hbs hhi ⊢
  have hfar := Below.refl B w
  have c0 := hS.cell 0
  have c1 := hS.cell 1
  simp only [List.getElem?_toArray, List.getElem?_cons_zero, List.getElem?_cons_succ] at c0 c1
  go_enter Tryz.func101, Tryz.ntmps101
  go_wp2_with fail
  go_loopw [3, 11] (fun s i wr => ∃ k : Nat, k ≤ 2 ∧ i = .int .i64 k ∧ s = .int .i64 ((16 * k : Nat) : Int) ∧ w = wr) (fun _ i _ => 2 - (intOf i).toNat)
  case atStart => exact ⟨0, by omega, rfl, rfl, rfl⟩
  case round =>
    obtain ⟨k, hk, rfl, rfl, rfl⟩ := hrel
    have hk3 : k = 0 ∨ k = 1 ∨ k = 2 := by omega
    rcases hk3 with rfl | rfl | rfl
    · go_wp2_with fail
      go_roundw
      case rel => exact ⟨1, by omega, rfl, rfl, by first | rfl | trivial⟩
      case measure => simp [intOf]
    · go_wp2_with fail
      go_roundw
      case rel => exact ⟨2, by omega, rfl, rfl, by first | rfl | trivial⟩
      case measure => simp [intOf]
    · go_wp2_with fail
      refine (Grow_any 32 (by omega) (by omega) _).mono ?_
      rintro e w1 ⟨v1, rfl, hv1, hb1⟩
      rw [hB] at hv1
      have hf1 : Below B w w1 := hfar.trans (hb1.mono (by omega))
      have hA1 := hA.newB hb1
      have hB1 := hBb.newB hb1
      have hS1 := hS.newB hb1
      have hs1 : B ≤ w1.heap.size := by have := hb1.size; omega
      go_wp2_with fail
      go_loopw [6, 27] (fun v i wr => ∃ k : Nat, k ≤ 2 ∧ i = .int .i64 k ∧ OW wr B wr.heap.size 3 1 v (16 * k) (intsV ((a ++ b).take (16 * k))) ∧ Below B w wr ∧ B ≤ wr.heap.size) (fun _ i _ => 2 - (intOf i).toNat)
      case atStart => exact ⟨0, by omega, rfl, hv1, hf1, hs1⟩
      case round =>
        clear hv1 hf1 hA1 hB1 hS1 hs1
        obtain ⟨k, hk, rfl, hR, hf, hs⟩ := hrel
        have hAr := hA.below (hf.mono hhi)
        have hBr := hBb.below (hf.mono hhi)
        have hSr := hS.below hf hbs
        have c0 := hSr.cell 0
        have c1 := hSr.cell 1
        simp only [List.getElem?_toArray, List.getElem?_cons_zero, List.getElem?_cons_succ] at c0 c1
        have hvb : ∀ j, u6.ownBlock = some j → B ≤ j := fun j hj => (World.ownsRow.lt hR.1 j hj).1
        have HVB := Lib.hid hvb
        have hk3 : k = 0 ∨ k = 1 ∨ k = 2 := by omega
        rcases hk3 with rfl | rfl | rfl
        · have ht : (a ++ b).take (16 * 1) = (a ++ b).take (16 * 0) ++ a := by
            rw [Nat.mul_zero, List.take_zero, List.nil_append, Nat.mul_one, ← ha, List.take_left]
          have HT := Lib.hid ht
          clear hvb ht
          go_wp2_with (refine ap 48 rfl (by rfl) rfl B 3 i0 (.int .i64 0) 1 8 Tryz.underlying48 hi0 hz0 hz1 hz2 rfl (by omega) rfl hR.1 rfl hAr (ints_each _) (by unfold maxLen; omega) (by omega) (by omega) ?_; intro v' w3 hown hgr _)
          have hf3 : Below B w w3 := hf.grown hgr (by omega) (fun j hj => HVB.out j hj)
          have hs3 := hgr.size
          go_roundw
          case rel => exact ⟨1, by omega, rfl, by rw [HT.out]; unfold intsV; rw [List.map_append]; exact OW.mk0 hown, hf3, by omega⟩
          case measure => simp [intOf]
        · have ht : (a ++ b).take (16 * 2) = (a ++ b).take (16 * 1) ++ b := by
            rw [Nat.mul_one, List.take_of_length_le (by rw [List.length_append]; omega), ← ha, List.take_left]
          have HT := Lib.hid ht
          clear hvb ht
          go_wp2_with (refine ap 48 rfl (by rfl) rfl B 3 i0 (.int .i64 0) 1 8 Tryz.underlying48 hi0 hz0 hz1 hz2 rfl (by omega) rfl hR.1 rfl hBr (ints_each _) (by unfold maxLen; omega) (by omega) (by omega) ?_; intro v' w3 hown hgr _)
          have hf3 : Below B w w3 := hf.grown hgr (by omega) (fun j hj => HVB.out j hj)
          have hs3 := hgr.size
          go_roundw
          case rel => exact ⟨2, by omega, rfl, by rw [HT.out]; unfold intsV; rw [List.map_append]; exact OW.mk0 hown, hf3, by omega⟩
          case measure => simp [intOf]
        · have ht : (a ++ b).take (16 * 2) = a ++ b := List.take_of_length_le (by rw [List.length_append]; omega)
          rw [ht] at hR
          go_wp2_with fail
          go_ret
          exact ⟨_, rfl, hR, by (try rw [hB]); exact hf⟩
end Go.Proofs.YtkoljgmapclhkaaGreatDoor

namespace Go.Proofs.YtkoljgmapclhkaaGreatDoor
open Go.RowKit

theorem Shift17 (x : Int) (w : World) : Calls Tryz.prog 104 #[.int .i64 x, .int .i64 17] w fun e w' => e = .returned (.int .i64 (Sp.shiftN 17 x)) ∧ w = w' := by
  unfold Sp.shiftN
  by_cases h1 : x < -1099511627776
  · rw [if_pos (.inl h1)]
    go_enter Tryz.func104, Tryz.ntmps104
    go_wp2
    go_ret
    exact ⟨rfl, rfl⟩
  by_cases h2 : 1099511627776 < x
  · rw [if_pos (.inr h2)]
    go_enter Tryz.func104, Tryz.ntmps104
    go_wp2
    go_ret
    exact ⟨rfl, rfl⟩
  rw [if_neg (by omega)]
  go_enter Tryz.func104, Tryz.ntmps104
  go_wp2
  go_ret
  exact ⟨rfl, rfl⟩
/-- What a wave's sum reads. -/
structure WavesR (W : World) (bx bt bk kb gx fx cx lo hi : Nat) (X : List Int) (k : Nat) : Prop where
  x : Blk W bx #[.slice (some ⟨gx, fx, none⟩) 32 cx] 48
  s : SL W lo hi 1 (some ⟨gx, fx, none⟩) 32 cx (intsV X)
  t : Blk W bt #[.pointer (some ⟨kb, 0, none⟩)] 145
  k : Blk W bk #[.int .i64 k] 3
  ker : Blk W kb (arrV kerL) 152
theorem WavesR.newB {W W' : World} {bx bt bk kb gx fx cx lo hi : Nat} {X : List Int} {k : Nat} (h : WavesR W bx bt bk kb gx fx cx lo hi X k) (hb : Below W.heap.size W W') : WavesR W' bx bt bk kb gx fx cx lo hi X k :=
  ⟨h.x.newB hb, h.s.newB hb, h.t.newB hb, h.k.newB hb, h.ker.newB hb⟩
theorem WavesR.drew {W : World} {bx bt bk kb gx fx cx lo hi : Nat} {X : List Int} {k : Nat} (h : WavesR W bx bt bk kb gx fx cx lo hi X k) : WavesR W.drew bx bt bk kb gx fx cx lo hi X k :=
  ⟨h.x.drew, h.s.drew, h.t.drew, h.k.drew, h.ker.drew⟩
set_option maxRecDepth 100000 in
set_option maxHeartbeats 4000000 in
theorem Waves1_any (a b : List Int) (ha : a.length = 16) (hb : b.length = 16) (hwa : a.any wideP = false) (hwb : b.any wideP = false) (bx bt bk kb gx fx cx lo hi : Nat) (k n : Nat) (hk : k < 16) (hn : n < 32) (w : World) (hR : WavesR w bx bt bk kb gx fx cx lo hi (a ++ b) k) :
    Calls Tryz.prog 103 #[.int .i64 n, .pointer (some ⟨bx, 0, none⟩), .pointer (some ⟨bt, 0, none⟩), .pointer (some ⟨bk, 0, none⟩)] w fun e w' => e = .returned (.int .i64 (waveT a b k n)) ∧ Below w.heap.size w w' := by
  have hx0 := wave_in hwa hwb n
  have hw0 := winTab_bd n hn
  have hp := abs_mul_bd (by decide) (by decide) hx0 hw0
  have hy := waveX_bd hwa hwb n
  have hT := waveT_bd hwa hwb k n
  have hTe : waveT a b k n = Sp.shiftN 15 ((a ++ b).getD n 0 * winTab.getD n 0) * kerAt n k := rfl
  have hat := fun W (h : Blk W kb (arrV kerL) 152) => at_any kb n k hn hk W h
  have hsh := fun W => Shift15 ((a ++ b).getD n 0 * winTab.getD n 0) W
  have hcx := fun W (h : WavesR W bx bt bk kb gx fx cx lo hi (a ++ b) k) => sl_get h.s n (by rw [List.length_append]; omega)
  have hcw := fun W (h : WavesR W bx bt bk kb gx fx cx lo hi (a ++ b) k) => (h.ker.cell (128 + n)).trans (kerL_win hn)
  obtain ⟨x, hx⟩ : ∃ x, (a ++ b).getD n 0 = x := ⟨_, rfl⟩
  obtain ⟨u, hu⟩ : ∃ x, winTab.getD n 0 = x := ⟨_, rfl⟩
  simp only [hx] at hcx hp hy hTe hsh
  simp only [hu] at hcw hp hy hTe hsh
  obtain ⟨p, hpe⟩ : ∃ p, x * u = p := ⟨_, rfl⟩
  simp only [hpe] at hp hy hTe hsh
  obtain ⟨y, hye⟩ : ∃ y, Sp.shiftN 15 p = y := ⟨_, rfl⟩
  simp only [hye] at hy hTe hsh
  obtain ⟨q, hq⟩ : ∃ q, kerAt n k = q := ⟨_, rfl⟩
  simp only [hq] at hTe hat
  obtain ⟨z, hz⟩ : ∃ z, y * q = z := ⟨_, rfl⟩
  rw [hz] at hTe
  rw [hTe] at hT ⊢
  have w1 : IntKind.i64.wrap p = p := IntWalk.i64_in _ (by omega)
  have w2 : IntKind.i64.wrap z = z := IntWalk.i64_in _ (by omega)
  have HAT := Lib.hid hat
  have HSH := Lib.hid hsh
  have HCX := Lib.hid hcx
  have HCW := Lib.hid hcw
  have hni : (n : Int) < 32 := by omega
  obtain ⟨X, hX⟩ : ∃ X, a ++ b = X := ⟨_, rfl⟩
  rw [hX] at hR
  simp only [hX] at HCX HCW
  have hcap : 32 ≤ cx := hR.s.2.1
  have hcm := hR.s.2.2.1
  unfold maxLen at hcm
  clear hat hsh hcx hcw hx hu hq hTe hX hye hx0 hw0 hy
  obtain ⟨B, hB⟩ : ∃ B, w.heap.size = B := ⟨_, rfl⟩
  have hfar := Below.refl B w
  have hszw : B ≤ w.heap.size := by omega
  go_enter Tryz.func103, Tryz.ntmps103
  go_upto_region 1 with (fail)
  refine wp_region_held_drew (S := fun W => WavesR W bx bt bk kb gx fx cx lo hi X k) (by kernel_rfl) (hR.drew) (fun hH => ?_)
  refine tk 0 hH (y := (.inl ⟨by rfl, fun w hS => by (have c := (show w.cell? ⟨bx, 0, none⟩ = some (.slice (some ⟨gx, fx, none⟩) 32 cx) from by simpa using hS.x.cell 0); go_simp; try rfl)⟩)) (k := ?_)
  refine tk 1 hH (y := yp) (k := ?_)
  refine tk 2 hH (y := yp) (k := ?_)
  refine tk 3 hH (y := (.inl ⟨by rfl, fun w hS => by (have c := (HCX.out _ hS); go_simp; try rfl)⟩)) (k := ?_)
  refine tk 4 hH (y := (.inl ⟨by rfl, fun w hS => by (have c := (show w.cell? ⟨bt, 0, none⟩ = some (.pointer (some ⟨kb, 0, none⟩)) from by simpa using hS.t.cell 0); go_simp; try rfl)⟩)) (k := ?_)
  refine tk 5 hH (y := yp) (k := ?_)
  refine tk 6 hH (y := yp) (k := ?_)
  refine tk 7 hH (y := yp) (k := ?_)
  refine tk 8 hH (y := yp) (k := ?_)
  refine tk 9 hH (y := (.inl ⟨by rfl, fun w hS => by (have c := (HCW.out _ hS); go_simp; try rfl)⟩)) (k := ?_)
  refine tk 10 hH (y := yp) (k := ?_)
  refine tk 12 hH (y := (.inl ⟨by rfl, fun w hS => by (have c := (show w.cell? ⟨bt, 0, none⟩ = some (.pointer (some ⟨kb, 0, none⟩)) from by simpa using hS.t.cell 0); go_simp; try rfl)⟩)) (k := ?_)
  refine tk 13 hH (y := yp) (k := ?_)
  refine tk 14 hH (y := (.inl ⟨by rfl, fun w hS => by (have c := (show w.cell? ⟨bk, 0, none⟩ = some (.int .i64 k) from by simpa using hS.k.cell 0); go_simp; try rfl)⟩)) (k := ?_)
  refine wpAnyH_ready (rs := [11]) (by kernel_rfl) (by simp) ?_
  refine rc (h := fun K hK => ?_) (r := AllReadyH.nil)
  go_simp
  refine (HSH.out _).mono ?_
  rintro r wq ⟨rfl, rfl⟩
  go_wp2_with fail
  refine hK.out _ _ hH (fun hH => ?_)
  clear hK K
  try simp only [Act.put, sa, List.set_cons_zero, List.set_cons_succ]
  refine wpAnyH_ready (rs := [15]) (by kernel_rfl) (by simp) ?_
  refine rc (h := fun K hK => ?_) (r := AllReadyH.nil)
  go_simp
  refine (HAT.out _ hH.ker).mono ?_
  rintro r wq ⟨rfl, rfl⟩
  go_wp2_with fail
  refine hK.out _ _ hH (fun hH => ?_)
  clear hK K
  try simp only [Act.put, sa, List.set_cons_zero, List.set_cons_succ]
  refine tk 16 hH (y := yp) (k := ?_)
  refine tk 17 hH (y := yp) (k := ?_)
  refine wpAnyH_done (by kernel_rfl) ?_ _
  go_wp2_with fail
  go_ret
  exact ⟨by first | rfl | (rw [← hz]; rfl), (by (try rw [hB]); exact bl_)⟩
end Go.Proofs.YtkoljgmapclhkaaGreatDoor

namespace Go.Proofs.YtkoljgmapclhkaaGreatDoor
open Go.RowKit

theorem waves_get {a b : List Int} (ha : a.any wideP = false) (hb : b.any wideP = false) {k : Nat} (hk : k < 16) : (wavesL a b).getD k 0 = wave1 a b k := by
  have h : ¬ (a.any wideP = true ∨ b.any wideP = true) := by rw [ha, hb]; decide
  unfold wavesL
  rw [if_neg h, List.getD_eq_getElem?_getD, List.getElem?_map, List.getElem?_range hk]; rfl
theorem wp_stI {op : Oper} {a : Act} {w : World} {K : Act → World → Prop} {Q : Exit → Act → World → Prop} {x y : Operand} (ho : op.op = .store 48 x y) {b : Nat} (hx : a.eval x = .pointer (some ⟨b, 0, none⟩)) {p : Option Addr} {n c : Nat} (hy : a.eval y = .slice p n c)
    (hb : Blk w b #[.slice none 0 0] 48) (h : K (a.put op.dst undef) (w.setCell ⟨b, 0, none⟩ (.slice p n c))) : op.wp Tryz.prog a w K Q := by
  have c0 := hb.cell 0
  simp only [List.getElem?_toArray, List.getElem?_cons_zero] at c0
  have f0 := hb.frozen 0
  unfold Oper.wp execOp
  simp only [ho, hx, hy]
  go_simp
  exact h
theorem waves_none {a b : List Int} (h : a.any wideP = true ∨ b.any wideP = true) : wavesL a b = zs 16 := by unfold wavesL; rw [if_pos h]; rfl
set_option maxRecDepth 100000 in
set_option maxHeartbeats 8000000 in
theorem Waves_any (a b : List Int) (ha : a.length = 16) (hb : b.length = 16) (w : World) : Calls Tryz.prog 57 #[.agg (arrV a), .agg (arrV b)] w fun e w' => e = .returned (.agg (arrV (wavesL a b))) ∧ Below w.heap.size w w' := by
  have LA := Len.mk ha
  have LB := Len.mk hb
  have hha := fun w => Held_any a ha w
  have hhb := fun w => Held_any b hb w
  have LV := Len.mk (wavesL_len a b)
  have HHA := Lib.hid hha
  have HHB := Lib.hid hhb
  obtain ⟨B, hB⟩ : ∃ B, w.heap.size = B := ⟨_, rfl⟩
  have hfar := Below.refl B w
  have hsz : B ≤ w.heap.size := by omega
  clear hha hhb
  obtain ⟨wa, hwa⟩ : ∃ x, a.any wideP = x := ⟨_, rfl⟩
  obtain ⟨wb, hwb⟩ : ∃ x, b.any wideP = x := ⟨_, rfl⟩
  rw [hwa] at HHA
  rw [hwb] at HHB
  obtain ⟨V, hV⟩ : ∃ V, wavesL a b = V := ⟨_, rfl⟩
  have hnone := fun h => (hV.symm.trans (waves_none (a := a) (b := b) h))
  rw [hwa, hwb] at hnone
  rw [hV] at LV ⊢
  have HNONE := Lib.hid hnone
  have HV := Lib.hid hV
  have HWA := Lib.hid hwa
  have HWB := Lib.hid hwb
  clear hnone hV hwa hwb
  go_enter Tryz.func57, Tryz.ntmps57
  go_upto_region 2 with (fail)
  refine wp_gen (fun W => Blk W (B) (arrV a) 26 ∧ Blk W (B + 1) (arrV b) 26 ∧ Blk W (B + 1 + 1) (arrV (zs 16)) 26 ∧ Blk W (B + 1 + 1 + 1) (arrV (zs 16)) 26 ∧ Below (B) w W ∧ B + 4 ≤ W.heap.size) ⟨bk_, bk_, bk_, bk_, bl_, sz_⟩ ?_
  clear hfar hsz
  rintro w1 ⟨hA, hC, hR, hO, hfar, hsz⟩
  go_wp2_with (refine ld 26 rfl (by rfl) w_Block rfl hA LA.sz ?_)
  refine (HHA.out _).mono ?_
  rintro e w2 ⟨rfl, hb2⟩
  replace hA := hA.newB hb2
  replace hC := hC.newB hb2
  replace hR := hR.newB hb2
  replace hO := hO.newB hb2
  replace hfar := hfar.trans (hb2.mono (by omega))
  replace hsz := Nat.le_trans hsz hb2.size
  cases wa with
  | true =>
    obtain rfl : V = zs 16 := HNONE.out (.inl rfl)
    go_wp2_with (first | (refine ld 26 rfl (by rfl) w_Block rfl hO LV.sz ?_) | (refine st 26 rfl (by rfl) w_Block rfl rfl bk_ lz_ LV.sz one_ ?_))
    exact bodyPost_ret (v := .agg (arrV (zs 16))) (res_c Tryz.results57 rfl w_Block (by exact bk_) LV.sz) rfl ⟨rfl, (by (try rw [hB]); exact bl_)⟩
  | false =>
    go_wp2_with (refine ld 26 rfl (by rfl) w_Block rfl hC LB.sz ?_)
    refine (HHB.out _).mono ?_
    rintro e w3 ⟨rfl, hb3⟩
    replace hA := hA.newB hb3
    replace hC := hC.newB hb3
    replace hR := hR.newB hb3
    replace hO := hO.newB hb3
    replace hfar := hfar.trans (hb3.mono (by omega))
    replace hsz := Nat.le_trans hsz hb3.size
    cases wb with
    | true =>
      obtain rfl : V = zs 16 := HNONE.out (.inr rfl)
      go_wp2_with (first | (refine ld 26 rfl (by rfl) w_Block rfl hO LV.sz ?_) | (refine st 26 rfl (by rfl) w_Block rfl rfl bk_ lz_ LV.sz one_ ?_))
      exact bodyPost_ret (v := .agg (arrV (zs 16))) (res_c Tryz.results57 rfl w_Block (by exact bk_) LV.sz) rfl ⟨rfl, (by (try rw [hB]); exact bl_)⟩
    | false =>
      have hga := fun k (hk : k < 16) => waves_get HWA.out HWB.out (k := k) hk
      simp only [HV.out] at hga
      have HGA := Lib.hid hga
      have hcon := fun W bs (h1 : Blk W B (arrV a) 26) (h2 : Blk W (B + 1) (arrV b) 26) (h3 : Blk W bs #[.slice (some ⟨B, 0, none⟩) 16 16, .slice (some ⟨B + 1, 0, none⟩) 16 16] 48) => by
        have hs := h2.lt
        have s1 := (sl_part h1 0 16 (by rw [LA.out]; omega) (by omega)).wider (lo' := B) (hi' := B + 2) (by omega) (by omega) (by omega)
        have s2 := (sl_part h2 0 16 (by rw [LB.out]; omega) (by omega)).wider (lo' := B) (hi' := B + 2) (by omega) (by omega) (by omega)
        rw [List.drop_zero, List.take_of_length_le (by rw [LA.out]; omega)] at s1
        rw [List.drop_zero, List.take_of_length_le (by rw [LB.out]; omega)] at s2
        exact Concat_any a b LA.out LB.out bs B (B + 2) _ _ 16 16 W h3 s1 s2 h3.lt
      have HCON := Lib.hid hcon
      clear hga hcon HNONE HV
      go_wp2_with fail
      have hsz3 : B + 4 ≤ w3.heap.size := hsz
      refine (made_any _).mono ?_
      rintro e w4 ⟨kb, hkb, rfl, hKer, hb4⟩
      replace hA := hA.newB hb4
      replace hC := hC.newB hb4
      replace hR := hR.newB hb4
      replace hO := hO.newB hb4
      replace hfar := hfar.trans (hb4.mono (by omega))
      replace hsz := Nat.le_trans hsz hb4.size
      obtain ⟨g, hg⟩ : ∃ g, w4.heap.size = g := ⟨_, rfl⟩
      have hkg : kb < g := by rw [← hg]; exact hKer.lt
      have hkB : B + 4 ≤ kb := by omega
      go_upto_region 5 with (fail)
      refine wp_gen (fun W => Blk W (B) (arrV a) 26 ∧ Blk W (B + 1) (arrV b) 26 ∧ Blk W (B + 1 + 1) (arrV (zs 16)) 26 ∧ Blk W (B + 1 + 1 + 1) (arrV (zs 16)) 26 ∧ Blk W (kb) (arrV kerL) 152 ∧ Blk W (g) (#[.pointer (some ⟨kb, 0, none⟩)]) 145 ∧ Below (B) w W ∧ g + 1 ≤ W.heap.size) ⟨bk_, bk_, bk_, bk_, bk_, bk_, bl_, sz_⟩ ?_
      clear hA hC hR hO hKer hfar hsz
      rintro w5 ⟨hA, hC, hR, hO, hKer, hT, hfar, hsz⟩
      obtain ⟨H, hH⟩ : ∃ H, w5.heap.size = H := ⟨_, rfl⟩
      have hgH : g + 1 ≤ H := by omega
      have hszH : H ≤ w5.heap.size := by omega
      clear hsz
      have hsz := hszH
      clear hszH
      go_cut [7] from 20 to 23 (fun s7 wx => ∃ b7 gx fx cX lo hi, s7 = .pointer (some ⟨b7, 0, none⟩) ∧ H ≤ b7 ∧ Blk wx b7 #[.slice (some ⟨gx, fx, none⟩) 32 cX] 48 ∧ SL wx lo hi 1 (some ⟨gx, fx, none⟩) 32 cX (intsV (a ++ b)) ∧ H ≤ lo ∧ hi ≤ wx.heap.size ∧ Blk wx (B + 1 + 1) (arrV (zs 16)) 26 ∧ Blk wx (B + 1 + 1 + 1) (arrV (zs 16)) 26 ∧ Blk wx kb (arrV kerL) 152 ∧ Blk wx g #[.pointer (some ⟨kb, 0, none⟩)] 145 ∧ Below B w wx ∧ H ≤ wx.heap.size)
      case first =>
        refine wp_region_held_drew (S := fun W => Blk W (B) (arrV a) 26 ∧ Blk W (B + 1) (arrV b) 26 ∧ Blk W (B + 1 + 1) (arrV (zs 16)) 26 ∧ Blk W (B + 1 + 1 + 1) (arrV (zs 16)) 26 ∧ Blk W (kb) (arrV kerL) 152 ∧ Blk W (g) (#[.pointer (some ⟨kb, 0, none⟩)]) 145 ∧ Below (B) w W ∧ H ≤ W.heap.size) (by kernel_rfl) (⟨hA.drew, hC.drew, hR.drew, hO.drew, hKer.drew, hT.drew, hfar.drew, hsz⟩) (fun hH => ?_)
        have hH2 := hH
        obtain ⟨hA, hC, hR, hO, hKer, hT, hfar, hsz⟩ := hH2
        refine tk 0 hH (v := .slice (some ⟨B, 0, none⟩) 16 16) (y := yp) (k := ?_)
        refine tk 1 hH (v := .slice (some ⟨B + 1, 0, none⟩) 16 16) (y := yp) (k := ?_)
        refine wpAnyH_ready (rs := [2, 4]) (by kernel_rfl) (by simp) ?_
        refine rc (h := fun K hK => ?_) (r := ?_)
        · go_simp
          refine hK.out _ _ ⟨bk_, bk_, bk_, bk_, bk_, bk_, bl_, sz_⟩ (fun hH2 => ?_)
          clear hH
          have hH := hH2
          obtain ⟨hA, hC, hR, hO, hKer, hT, hfar, hsz⟩ := hH2
          clear hK K
          try simp only [Act.put, sa, List.set_cons_zero, List.set_cons_succ]
          refine wpAnyH_ready (rs := [3, 4]) (by kernel_rfl) (by simp) ?_
          refine rc (h := fun K hK => ?_) (r := ?_)
          · go_simp
            refine (HCON.out _ _ bk_ bk_ bk_).mono ?_
            rintro r wq ⟨v5, rfl, hv5, hb⟩
            have hbs := hb.size
            try simp only [World.size_alloc, World.size_setCell, World.size_drew, size_setRow] at hbs
            obtain ⟨pX, cX, rfl, hsX⟩ := hv5.sl
            obtain ⟨gx, fx, rfl⟩ := sl_someE hsX (by omega)
            obtain ⟨lo2, hi2, hlo2, hhi2, hsY2⟩ := sl_named hsX
            clear hsX
            try simp only [World.size_alloc, World.size_setCell, World.size_drew, size_setRow] at hlo2
            go_wp2_with fail
            refine hK.out _ _ ⟨bk_, bk_, bk_, bk_, bk_, bk_, bl_, Nat.le_trans (sz_) hb.size⟩ (fun hH2 => ?_)
            clear hH
            have hH := hH2
            obtain ⟨hA, hC, hR, hO, hKer, hT, hfar, hsz⟩ := hH2
            clear hK K
            try simp only [Act.put, sa, List.set_cons_zero, List.set_cons_succ]
            refine wpAnyH_ready (rs := [4]) (by kernel_rfl) (by simp) ?_
            refine rc (h := fun K hK => ?_) (r := AllReadyH.nil)
            go_simp
            refine hK.out _ _ ⟨bk_, bk_, bk_, bk_, bk_, bk_, bl_, sz_⟩ (fun hH2 => ?_)
            clear hH
            have hH := hH2
            obtain ⟨hA, hC, hR, hO, hKer, hT, hfar, hsz⟩ := hH2
            clear hK K
            try simp only [Act.put, sa, List.set_cons_zero, List.set_cons_succ]
            refine wpAnyH_ready (rs := [5]) (by kernel_rfl) (by simp) ?_
            refine rc (h := fun K hK => ?_) (r := AllReadyH.nil)
            refine wp_stI rfl rfl rfl bk_ ?_
            refine hK.out _ _ ⟨bk_, bk_, bk_, bk_, bk_, bk_, bl_, sz_⟩ (fun hH2 => ?_)
            clear hH
            have hH := hH2
            obtain ⟨hA, hC, hR, hO, hKer, hT, hfar, hsz⟩ := hH2
            clear hK K
            try simp only [Act.put]
            refine wpAnyH_done (by kernel_rfl) ?_ _
            go_wp2_with fail
            go_meet
            case rel => exact ⟨_, gx, fx, cX, lo2, hi2, rfl, by exact sz_, by exact bk_, by exact sl_, by omega, by exact sz_, by exact bk_, by exact bk_, by exact bk_, by exact bk_, by exact bl_, by exact sz_⟩
          refine rc (h := fun K hK => ?_) (r := AllReadyH.nil)
          go_simp
          refine hK.out _ _ ⟨bk_, bk_, bk_, bk_, bk_, bk_, bl_, sz_⟩ (fun hH2 => ?_)
          clear hH
          have hH := hH2
          obtain ⟨hA, hC, hR, hO, hKer, hT, hfar, hsz⟩ := hH2
          clear hK K
          try simp only [Act.put, sa, List.set_cons_zero, List.set_cons_succ]
          refine wpAnyH_ready (rs := [3]) (by kernel_rfl) (by simp) ?_
          refine rc (h := fun K hK => ?_) (r := AllReadyH.nil)
          go_simp
          refine (HCON.out _ _ bk_ bk_ bk_).mono ?_
          rintro r wq ⟨v5, rfl, hv5, hb⟩
          have hbs := hb.size
          try simp only [World.size_alloc, World.size_setCell, World.size_drew, size_setRow] at hbs
          obtain ⟨pX, cX, rfl, hsX⟩ := hv5.sl
          obtain ⟨gx, fx, rfl⟩ := sl_someE hsX (by omega)
          obtain ⟨lo2, hi2, hlo2, hhi2, hsY2⟩ := sl_named hsX
          clear hsX
          try simp only [World.size_alloc, World.size_setCell, World.size_drew, size_setRow] at hlo2
          go_wp2_with fail
          refine hK.out _ _ ⟨bk_, bk_, bk_, bk_, bk_, bk_, bl_, Nat.le_trans (sz_) hb.size⟩ (fun hH2 => ?_)
          clear hH
          have hH := hH2
          obtain ⟨hA, hC, hR, hO, hKer, hT, hfar, hsz⟩ := hH2
          clear hK K
          try simp only [Act.put, sa, List.set_cons_zero, List.set_cons_succ]
          refine wpAnyH_ready (rs := [5]) (by kernel_rfl) (by simp) ?_
          refine rc (h := fun K hK => ?_) (r := AllReadyH.nil)
          refine wp_stI rfl rfl rfl bk_ ?_
          refine hK.out _ _ ⟨bk_, bk_, bk_, bk_, bk_, bk_, bl_, sz_⟩ (fun hH2 => ?_)
          clear hH
          have hH := hH2
          obtain ⟨hA, hC, hR, hO, hKer, hT, hfar, hsz⟩ := hH2
          clear hK K
          try simp only [Act.put]
          refine wpAnyH_done (by kernel_rfl) ?_ _
          go_wp2_with fail
          go_meet
          case rel => exact ⟨_, gx, fx, cX, lo2, hi2, rfl, by exact sz_, by exact bk_, by exact sl_, by omega, by exact sz_, by exact bk_, by exact bk_, by exact bk_, by exact bk_, by exact bl_, by exact sz_⟩
        refine rc (h := fun K hK => ?_) (r := AllReadyH.nil)
        go_simp
        refine hK.out _ _ ⟨bk_, bk_, bk_, bk_, bk_, bk_, bl_, sz_⟩ (fun hH2 => ?_)
        clear hH
        have hH := hH2
        obtain ⟨hA, hC, hR, hO, hKer, hT, hfar, hsz⟩ := hH2
        clear hK K
        try simp only [Act.put, sa, List.set_cons_zero, List.set_cons_succ]
        refine wpAnyH_ready (rs := [2]) (by kernel_rfl) (by simp) ?_
        refine rc (h := fun K hK => ?_) (r := AllReadyH.nil)
        go_simp
        refine hK.out _ _ ⟨bk_, bk_, bk_, bk_, bk_, bk_, bl_, sz_⟩ (fun hH2 => ?_)
        clear hH
        have hH := hH2
        obtain ⟨hA, hC, hR, hO, hKer, hT, hfar, hsz⟩ := hH2
        clear hK K
        try simp only [Act.put, sa, List.set_cons_zero, List.set_cons_succ]
        refine wpAnyH_ready (rs := [3]) (by kernel_rfl) (by simp) ?_
        refine rc (h := fun K hK => ?_) (r := AllReadyH.nil)
        go_simp
        refine (HCON.out _ _ bk_ bk_ bk_).mono ?_
        rintro r wq ⟨v5, rfl, hv5, hb⟩
        have hbs := hb.size
        try simp only [World.size_alloc, World.size_setCell, World.size_drew, size_setRow] at hbs
        obtain ⟨pX, cX, rfl, hsX⟩ := hv5.sl
        obtain ⟨gx, fx, rfl⟩ := sl_someE hsX (by omega)
        obtain ⟨lo2, hi2, hlo2, hhi2, hsY2⟩ := sl_named hsX
        clear hsX
        try simp only [World.size_alloc, World.size_setCell, World.size_drew, size_setRow] at hlo2
        go_wp2_with fail
        refine hK.out _ _ ⟨bk_, bk_, bk_, bk_, bk_, bk_, bl_, Nat.le_trans (sz_) hb.size⟩ (fun hH2 => ?_)
        clear hH
        have hH := hH2
        obtain ⟨hA, hC, hR, hO, hKer, hT, hfar, hsz⟩ := hH2
        clear hK K
        try simp only [Act.put, sa, List.set_cons_zero, List.set_cons_succ]
        refine wpAnyH_ready (rs := [5]) (by kernel_rfl) (by simp) ?_
        refine rc (h := fun K hK => ?_) (r := AllReadyH.nil)
        refine wp_stI rfl rfl rfl bk_ ?_
        refine hK.out _ _ ⟨bk_, bk_, bk_, bk_, bk_, bk_, bl_, sz_⟩ (fun hH2 => ?_)
        clear hH
        have hH := hH2
        obtain ⟨hA, hC, hR, hO, hKer, hT, hfar, hsz⟩ := hH2
        clear hK K
        try simp only [Act.put]
        refine wpAnyH_done (by kernel_rfl) ?_ _
        go_wp2_with fail
        go_meet
        case rel => exact ⟨_, gx, fx, cX, lo2, hi2, rfl, by exact sz_, by exact bk_, by exact sl_, by omega, by exact sz_, by exact bk_, by exact bk_, by exact bk_, by exact bk_, by exact bl_, by exact sz_⟩
      case rest =>
        clear hA hC hR hO hKer hT hfar hsz
        obtain ⟨b7, gx, fx, cX, lo, hi, rfl, hb7, hX, hS, hlo, hhi, hR, hO, hKer, hT, hfar, hsz⟩ := hcut
        have hz16 : (zs 16).length = 16 := Len.zs 16
        have hms := fun (k : Nat) (hk : k < 16) (gk : Nat) W (h : WavesR W b7 g gk kb gx fx cX lo hi (a ++ b) k) => msum_any 103 (.pointer (some ⟨b7, 0, none⟩)) (.pointer (some ⟨g, 0, none⟩)) (.pointer (some ⟨gk, 0, none⟩)) 32 (by omega) (waveT a b k)
          (fun n => by have h := waveT_bd HWA.out HWB.out k n; omega) (fun W => WavesR W b7 g gk kb gx fx cX lo hi (a ++ b) k) (fun _ _ h hb => h.newB hb) W h (fun _ _ => by kernel_rfl) (fun n hn W h => Waves1_any a b LA.out LB.out HWA.out HWB.out b7 g gk kb gx fx cX lo hi k n hk hn W h)
        have HMS := Lib.hid hms
        have hwk : ∀ k, Sp.shiftN 17 (sumF (waveT a b k) 32) = wave1 a b k := fun _ => rfl
        have HWK := Lib.hid hwk
        have hlo3 : B + 1 + 1 + 1 < lo := by omega
        have hb73 : B + 1 + 1 + 1 < b7 := by omega
        clear hms hwk HCON
        go_wp2_with fail
        go_loopw [24] (fun i wr => ∃ k : Nat, k ≤ 16 ∧ i = .int .i64 k ∧ Blk wr b7 #[.slice (some ⟨gx, fx, none⟩) 32 cX] 48 ∧ SL wr lo hi 1 (some ⟨gx, fx, none⟩) 32 cX (intsV (a ++ b)) ∧ Blk wr (B + 1 + 1) (arrV (zs 16)) 26 ∧ Blk wr (B + 1 + 1 + 1) (arrV (turnF V (zs 16) k)) 26 ∧ Blk wr kb (arrV kerL) 152 ∧ Blk wr g #[.pointer (some ⟨kb, 0, none⟩)] 145 ∧ Below B w wr ∧ H ≤ wr.heap.size) (fun i _ => 16 - (intOf i).toNat)
        case atStart => exact ⟨0, by omega, rfl, hX, hS, hR, by rw [turnF_zero]; exact hO, hKer, hT, hfar, hsz⟩
        case round =>
          clear hX hS hR hO hKer hT hfar hsz hhi
          obtain ⟨k, hk, rfl, hX, hS, hR, hO, hKer, hT, hfar, hsz⟩ := hrel
          by_cases hlt : k < 16
          · have hlti : (k : Int) < 16 := by omega
            have hset := turnF_set (k := k) LV.out hz16 hlt (HGA.out k hlt)
            have LT := turnF_len (k := k) LV.out hz16 (Nat.le_of_lt hlt)
            obtain ⟨T, hTe⟩ : ∃ T, turnF V (zs 16) k = T := ⟨_, rfl⟩
            rw [hTe] at hset hO LT
            have hms := HMS.out k hlt
            have hsh := fun W => Shift17 (sumF (waveT a b k) 32) W
            rw [HWK.out k] at hsh
            obtain ⟨s, hs⟩ : ∃ s, sumF (waveT a b k) 32 = s := ⟨_, rfl⟩
            obtain ⟨y, hy⟩ : ∃ y, wave1 a b k = y := ⟨_, rfl⟩
            rw [hs] at hms
            rw [hs, hy] at hsh
            rw [hy] at hset
            have HMS1 := Lib.hid hms
            have HSH := Lib.hid hsh
            have HSET := Lib.hid hset
            obtain ⟨gk, hgk⟩ : ∃ x, wr.heap.size = x := ⟨_, rfl⟩
            have hHk : H ≤ gk := by omega
            clear hms hsh hset hs hy hTe
            go_upto_region 9 with (fail)
            refine wp_gen (fun W => Blk W (b7) (#[.slice (some ⟨gx, fx, none⟩) 32 cX]) 48 ∧ SL W (lo) (hi) (1) (some ⟨gx, fx, none⟩) (32) (cX) (intsV (a ++ b)) ∧ Blk W (B + 1 + 1) (arrV (zs 16)) 26 ∧ Blk W (B + 1 + 1 + 1) (arrV T) 26 ∧ Blk W (kb) (arrV kerL) 152 ∧ Blk W (g) (#[.pointer (some ⟨kb, 0, none⟩)]) 145 ∧ Blk W (gk) (#[.int .i64 k]) 3 ∧ Below (B) w W ∧ gk + 1 ≤ W.heap.size) ⟨bk_, sl_, bk_, bk_, bk_, bk_, bk_, bl_, sz_⟩ ?_
            clear hX hS hR hO hKer hT hfar hsz
            rintro w1 ⟨hX, hS, hR, hO, hKer, hT, hk1, hfar, hsz⟩
            go_wp2_with fail
            refine (HMS1.out gk _ ⟨hX, hS, hT, hk1, hKer⟩).mono ?_
            rintro e w2 ⟨rfl, hb2⟩
            replace hX := hX.newB hb2
            replace hS := hS.newB hb2
            replace hR := hR.newB hb2
            replace hO := hO.newB hb2
            replace hKer := hKer.newB hb2
            replace hT := hT.newB hb2
            replace hk1 := hk1.newB hb2
            replace hfar := hfar.trans (hb2.mono (by omega))
            replace hsz := Nat.le_trans hsz hb2.size
            have c2 := (hO.cell k).trans (arr_get (l := T) (by rw [LT.out]; omega))
            have f2 := hO.frozen k
            have hgO : gk ≠ B + 1 + 1 + 1 := by omega
            go_upto_region 10 with (fail)
            refine wp_region_held_drew (S := fun W => Blk W (gk) (#[.int .i64 k]) 3) (by kernel_rfl) (hk1.drew) (fun hH => ?_)
            refine tk 0 hH (y := (.inl ⟨by rfl, fun w hS => by (have c := (show w.cell? ⟨gk, 0, none⟩ = some (.int .i64 k) from by simpa using hS.cell 0); go_simp; try rfl)⟩)) (k := ?_)
            refine tk 1 hH (y := yp) (k := ?_)
            refine wpAnyH_ready (rs := [2]) (by kernel_rfl) (by simp) ?_
            refine rc (h := fun K hK => ?_) (r := AllReadyH.nil)
            go_simp
            refine (HSH.out _).mono ?_
            rintro r wq ⟨rfl, rfl⟩
            go_wp2_with fail
            refine hK.out _ _ hH (fun hH => ?_)
            clear hK K
            try simp only [Act.put, sa, List.set_cons_zero, List.set_cons_succ]
            refine tk 3 hH (y := yp) (k := ?_)
            refine wpAnyH_ready (rs := [4]) (by kernel_rfl) (by simp) ?_
            refine rc (h := fun K hK => ?_) (r := AllReadyH.nil)
            go_simp
            refine hK.out _ _ bk_ (fun hH => ?_)
            clear hK K
            try simp only [Act.put]
            refine wpAnyH_done (by kernel_rfl) ?_ _
            go_wp2_with fail
            go_roundw
            case rel => exact ⟨k + 1, hlt, by go_num, by exact bk_, by exact sl_, by exact bk_, by rw [← HSET.out]; exact bk_, by exact bk_, by exact bk_, by exact bl_, by exact sz_⟩
            case measure => simp [intOf]; omega
          · obtain rfl : k = 16 := by omega
            rw [turnF_all LV.out hz16] at hO
            go_wp2_with (first | (refine ld 26 rfl (by rfl) w_Block rfl hO LV.sz ?_) | (refine st 26 rfl (by rfl) w_Block rfl rfl bk_ lz_ LV.sz one_ ?_))
            exact bodyPost_ret (v := .agg (arrV V)) (res_c Tryz.results57 rfl w_Block (by exact bk_) LV.sz) rfl ⟨rfl, (by (try rw [hB]); exact bl_)⟩
end Go.Proofs.YtkoljgmapclhkaaGreatDoor

namespace Go.Proofs.YtkoljgmapclhkaaGreatDoor
open Go.RowKit

set_option maxHeartbeats 400000 in
theorem ssize_any (x : Int) (h0 : -1048576 ≤ x) (h1 : x ≤ 1048576) (w : World) : Calls Tryz.prog 136 #[.int .i64 x] w fun e w' => e = .returned (.int .i64 (max x (-x))) ∧ w = w' := by
  obtain ⟨y, hy⟩ : ∃ y, max x (-x) = y := ⟨_, rfl⟩
  rw [hy]
  go_enter Tryz.func136, Tryz.ntmps136
  go_wp2
  go_ret
  exact ⟨rfl, rfl⟩
set_option maxHeartbeats 400000 in
theorem shright1_any (x : Int) (w : World) : Calls Tryz.prog 162 #[.int .i64 x] w fun e w' => e = .returned (.bool (wideP x)) ∧ w = w' := by
  unfold wideP
  by_cases h1 : x < -1048576
  · go_enter Tryz.func162, Tryz.ntmps162
    go_wp2
    go_ret
    exact ⟨by simp [h1], rfl⟩
  · go_enter Tryz.func162, Tryz.ntmps162
    go_wp2
    go_ret
    exact ⟨by simp [h1]; try omega, rfl⟩
theorem wide_none {c : List Int} (hc : ∀ x ∈ c, -1048576 ≤ x ∧ x ≤ 1048576) : c.any wideP = false := by
  rw [List.any_eq_false]
  intro x hx
  have := hc x hx
  unfold wideP
  simp; omega
set_option maxHeartbeats 800000 in
theorem shright_yes (c : List Int) (hc : ∀ x ∈ c, -1048576 ≤ x ∧ x ≤ 1048576) (h1 : 1 ≤ c.length) (h8 : c.length ≤ 8) (k : Nat) (hk : k ≤ 8) (v : Value) (w : World) (hS : SliceI w v c) :
    Calls Tryz.prog 134 #[v, .int .i64 k] w fun e w' => e = .returned (.bool true) ∧ w = w' := by
  have hC := Contains_any 162 wideP c v w hS (by omega) (fun _ _ => by kernel_rfl) (fun x _ w => shright1_any x w)
  rw [wide_none hc] at hC
  obtain ⟨o, cap, rfl, hc1, hc2, _⟩ := hS
  have hl1 : (1 : Int) ≤ (c.length : Int) := by omega
  have hl2 : (c.length : Int) ≤ 8 := by omega
  have hk2 : (k : Int) ≤ 8 := by omega
  go_enter Tryz.func134, Tryz.ntmps134
  go_wp2_with fail
  refine hC.mono ?_
  rintro e w1 ⟨rfl, rfl⟩
  go_wp2_with fail
  go_ret
  exact ⟨rfl, rfl⟩
set_option maxRecDepth 100000 in
set_option maxHeartbeats 1600000 in
theorem Find1_any (c : List Int) (hc : ∀ x ∈ c, -1048576 ≤ x ∧ x ≤ 1048576) (g o cap lo hi : Nat) (ga gc : Nat) (a : Int) (ha0 : 0 ≤ a) (ha1 : a ≤ 8388608) (i : Nat) (hi2 : i < c.length) (w : World)
    (hS : SL w lo hi 1 (some ⟨g, o, none⟩) c.length cap (intsV c)) (hA : Blk w ga #[.int .i64 a] 3) (hC : Blk w gc #[.slice (some ⟨g, o, none⟩) c.length cap] 48) :
    Calls Tryz.prog 135 #[.int .i64 i, .pointer (some ⟨ga, 0, none⟩), .pointer (some ⟨gc, 0, none⟩)] w fun e w' => e = .returned (.int .i64 (topV c a i)) ∧ Below w.heap.size w w' := by
  have hx := absAt_bd hc i
  have hmem : c.getD i 0 ∈ c := by rw [List.getD_eq_getElem?_getD, List.getElem?_eq_getElem hi2]; exact List.getElem_mem _
  have hxb := hc _ hmem
  have hsz := fun w => ssize_any (c.getD i 0) hxb.1 hxb.2 w
  have ht : topV c a i = (a + absAt c i) * (a + absAt c i) := rfl
  have hab : max (c.getD i 0) (-(c.getD i 0)) = absAt c i := rfl
  simp only [hab] at hsz
  have hcell := fun W (h : SL W lo hi 1 (some ⟨g, o, none⟩) c.length cap (intsV c)) => sl_get h i hi2
  obtain ⟨x, hxe⟩ : ∃ x, c.getD i 0 = x := ⟨_, rfl⟩
  obtain ⟨y, hye⟩ : ∃ y, absAt c i = y := ⟨_, rfl⟩
  simp only [hxe] at hcell hsz hxb
  rw [hye] at hx ht
  simp only [hye] at hsz
  have hm := abs_mul_bd (x := a + y) (y := a + y) (A := 9437184) (B := 9437184) (by decide) (by decide) (by omega) (by omega)
  obtain ⟨z, hz⟩ : ∃ z, (a + y) * (a + y) = z := ⟨_, rfl⟩
  rw [hz] at hm ht
  rw [ht]
  have w1 : IntKind.i64.wrap (a + y) = a + y := IntWalk.i64_in _ (by omega)
  have w2 : IntKind.i64.wrap z = z := IntWalk.i64_in _ (by omega)
  have HSZ := Lib.hid hsz
  have HC := Lib.hid hcell
  obtain ⟨n, hn⟩ : ∃ n, c.length = n := ⟨_, rfl⟩
  rw [hn] at hS hC hi2 HC
  have hii : (i : Int) < (n : Int) := by omega
  have hcap : n ≤ cap := hS.2.1
  have hcm := hS.2.2.1
  unfold maxLen at hcm
  clear hsz hcell ht hxe hye hmem hab hm hn
  obtain ⟨B, hB⟩ : ∃ B, w.heap.size = B := ⟨_, rfl⟩
  have hfar := Below.refl B w
  have hszw : B ≤ w.heap.size := by omega
  go_enter Tryz.func135, Tryz.ntmps135
  go_upto_region 1 with (fail)
  refine wp_region_held_drew (S := fun W => Blk W ga #[.int .i64 a] 3 ∧ Blk W gc #[.slice (some ⟨g, o, none⟩) n cap] 48 ∧ SL W lo hi 1 (some ⟨g, o, none⟩) n cap (intsV c)) (by kernel_rfl) (⟨hA.drew, hC.drew, hS.drew⟩) (fun hH => ?_)
  refine tk 0 hH (y := (.inl ⟨by rfl, fun w hS => by (have c := (show w.cell? ⟨ga, 0, none⟩ = some (.int .i64 a) from by simpa using hS.1.cell 0); go_simp; try rfl)⟩)) (k := ?_)
  refine tk 1 hH (y := (.inl ⟨by rfl, fun w hS => by (have c := (show w.cell? ⟨gc, 0, none⟩ = some (.slice (some ⟨g, o, none⟩) n cap) from by simpa using hS.2.1.cell 0); go_simp; try rfl)⟩)) (k := ?_)
  refine tk 2 hH (y := yp) (k := ?_)
  refine tk 3 hH (y := yp) (k := ?_)
  refine tk 4 hH (y := (.inl ⟨by rfl, fun w hS => by (have c := (HC.out _ hS.2.2); go_simp; try rfl)⟩)) (k := ?_)
  refine tk 7 hH (y := (.inl ⟨by rfl, fun w hS => by (have c := (show w.cell? ⟨ga, 0, none⟩ = some (.int .i64 a) from by simpa using hS.1.cell 0); go_simp; try rfl)⟩)) (k := ?_)
  refine tk 8 hH (y := (.inl ⟨by rfl, fun w hS => by (have c := (show w.cell? ⟨gc, 0, none⟩ = some (.slice (some ⟨g, o, none⟩) n cap) from by simpa using hS.2.1.cell 0); go_simp; try rfl)⟩)) (k := ?_)
  refine tk 9 hH (y := yp) (k := ?_)
  refine tk 10 hH (y := yp) (k := ?_)
  refine tk 11 hH (y := (.inl ⟨by rfl, fun w hS => by (have c := (HC.out _ hS.2.2); go_simp; try rfl)⟩)) (k := ?_)
  refine wpAnyH_ready (rs := [5]) (by kernel_rfl) (by simp) ?_
  refine rc (h := fun K hK => ?_) (r := AllReadyH.nil)
  go_simp
  refine (HSZ.out _).mono ?_
  rintro r wq ⟨rfl, rfl⟩
  go_wp2_with fail
  refine hK.out _ _ hH (fun hH => ?_)
  clear hK K
  try simp only [Act.put, sa, List.set_cons_zero, List.set_cons_succ]
  refine tk 6 hH (y := yp) (k := ?_)
  refine wpAnyH_ready (rs := [12]) (by kernel_rfl) (by simp) ?_
  refine rc (h := fun K hK => ?_) (r := AllReadyH.nil)
  go_simp
  refine (HSZ.out _).mono ?_
  rintro r wq ⟨rfl, rfl⟩
  go_wp2_with fail
  refine hK.out _ _ hH (fun hH => ?_)
  clear hK K
  try simp only [Act.put, sa, List.set_cons_zero, List.set_cons_succ]
  refine tk 13 hH (y := yp) (k := ?_)
  refine tk 14 hH (y := yp) (k := ?_)
  refine tk 15 hH (y := yp) (k := ?_)
  refine wpAnyH_done (by kernel_rfl) ?_ _
  go_wp2_with fail
  go_ret
  exact ⟨rfl, (by (try rw [hB]); exact bl_)⟩
set_option maxRecDepth 100000 in
set_option maxHeartbeats 1600000 in
theorem Find2_any (y : List Int) (hy : ∀ x ∈ y, 0 ≤ x ∧ x ≤ 8) (gq gy yc n : Nat) (hn : y.length = n) (q : Int) (hq0 : 0 ≤ q) (hq1 : q ≤ 1000) (i : Nat) (hi2 : i < n) (hn8 : n ≤ 8) (w : World)
    (hQ : Blk w gq #[.int .i64 q] 3) (hC : Blk w yc #[.slice (some ⟨gy, 0, none⟩) n n] 48) (hY : Blk w gy (arrV y) 3) :
    Calls Tryz.prog 137 #[.int .i64 i, .pointer (some ⟨gq, 0, none⟩), .pointer (some ⟨yc, 0, none⟩)] w fun e w' => e = .returned (.int .i64 (botV y q i)) ∧ Below w.heap.size w w' := by
  have hmem : y.getD i 0 ∈ y := by rw [List.getD_eq_getElem?_getD, List.getElem?_eq_getElem (by omega)]; exact List.getElem_mem _
  have hxb := hy _ hmem
  have hcell := fun W (h : Blk W gy (arrV y) 3) => (h.cell i).trans (arr_get (l := y) (by omega))
  have hb : botV y q i = q + 2 * y.getD i 0 + 1 := rfl
  rw [hb]
  obtain ⟨x, hx⟩ : ∃ x, y.getD i 0 = x := ⟨_, rfl⟩
  rw [hx] at hxb ⊢
  simp only [hx] at hcell
  have HC := Lib.hid hcell
  have w1 : IntKind.i64.wrap (2 * x) = 2 * x := IntWalk.i64_in _ (by omega)
  have w2 : IntKind.i64.wrap (q + 2 * x) = q + 2 * x := IntWalk.i64_in _ (by omega)
  have w3 : IntKind.i64.wrap (q + 2 * x + 1) = q + 2 * x + 1 := IntWalk.i64_in _ (by omega)
  have hii : (i : Int) < (n : Int) := by omega
  clear hcell hmem hb hx
  obtain ⟨B, hB⟩ : ∃ B, w.heap.size = B := ⟨_, rfl⟩
  have hfar := Below.refl B w
  have hszw : B ≤ w.heap.size := by omega
  go_enter Tryz.func137, Tryz.ntmps137
  go_upto_region 1 with (fail)
  refine wp_region_held_drew (S := fun W => Blk W gq #[.int .i64 q] 3 ∧ Blk W yc #[.slice (some ⟨gy, 0, none⟩) n n] 48 ∧ Blk W gy (arrV y) 3) (by kernel_rfl) (⟨hQ.drew, hC.drew, hY.drew⟩) (fun hH => ?_)
  refine tk 0 hH (y := (.inl ⟨by rfl, fun w hS => by (have c := (show w.cell? ⟨gq, 0, none⟩ = some (.int .i64 q) from by simpa using hS.1.cell 0); go_simp; try rfl)⟩)) (k := ?_)
  refine tk 1 hH (y := (.inl ⟨by rfl, fun w hS => by (have c := (show w.cell? ⟨yc, 0, none⟩ = some (.slice (some ⟨gy, 0, none⟩) n n) from by simpa using hS.2.1.cell 0); go_simp; try rfl)⟩)) (k := ?_)
  refine tk 2 hH (y := yp) (k := ?_)
  refine tk 3 hH (y := yp) (k := ?_)
  refine tk 4 hH (y := (.inl ⟨by rfl, fun w hS => by (have c := (HC.out _ hS.2.2); go_simp; try rfl)⟩)) (k := ?_)
  refine tk 5 hH (y := yp) (k := ?_)
  refine tk 6 hH (y := yp) (k := ?_)
  refine tk 7 hH (y := yp) (k := ?_)
  refine tk 8 hH (y := yp) (k := ?_)
  refine wpAnyH_done (by kernel_rfl) ?_ _
  go_wp2_with fail
  go_ret
  exact ⟨rfl, (by (try rw [hB]); exact bl_)⟩
end Go.Proofs.YtkoljgmapclhkaaGreatDoor

namespace Go.Proofs.YtkoljgmapclhkaaGreatDoor
open Go.RowKit

theorem Cell_atE {v a c : Int} {ok : Bool} (h : Sp.cellOf v = (a, c, ok)) (w : World) :
    Calls Tryz.prog 111 #[.int .i64 v] w fun e W' => e = .returned (.tuple #[.int .i64 a, .int .i64 c, .bool ok]) ∧ Below w.heap.size w W' :=
  (Cell_any v w).mono fun e W' ⟨he, hb⟩ => ⟨by rw [he, h], hb⟩
set_option maxHeartbeats 800000 in
theorem LaplPut_any (g : Nat) {b : Int} {e : Sp.Enc} (hd : e.Ok b) (hb : b ≤ 1000000000) (x : Int) (h1 : -24 ≤ x) (h2 : x ≤ 24) (v : Value) (w : World) (hB : Blk w g (encC e v) 177) (hR : Row w 5 v (bytesV e.out)) :
    Calls Tryz.prog 90 #[.pointer (some ⟨g, 0, none⟩), .int .i64 x] w fun r w' => r = .returned (.int .i64 0) ∧ ∃ v', Blk w' g (encC (e.put (Sp.cellOf x).1 (Sp.cellOf x).2.1 32768) v') 177 ∧ Row w' 5 v' (bytesV (e.put (Sp.cellOf x).1 (Sp.cellOf x).2.1 32768).out) ∧
      Kept (EncS g v) w w' ∧ (∀ k, v'.ownBlock = some k → v.ownBlock = some k ∨ w.heap.size ≤ k) := by
  obtain ⟨a, c, hci⟩ := Sp.cell_is x h1 h2
  rw [hci.eq]
  have HC := Lib.hid hci.eq
  have hcell : Sp.cellIs a c 32768 := by have := hci.a0; have := hci.c8; have := hci.ac; unfold Sp.cellIs; omega
  clear hci
  go_enter Tryz.func90, Tryz.ntmps90
  go_wp2_with fail
  refine (Cell_atE HC.out _).mono ?_
  rintro r w1 ⟨rfl, hb1⟩
  have hB1 := hB.newB hb1
  have hR1 := hR.keep (Kept.of_below (S := fun _ => False) hb1) (fun _ _ h => h)
  go_wp2_with fail
  refine (Put_any g hd hb hcell v _ hB1 hR1).mono ?_
  rintro r w2 ⟨rfl, v2, hB2, hR2, hK2, hF2⟩
  go_wp2_with fail
  go_ret
  refine ⟨rfl, v2, hB2, hR2, (Kept.of_below hb1).trans hK2, fun k hk => (hF2 k hk).imp id (fun h => Nat.le_trans hb1.size h)⟩
end Go.Proofs.YtkoljgmapclhkaaGreatDoor
