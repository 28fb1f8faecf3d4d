/- The walk of the document's range decoder: a cell taken (spoolref07.Take). The walks of the document's reference for layer 8. -/
import Derived.Test.YtmfihaaiddolmaaGreatDoorLot9
import Derived.Test.YtmfihaaiddolmaaGreatDoorLot1
import Derived.Test.YtmfihaaiddolmaaGreatDoorLot0
set_option linter.unusedSimpArgs false
set_option linter.unusedVariables false
namespace Go.Proofs.YtmfihaaiddolmaaGreatDoor
open Go.RowKit

def cellC (x y t : Int) : Array Value := #[.int .i64 x, .int .i64 y, .int .i64 t]
structure TakeW (w wr : World) (B : Nat) (d : Sp.Dec) : Prop where
  dec : Blk wr B (rdecC d) 87
  res : Blk wr (B + 2) #[.string ⟨#[]⟩, .int .i64 0, .int .i64 0, .int .i64 0] 87
  far : Below B w wr
theorem TakeW.drew {w wr : World} {B : Nat} {d : Sp.Dec} (h : TakeW w wr B d) : TakeW w wr.drew B d := ⟨h.dec.drew, h.res.drew, h.far.drew⟩
theorem TakeW.set {w wr : World} {B : Nat} {d d' : Sp.Dec} (h : TakeW w wr B d) (i : Nat) (v : Value) (e : (rdecC d).setIfInBounds i v = rdecC d') : TakeW w (wr.setCell ⟨B, i, none⟩ v) B d' :=
  ⟨by rw [← e]; exact h.dec.set i v, h.res.other (by simp only []; omega) _, h.far.setCell (by show B ≤ B; omega) _⟩
set_option maxRecDepth 100000 in
set_option maxHeartbeats 4000000 in
theorem RTake_any {b : Int} {d : Sp.Dec} (hd : d.Ok b) (hb : b ≤ 1000000) {x y t : Int} (hc : Sp.cellIs x y t) (w : World) :
    Calls Tryz.prog 46 #[.agg (rdecC d), .agg (cellC x y t)] w fun e w' => e = .returned (.agg (rdecC (d.take x y t))) ∧ Below w.heap.size w w' := by
  have hmid := Sp.Dec.raw_mid hd hc
  obtain ⟨R, hR⟩ : ∃ R, d.take x y t = R := ⟨_, rfl⟩
  rw [hR]
  have HR := Lib.hid hR
  have HM := Lib.hid hmid
  clear hR hmid
  obtain ⟨s, a, c, r, n⟩ := d
  obtain ⟨h1, h2, h3, h4, h5, h6, h7, h8⟩ := hd
  obtain ⟨g1, g2, g3, g4, g5, g6⟩ := hc
  simp only at h1 h2 h3 h4 h5 h6 h7 h8
  obtain ⟨b1, b2, b3⟩ := Sp.step_bd h5 h6 g1 g2
  have m1 := Sp.mul_bd b1 g4 (by omega : y ≤ t) b3
  have m2 := Sp.mul_bd0 b1 g3 (by omega : x ≤ t) b3
  have htd : r.tdiv t = r / t := Int.tdiv_eq_ediv_of_nonneg (by omega)
  have hraw : (Sp.Dec.mk s a c r n).raw x y t = ⟨s, a, (c - r / t * x) % 4294967296, r / t * y, n⟩ := rfl
  rw [hraw] at HM
  have HR2 := Lib.hid (show (Sp.Dec.mk s a ((c - r / t * x) % 4294967296) (r / t * y) n).norm 3 = R from HR.out)
  obtain ⟨q, hq⟩ : ∃ q, r / t = q := ⟨_, rfl⟩
  rw [hq] at b1 b2 b3 m1 m2 htd HM HR2
  obtain ⟨u, hu⟩ : ∃ u, q * x = u := ⟨_, rfl⟩
  obtain ⟨v, hv⟩ : ∃ v, q * y = v := ⟨_, rfl⟩
  rw [hu] at m2
  rw [hv] at m1
  rw [hu, hv] at HM HR2
  have w1 : IntKind.i64.wrap u = u := IntWalk.i64_in _ (by omega)
  have w2 : IntKind.i64.wrap v = v := IntWalk.i64_in _ (by omega)
  have ht0 : ¬ t = 0 := by omega
  have hm : (c - u < 0 → c - u + 4294967296 = (c - u) % 4294967296) ∧ (¬ c - u < 0 → c - u = (c - u) % 4294967296) := by constructor <;> intro h <;> omega
  obtain ⟨z, hz⟩ : ∃ z, (c - u) % 4294967296 = z := ⟨_, rfl⟩
  rw [hz] at hm HM HR2
  clear hraw hq HR hz
  have hX0 := Blk.new w #[.string s, .int .i64 c, .int .i64 r, .int .i64 a] 87
  have hC0 := Blk.new (w.alloc (.cells #[.string s, .int .i64 c, .int .i64 r, .int .i64 a] 87)) #[.int .i64 x, .int .i64 y, .int .i64 t] 93
  have hN0 := Blk.new ((w.alloc (.cells #[.string s, .int .i64 c, .int .i64 r, .int .i64 a] 87)).alloc (.cells #[.int .i64 x, .int .i64 y, .int .i64 t] 93)) #[.string ⟨#[]⟩, .int .i64 0, .int .i64 0, .int .i64 0] 87
  have hb0 : Below w.heap.size w (((w.alloc (.cells #[.string s, .int .i64 c, .int .i64 r, .int .i64 a] 87)).alloc (.cells #[.int .i64 x, .int .i64 y, .int .i64 t] 93)).alloc (.cells #[.string ⟨#[]⟩, .int .i64 0, .int .i64 0, .int .i64 0] 87)) := (((Below.refl _ _).alloc (Nat.le_refl _) _).alloc (by simp) _).alloc (by simp; omega) _
  simp only [World.size_alloc] at hC0 hN0
  have hX := (hX0.alloc (.cells #[.int .i64 x, .int .i64 y, .int .i64 t] 93)).alloc (.cells #[.string ⟨#[]⟩, .int .i64 0, .int .i64 0, .int .i64 0] 87)
  have hC := hC0.alloc (.cells #[.string ⟨#[]⟩, .int .i64 0, .int .i64 0, .int .i64 0] 87)
  obtain ⟨B, hB⟩ : ∃ B, w.heap.size = B := ⟨_, rfl⟩
  rw [hB] at hX hC hN0 hb0
  show Calls Tryz.prog 46 #[.agg #[.string s, .int .i64 c, .int .i64 r, .int .i64 a], .agg #[.int .i64 x, .int .i64 y, .int .i64 t]] w _
  clear hX0 hC0
  go_enter Tryz.func46, Tryz.ntmps46
  go_upto_region 1 with (fail)
  try simp only [hB]
  generalize (((w.alloc (.cells #[.string s, .int .i64 c, .int .i64 r, .int .i64 a] 87)).alloc (.cells #[.int .i64 x, .int .i64 y, .int .i64 t] 93)).alloc (.cells #[.string ⟨#[]⟩, .int .i64 0, .int .i64 0, .int .i64 0] 87)) = w0 at hX hC hN0 hb0 ⊢
  have c1 := hX.cell 1
  have c2 := hX.cell 2
  have k0 := hC.cell 0
  have k1 := hC.cell 1
  have k2 := hC.cell 2
  simp only [List.getElem?_toArray, List.getElem?_cons_zero, List.getElem?_cons_succ] at c1 c2 k0 k1 k2
  have f1 := hX.frozen 1
  have f2 := hX.frozen 2
  have hstart : ∃ W, W = w0 := ⟨_, rfl⟩
  by_cases hneg : c - u < 0
  · have hz := hm.1 hneg
    clear hm
    go_wp2_with fail
    go_loopw [] (fun wr => ∃ (k : Nat) (d : Sp.Dec), d.Mid (b + 3) k ∧ Hid (d.norm k = R) ∧ TakeW w wr B d) (fun wr => far32 wr B 2)
    case atStart =>
      refine ⟨3, _, HM.out, HR2, ⟨?_, ?_, ?_⟩⟩
      · show Blk _ B #[.string s, .int .i64 z, .int .i64 v, .int .i64 a] _
        (apply Blk.mk_eq; (case h => repeat' (first | (with_reducible assumption) | (with_reducible apply Blk.drew) | (with_reducible apply Blk.drewN) | (with_reducible apply Blk.set) | ((with_reducible refine Blk.other ?_ ?ne _); case ne => (first | (simp only []; omega) | omega)) | (with_reducible apply Blk.alloc))); (case e => first | rfl | simp))
      · repeat' (first | (with_reducible assumption) | (with_reducible refine Blk.drew ?_) | (with_reducible refine Blk.drewN ?_ _) | (with_reducible apply Blk.set1) | ((with_reducible refine Blk.other ?_ ?ne _); case ne => (first | (simp only []; omega) | omega)) | (with_reducible refine Blk.alloc ?_ _))
      · repeat' (first | (with_reducible assumption) | (refine Below.setCell ?_ (by show B ≤ B; omega) _))
    case round =>
      obtain ⟨k, d, hmid, hn, hW⟩ := hrel
      have HM1 := Lib.hid hmid
      have hmid2 := hmid
      obtain ⟨s1, a1, e1, r1, n1⟩ := d
      obtain ⟨q1, q2, q3, q4, q5, q6, q7, q8, q9⟩ := hmid
      simp only at q1 q2 q3 q4 q5 q6 q7 q8
      clear q9
      have d0 := hW.dec.cell 0
      have d1 := hW.dec.cell 1
      have d2 := hW.dec.cell 2
      have d3 := hW.dec.cell 3
      simp only [rdecC, List.getElem?_toArray, List.getElem?_cons_zero, List.getElem?_cons_succ] at d0 d1 d2 d3
      have e1f := hW.dec.frozen 1
      have e2f := hW.dec.frozen 2
      have e3f := hW.dec.frozen 3
      by_cases hr : r1 < 16777216
      · obtain ⟨j, rfl⟩ := hmid2.pos hr
        clear hmid2
        have hbb := Sp.byteAt_bd s1 a1
        have hcall := fun w => RbyteAt_any s1 a1 q1 w
        have hstep : (Sp.Dec.mk s1 a1 e1 r1 n1).step = ⟨s1, a1 + 1, e1 * 256 % 4294967296 + Sp.byteAt s1 a1, r1 * 256, n1 + 1⟩ := rfl
        have hmod : (256 * e1 + Sp.byteAt s1 a1) % 4294967296 = e1 * 256 % 4294967296 + Sp.byteAt s1 a1 := by omega
        have HS := Lib.hid (Sp.Dec.step_mid HM1.out hr)
        have HN := Lib.hid (show (Sp.Dec.mk s1 a1 e1 r1 n1).step.norm j = R by have := hn.out; rwa [Sp.Dec.norm_step hr] at this)
        rw [hstep] at HS HN
        obtain ⟨yb, hyb⟩ : ∃ y, Sp.byteAt s1 a1 = y := ⟨_, rfl⟩
        rw [hyb] at hbb hmod HS HN
        simp only [hyb] at hcall
        obtain ⟨ce, hce⟩ : ∃ y, e1 * 256 % 4294967296 + yb = y := ⟨_, rfl⟩
        rw [hce] at hmod HS HN
        have htm : (256 * e1 + yb).tmod 4294967296 = ce := by rw [Int.tmod_eq_emod_of_nonneg (by omega)]; exact hmod
        have he : rdecC ⟨s1, a1, e1, r1, n1⟩ = #[.string s1, .int .i64 e1, .int .i64 r1, .int .i64 a1] := rfl
        have hd := hW.dec
        have hres := hW.res
        have hfar := hW.far
        rw [he] at hd
        clear hstep hyb hce he hW
        go_wp2_with fail
        go_region_with (first | (go_at_call_of 88 s1; refine (hcall _).mono ?_; rintro r5 w5 ⟨rfl, rfl⟩))
        all_goals
          go_wp2_with fail
          go_roundw
          case rel =>
            refine ⟨j, _, HS.out, HN, ⟨?_, ?_, ?_⟩⟩
            · show Blk _ B #[.string s1, .int .i64 ce, .int .i64 (r1 * 256), .int .i64 (a1 + 1)] _
              rw [Int.mul_comm r1 256]
              (apply Blk.mk_eq; (case h => repeat' (first | (with_reducible assumption) | (with_reducible apply Blk.drew) | (with_reducible apply Blk.drewN) | (with_reducible apply Blk.set) | ((with_reducible refine Blk.other ?_ ?ne _); case ne => (first | (simp only []; omega) | omega)) | (with_reducible apply Blk.alloc))); (case e => first | rfl | simp))
            · repeat' (first | (with_reducible assumption) | (with_reducible refine Blk.drew ?_) | (with_reducible refine Blk.drewN ?_ _) | (with_reducible apply Blk.set1) | ((with_reducible refine Blk.other ?_ ?ne _); case ne => (first | (simp only []; omega) | omega)) | (with_reducible refine Blk.alloc ?_ _))
            · repeat' (first | (with_reducible assumption) | (refine Below.drew ?_) | (refine Below.setCell ?_ (by show B ≤ B; omega) _))
          case measure =>
            rw [far32_eq d2]
            refine Nat.lt_of_le_of_lt (Nat.le_of_eq (far32_eq (k := .i64) (n := 256 * r1) ?_)) (by omega)
            refine (Blk.cell (cs := #[.string s1, .int .i64 ce, .int .i64 (256 * r1), .int .i64 (a1 + 1)]) (t := 87) ?_ 2).trans rfl
            (apply Blk.mk_eq; (case h => repeat' (first | (with_reducible assumption) | (with_reducible apply Blk.drew) | (with_reducible apply Blk.drewN) | (with_reducible apply Blk.set) | ((with_reducible refine Blk.other ?_ ?ne _); case ne => (first | (simp only []; omega) | omega)) | (with_reducible apply Blk.alloc))); (case e => first | rfl | simp))
      · have hn2 := hn.out
        rw [Sp.Dec.norm_done (by simp only; omega)] at hn2
        have hd := hW.dec
        have hres := hW.res
        have hfar := hW.far
        have hrg : wr.rangeAt B 0 [.string s1, .int .i64 e1, .int .i64 r1, .int .i64 a1] := fun j v hv => by rw [Nat.zero_add, hd.cell j, ← hv]; unfold rdecC; simp only [List.getElem?_toArray]
        have HN2 := Lib.hid hn2
        have hone : (#[.string s1, .int .i64 e1, .int .i64 r1, .int .i64 a1] : Array Value).all (·.oneCell') = true := by simp [Value.oneCell']
        have hinf : (Tryz.prog.info? 87).map (·.size) = some (#[.string s1, .int .i64 e1, .int .i64 r1, .int .i64 a1] : Array Value).size := by kernel_rfl
        have hnew := hres.setRow (new := #[.string s1, .int .i64 e1, .int .i64 r1, .int .i64 a1])
        have hfin := Below.setRow hfar (g := B + 2) (by omega) #[.string s1, .int .i64 e1, .int .i64 r1, .int .i64 a1]
        clear hn2 hmid2
        go_wp2_with (first | (refine wpList_load_mid rfl 87 (.tmp 2) rfl B 0 rfl [.string s1, .int .i64 e1, .int .i64 r1, .int .i64 a1] _ hrg Tryz.underlying87 rfl (by kernel_rfl) ?_) | (refine wpList_store_blk rfl 87 (.tmp 4) (.tmp 53) rfl (B + 2) _ #[.string s1, .int .i64 e1, .int .i64 r1, .int .i64 a1] rfl rfl 87 hres hinf rfl hone ?_))
        (try rw [Exit.noGoto_ret])
        exact bodyPost_ret (v := .agg #[.string s1, .int .i64 e1, .int .i64 r1, .int .i64 a1]) (results_cell_row Tryz.results46 _ _ (B + 2) 87 _ (0, 0) _ rfl hnew Tryz.underlying87 rfl (by kernel_rfl)) rfl ⟨by rw [← HN2.out]; rfl, by first | exact hfin | (rw [hB]; exact hfin)⟩
  · have hz := hm.2 hneg
    clear hm
    go_wp2_with fail
    go_loopw [] (fun wr => ∃ (k : Nat) (d : Sp.Dec), d.Mid (b + 3) k ∧ Hid (d.norm k = R) ∧ TakeW w wr B d) (fun wr => far32 wr B 2)
    case atStart =>
      refine ⟨3, _, HM.out, HR2, ⟨?_, ?_, ?_⟩⟩
      · show Blk _ B #[.string s, .int .i64 z, .int .i64 v, .int .i64 a] _
        (apply Blk.mk_eq; (case h => repeat' (first | (with_reducible assumption) | (with_reducible apply Blk.drew) | (with_reducible apply Blk.drewN) | (with_reducible apply Blk.set) | ((with_reducible refine Blk.other ?_ ?ne _); case ne => (first | (simp only []; omega) | omega)) | (with_reducible apply Blk.alloc))); (case e => first | rfl | simp))
      · repeat' (first | (with_reducible assumption) | (with_reducible refine Blk.drew ?_) | (with_reducible refine Blk.drewN ?_ _) | (with_reducible apply Blk.set1) | ((with_reducible refine Blk.other ?_ ?ne _); case ne => (first | (simp only []; omega) | omega)) | (with_reducible refine Blk.alloc ?_ _))
      · repeat' (first | (with_reducible assumption) | (refine Below.setCell ?_ (by show B ≤ B; omega) _))
    case round =>
      obtain ⟨k, d, hmid, hn, hW⟩ := hrel
      have HM1 := Lib.hid hmid
      have hmid2 := hmid
      obtain ⟨s1, a1, e1, r1, n1⟩ := d
      obtain ⟨q1, q2, q3, q4, q5, q6, q7, q8, q9⟩ := hmid
      simp only at q1 q2 q3 q4 q5 q6 q7 q8
      clear q9
      have d0 := hW.dec.cell 0
      have d1 := hW.dec.cell 1
      have d2 := hW.dec.cell 2
      have d3 := hW.dec.cell 3
      simp only [rdecC, List.getElem?_toArray, List.getElem?_cons_zero, List.getElem?_cons_succ] at d0 d1 d2 d3
      have e1f := hW.dec.frozen 1
      have e2f := hW.dec.frozen 2
      have e3f := hW.dec.frozen 3
      by_cases hr : r1 < 16777216
      · obtain ⟨j, rfl⟩ := hmid2.pos hr
        clear hmid2
        have hbb := Sp.byteAt_bd s1 a1
        have hcall := fun w => RbyteAt_any s1 a1 q1 w
        have hstep : (Sp.Dec.mk s1 a1 e1 r1 n1).step = ⟨s1, a1 + 1, e1 * 256 % 4294967296 + Sp.byteAt s1 a1, r1 * 256, n1 + 1⟩ := rfl
        have hmod : (256 * e1 + Sp.byteAt s1 a1) % 4294967296 = e1 * 256 % 4294967296 + Sp.byteAt s1 a1 := by omega
        have HS := Lib.hid (Sp.Dec.step_mid HM1.out hr)
        have HN := Lib.hid (show (Sp.Dec.mk s1 a1 e1 r1 n1).step.norm j = R by have := hn.out; rwa [Sp.Dec.norm_step hr] at this)
        rw [hstep] at HS HN
        obtain ⟨yb, hyb⟩ : ∃ y, Sp.byteAt s1 a1 = y := ⟨_, rfl⟩
        rw [hyb] at hbb hmod HS HN
        simp only [hyb] at hcall
        obtain ⟨ce, hce⟩ : ∃ y, e1 * 256 % 4294967296 + yb = y := ⟨_, rfl⟩
        rw [hce] at hmod HS HN
        have htm : (256 * e1 + yb).tmod 4294967296 = ce := by rw [Int.tmod_eq_emod_of_nonneg (by omega)]; exact hmod
        have he : rdecC ⟨s1, a1, e1, r1, n1⟩ = #[.string s1, .int .i64 e1, .int .i64 r1, .int .i64 a1] := rfl
        have hd := hW.dec
        have hres := hW.res
        have hfar := hW.far
        rw [he] at hd
        clear hstep hyb hce he hW
        go_wp2_with fail
        go_region_with (first | (go_at_call_of 88 s1; refine (hcall _).mono ?_; rintro r5 w5 ⟨rfl, rfl⟩))
        all_goals
          go_wp2_with fail
          go_roundw
          case rel =>
            refine ⟨j, _, HS.out, HN, ⟨?_, ?_, ?_⟩⟩
            · show Blk _ B #[.string s1, .int .i64 ce, .int .i64 (r1 * 256), .int .i64 (a1 + 1)] _
              rw [Int.mul_comm r1 256]
              (apply Blk.mk_eq; (case h => repeat' (first | (with_reducible assumption) | (with_reducible apply Blk.drew) | (with_reducible apply Blk.drewN) | (with_reducible apply Blk.set) | ((with_reducible refine Blk.other ?_ ?ne _); case ne => (first | (simp only []; omega) | omega)) | (with_reducible apply Blk.alloc))); (case e => first | rfl | simp))
            · repeat' (first | (with_reducible assumption) | (with_reducible refine Blk.drew ?_) | (with_reducible refine Blk.drewN ?_ _) | (with_reducible apply Blk.set1) | ((with_reducible refine Blk.other ?_ ?ne _); case ne => (first | (simp only []; omega) | omega)) | (with_reducible refine Blk.alloc ?_ _))
            · repeat' (first | (with_reducible assumption) | (refine Below.drew ?_) | (refine Below.setCell ?_ (by show B ≤ B; omega) _))
          case measure =>
            rw [far32_eq d2]
            refine Nat.lt_of_le_of_lt (Nat.le_of_eq (far32_eq (k := .i64) (n := 256 * r1) ?_)) (by omega)
            refine (Blk.cell (cs := #[.string s1, .int .i64 ce, .int .i64 (256 * r1), .int .i64 (a1 + 1)]) (t := 87) ?_ 2).trans rfl
            (apply Blk.mk_eq; (case h => repeat' (first | (with_reducible assumption) | (with_reducible apply Blk.drew) | (with_reducible apply Blk.drewN) | (with_reducible apply Blk.set) | ((with_reducible refine Blk.other ?_ ?ne _); case ne => (first | (simp only []; omega) | omega)) | (with_reducible apply Blk.alloc))); (case e => first | rfl | simp))
      · have hn2 := hn.out
        rw [Sp.Dec.norm_done (by simp only; omega)] at hn2
        have hd := hW.dec
        have hres := hW.res
        have hfar := hW.far
        have hrg : wr.rangeAt B 0 [.string s1, .int .i64 e1, .int .i64 r1, .int .i64 a1] := fun j v hv => by rw [Nat.zero_add, hd.cell j, ← hv]; unfold rdecC; simp only [List.getElem?_toArray]
        have HN2 := Lib.hid hn2
        have hone : (#[.string s1, .int .i64 e1, .int .i64 r1, .int .i64 a1] : Array Value).all (·.oneCell') = true := by simp [Value.oneCell']
        have hinf : (Tryz.prog.info? 87).map (·.size) = some (#[.string s1, .int .i64 e1, .int .i64 r1, .int .i64 a1] : Array Value).size := by kernel_rfl
        have hnew := hres.setRow (new := #[.string s1, .int .i64 e1, .int .i64 r1, .int .i64 a1])
        have hfin := Below.setRow hfar (g := B + 2) (by omega) #[.string s1, .int .i64 e1, .int .i64 r1, .int .i64 a1]
        clear hn2 hmid2
        go_wp2_with (first | (refine wpList_load_mid rfl 87 (.tmp 2) rfl B 0 rfl [.string s1, .int .i64 e1, .int .i64 r1, .int .i64 a1] _ hrg Tryz.underlying87 rfl (by kernel_rfl) ?_) | (refine wpList_store_blk rfl 87 (.tmp 4) (.tmp 53) rfl (B + 2) _ #[.string s1, .int .i64 e1, .int .i64 r1, .int .i64 a1] rfl rfl 87 hres hinf rfl hone ?_))
        (try rw [Exit.noGoto_ret])
        exact bodyPost_ret (v := .agg #[.string s1, .int .i64 e1, .int .i64 r1, .int .i64 a1]) (results_cell_row Tryz.results46 _ _ (B + 2) 87 _ (0, 0) _ rfl hnew Tryz.underlying87 rfl (by kernel_rfl)) rfl ⟨by rw [← HN2.out]; rfl, by first | exact hfin | (rw [hB]; exact hfin)⟩
end Go.Proofs.YtmfihaaiddolmaaGreatDoor

namespace Go.Proofs.YtmfihaaiddolmaaGreatDoor
open Go.RowKit

set_option maxHeartbeats 800000 in
theorem Width_pos (v : Int) (k : Nat) (hv : v = k ∨ v = -(k : Int)) (h1 : 1 ≤ k) (h2 : k ≤ 24) (w : World) :
    Calls Tryz.prog 89 #[.int .i64 v] w fun e w' => e = .returned (.int .i64 (Sp.lw k)) ∧ w = w' := by
  rcases hv with rfl | rfl
  · go_enter Tryz.func89, Tryz.ntmps89
    have h0 : ((k : Int) == 0) = false := by simp; omega
    go_wp2_with fail
    go_loop [5, 6] (fun x m => ∃ j : Nat, 1 ≤ j ∧ j ≤ k ∧ m = .int .i64 j ∧ x = .int .i64 (Sp.hv j)) (fun _ m => k - (intOf m).toNat)
    case atStart => exact ⟨1, by omega, by omega, rfl, rfl⟩
    case round =>
      obtain ⟨j, hj1, hj2, rfl, rfl⟩ := hrel
      have hb := Sp.hv_bd j
      by_cases hlt : j < k
      · have hs := Lib.hid (Sp.hv_step hj1)
        go_wp2
        go_round
        case rel => exact ⟨j + 1, by omega, by omega, by go_num, by rw [hs.out]⟩
        case measure => simp [intOf]; omega
      · obtain rfl : j = k := by omega
        go_wp2
        all_goals
          go_ret
          exact ⟨retInt (by first | exact (Sp.lw_hv _).symm | (rw [Sp.lw_hv]; omega)), rfl⟩
  · go_enter Tryz.func89, Tryz.ntmps89
    have h0 : ((k : Int) == 0) = false := by simp; omega
    go_wp2_with fail
    go_loop [5, 6] (fun x m => ∃ j : Nat, 1 ≤ j ∧ j ≤ k ∧ m = .int .i64 j ∧ x = .int .i64 (Sp.hv j)) (fun _ m => k - (intOf m).toNat)
    case atStart => exact ⟨1, by omega, by omega, rfl, rfl⟩
    case round =>
      obtain ⟨j, hj1, hj2, rfl, rfl⟩ := hrel
      have hb := Sp.hv_bd j
      by_cases hlt : j < k
      · have hs := Lib.hid (Sp.hv_step hj1)
        go_wp2
        go_round
        case rel => exact ⟨j + 1, by omega, by omega, by go_num, by rw [hs.out]⟩
        case measure => simp [intOf]; omega
      · obtain rfl : j = k := by omega
        go_wp2
        all_goals
          go_ret
          exact ⟨retInt (by first | exact (Sp.lw_hv _).symm | (rw [Sp.lw_hv]; omega)), rfl⟩

set_option maxHeartbeats 800000 in
theorem Width_zero (w : World) : Calls Tryz.prog 89 #[.int .i64 0] w fun e w' => e = .returned (.int .i64 12568) ∧ w = w' := by
  go_enter Tryz.func89, Tryz.ntmps89
  go_wp2_with fail
  go_loop [3, 4] (fun n m => ∃ j : Nat, j ≤ 24 ∧ m = .int .i64 ((j : Int) + 1) ∧ n = .int .i64 (Sp.lrest j)) (fun _ m => 25 - (intOf m).toNat)
  case atStart => exact ⟨0, by omega, rfl, rfl⟩
  case round =>
    obtain ⟨j, hj, rfl, rfl⟩ := hrel
    have hb := Sp.lrest_bd j
    have hw := Sp.lw_bd (j + 1)
    by_cases hlt : j < 24
    · go_wp2_with (go_at_call 89; refine (Width_pos _ (j + 1) (.inl (by omega)) (by omega) (by omega) _).mono ?_; rintro e w' ⟨rfl, rfl⟩)
      go_round
      case rel => exact ⟨j + 1, by omega, by go_num, rfl⟩
      case measure => simp [intOf]; omega
    · obtain rfl : j = 24 := by omega
      go_wp2_with fail
      go_ret
      exact ⟨retInt Sp.lrest_24, rfl⟩

theorem Width_any (v : Int) (h1 : -24 ≤ v) (h2 : v ≤ 24) (w : World) :
    Calls Tryz.prog 89 #[.int .i64 v] w fun e w' => e = .returned (.int .i64 (Sp.cellOf v).2.1) ∧ w = w' := by
  by_cases h0 : v = 0
  · subst h0; rw [Sp.cell_0]; exact Width_zero w
  · by_cases hp : 0 < v
    · have := (Sp.cell_lw v.toNat (by omega) (by omega)).1
      rw [show ((v.toNat : Nat) : Int) = v from by omega] at this
      rw [this]
      exact Width_pos v v.toNat (.inl (by omega)) (by omega) (by omega) w
    · have := (Sp.cell_lw (-v).toNat (by omega) (by omega)).2
      rw [show -(((-v).toNat : Nat) : Int) = v from by omega] at this
      rw [this]
      exact Width_pos v (-v).toNat (.inr (by omega)) (by omega) (by omega) w

set_option maxHeartbeats 800000 in
theorem RCell_any (v : Int) (h1 : -24 ≤ v) (h2 : v ≤ 24) (w : World) :
    Calls Tryz.prog 47 #[.int .i64 v] w fun e w' => e = .returned (.agg #[.int .i64 (Sp.cellOf v).1, .int .i64 (Sp.cellOf v).2.1, .int .i64 32768]) ∧ Below w.heap.size w w' := by
  have hst := (Sp.st_cell (Sp.idxN v) (Sp.idxN_bd h1 h2)).1
  rw [Sp.ordN_idx] at hst
  rw [hst]
  have hlast := Sp.idxN_bd h1 h2
  have ho := Sp.ordN_idx v
  obtain ⟨n, hn⟩ : ∃ n, Sp.idxN v = n := ⟨_, rfl⟩
  rw [hn] at hlast ho ⊢
  have HO := Lib.hid ho
  clear hst hn ho
  go_enter Tryz.func47, Tryz.ntmps47
  go_wp2_with fail
  go_loopw [3, 4] (fun a x wr => ∃ i : Nat, i ≤ n ∧ a = .int .i64 (Sp.stN i) ∧ x = .int .i64 (Sp.ordN i) ∧ wr = w.alloc (.cells #[.int .i64 0, .int .i64 0, .int .i64 0] 93)) (fun _ x _ => n - Sp.idxN (intOf x))
  case atStart => exact ⟨0, by omega, rfl, rfl, rfl⟩
  case round =>
    obtain ⟨i, hi, rfl, rfl, rfl⟩ := hrel
    have hb := Sp.st_bd i
    have hob := Sp.ordN_bd (i := i) (by omega)
    have hcb := Sp.cellOf_bd (Sp.ordN i)
    by_cases hlt : i < n
    · have hne : Sp.ordN i ≠ v := fun e => by
        have := HO.out
        rw [← this] at e
        have := Sp.ordN_inj e
        omega
      have hnb : (Sp.ordN i != v) = true := by simp [hne]
      have hstep := Sp.ordN_step i
      by_cases hp : 0 < Sp.ordN i
      · rw [if_pos hp] at hstep
        have HS := Lib.hid hstep
        clear hstep hne
        go_wp2_with (go_at_call 89; refine (Width_any _ hob.1 hob.2 _).mono ?_; rintro e w' ⟨rfl, rfl⟩)
        go_roundw
        case rel => exact ⟨i + 1, by omega, rfl, by rw [HS.out], by first | trivial | rfl⟩
        case measure =>
          have e1 : ∀ j, Sp.idxN (Sp.ordN j) = j := fun j => Sp.ordN_inj (Sp.ordN_idx _)
          simp only [intOf]
          rw [← HS.out, e1, e1]; omega
      · rw [if_neg hp] at hstep
        have HS := Lib.hid hstep
        clear hstep hne
        go_wp2_with (go_at_call 89; refine (Width_any _ hob.1 hob.2 _).mono ?_; rintro e w' ⟨rfl, rfl⟩)
        go_roundw
        case rel => exact ⟨i + 1, by omega, rfl, by rw [HS.out], by first | trivial | rfl⟩
        case measure =>
          have e1 : ∀ j, Sp.idxN (Sp.ordN j) = j := fun j => Sp.ordN_inj (Sp.ordN_idx _)
          simp only [intOf]
          rw [← HS.out, e1, e1]; omega
    · obtain rfl : i = n := by omega
      have hnb : (Sp.ordN i != v) = false := by simp [HO.out]
      go_wp2_with (go_at_call 89; refine (Width_any v h1 h2 _).mono ?_; rintro e w' ⟨rfl, rfl⟩)
      exact bodyPost_ret (v := .agg #[.int .i64 (Sp.stN i), .int .i64 (Sp.cellOf v).2.1, .int .i64 32768]) (by simp [results, Tryz.results47, go_sem]) rfl ⟨rfl, by go_grown⟩

set_option maxHeartbeats 800000 in
theorem RFind_any (p : Int) (h1 : 0 ≤ p) (h2 : p < 32768) (w : World) :
    Calls Tryz.prog 44 #[.int .i64 p] w fun e w' => e = .returned (.int .i64 (Sp.findOf p).1) ∧ w = w' := by
  go_enter Tryz.func44, Tryz.ntmps44
  go_wp2_with fail
  go_loop [0, 3] (fun a x => ∃ i : Nat, i ≤ 48 ∧ Sp.stN i ≤ p ∧ a = .int .i64 (p - Sp.stN i) ∧ x = .int .i64 (Sp.ordN i)) (fun _ x => 49 - Sp.idxN (intOf x))
  case atStart => exact ⟨0, by omega, h1, by simp [Sp.stN], rfl⟩
  case round =>
    obtain ⟨i, hi, hle, rfl, rfl⟩ := hrel
    have hb := Sp.st_bd i
    have hob := Sp.ordN_bd (i := i) (by omega)
    have hcb := Sp.cellOf_bd (Sp.ordN i)
    have hcell := Sp.st_is (i := i) (by omega)
    by_cases hlt : (Sp.cellOf (Sp.ordN i)).2.1 ≤ p - Sp.stN i
    · have hi48 : i < 48 := by
        rcases Nat.lt_or_ge i 48 with h | h
        · exact h
        · obtain rfl : i = 48 := by omega
          have : Sp.stN 49 = Sp.stN 48 + (Sp.cellOf (Sp.ordN 48)).2.1 := rfl
          rw [Sp.st_49] at this
          omega
      have hstep := Sp.ordN_step i
      have hnx : Sp.stN (i + 1) = Sp.stN i + (Sp.cellOf (Sp.ordN i)).2.1 := rfl
      have HX := Lib.hid hnx
      clear hcell hnx
      by_cases hp : 0 < Sp.ordN i
      · rw [if_pos hp] at hstep
        have HS := Lib.hid hstep
        clear hstep
        go_wp2_with (go_at_call 89; refine (Width_any _ hob.1 hob.2 _).mono ?_; rintro e w' ⟨rfl, rfl⟩)
        go_round
        case rel => exact ⟨i + 1, by omega, by rw [HX.out]; omega, by rw [HX.out]; go_num, by rw [HS.out]⟩
        case measure =>
          have e1 : ∀ j, Sp.idxN (Sp.ordN j) = j := fun j => Sp.ordN_inj (Sp.ordN_idx _)
          simp only [intOf]
          rw [← HS.out, e1, e1]; omega
      · rw [if_neg hp] at hstep
        have HS := Lib.hid hstep
        clear hstep
        go_wp2_with (go_at_call 89; refine (Width_any _ hob.1 hob.2 _).mono ?_; rintro e w' ⟨rfl, rfl⟩)
        go_round
        case rel => exact ⟨i + 1, by omega, by rw [HX.out]; omega, by rw [HX.out]; go_num, by rw [HS.out]⟩
        case measure =>
          have e1 : ∀ j, Sp.idxN (Sp.ordN j) = j := fun j => Sp.ordN_inj (Sp.ordN_idx _)
          simp only [intOf]
          rw [← HS.out, e1, e1]; omega
    · have hf := Lib.hid (Sp.find_unique h1 h2 (Sp.cellOf_mem hcell) hle (by omega))
      clear hcell
      go_wp2_with (go_at_call 89; refine (Width_any _ hob.1 hob.2 _).mono ?_; rintro e w' ⟨rfl, rfl⟩)
      go_ret
      exact ⟨by rw [hf.out]; rfl, rfl⟩

end Go.Proofs.YtmfihaaiddolmaaGreatDoor
