/- The walk of spoollaw07.RangPuts: whatever the size and the cells, it returns true. -/
import Derived.Test.YtlhjkichambaoaaDoorLaw7
import Derived.Test.YtlhjkichambaoaaDoorRangR4
import Derived.Test.YtlhjkichambaoaaDoorRangP
import Derived.Test.YtlhjkichambaoaaDoorSpecRangB
import Derived.Deep.RegionHeld3
import Derived.Deep.RegionWith
namespace Go.Proofs.YtlhjkichambaoaaDoor
open Go.RowKit

/-- A slice of cells that came in: its form. -/
theorem Three.form {W : World} {v : Value} {l : List C3} (h : Three W v l) : ∃ o cap, v = .slice o l.length cap ∧ l.length ≤ cap ∧ cap ≤ 9223372036854775807 ∧
    ∀ (i : Nat) (c : C3), l[i]? = some c → ∃ a, o = some a ∧ a.block < W.heap.size ∧ W.cell? (a.add (i * 3)) = some (.int .i64 c.1) ∧ W.cell? ⟨(a.add (i * 3)).block, (a.add (i * 3)).off + 1, none⟩ = some (.int .i64 c.2.1) ∧ W.cell? ⟨(a.add (i * 3)).block, (a.add (i * 3)).off + 2, none⟩ = some (.int .i64 c.2.2) ∧ I64 c.1 ∧ I64 c.2.1 ∧ I64 c.2.2 := by
  rcases h with ⟨rfl, rfl⟩ | ⟨a, cap, rfl, h1, h2, h3⟩
  · exact ⟨none, 0, rfl, Nat.le_refl _, by omega, fun i c hc => by simp at hc⟩
  · exact ⟨some a, cap, rfl, h1, h2, fun i c hc => ⟨a, rfl, h3 i c hc⟩⟩
theorem Sp.Enc.Ok.mono {e : Sp.Enc} {b c : Int} (h : e.Ok b) (hbc : b ≤ c) : e.Ok c := by
  obtain ⟨h1, h2, h3, h4, h5, h6, h7, h8⟩ := h
  exact ⟨h1, h2, h3, h4, h5, by omega, h7, by omega⟩

set_option maxRecDepth 100000 in
set_option maxHeartbeats 3200000 in
theorem RangPuts_any (size : Int) (v : Value) (l : List C3) (w : World) (h3 : Three w v l) : Calls Tryd.prog 3 #[.int .i64 size, v] w fun e w' => e = .returned (.bool true) ∧ Below w.heap.size w w' := by
  obtain ⟨o, cap, rfl, hc1, hc2, hcl⟩ := h3.form
  obtain ⟨n, hn⟩ : ∃ n, l.length = n := ⟨_, rfl⟩
  rw [hn] at hc1 ⊢
  have HN := Lib.hid hn
  have HC := Lib.hid hcl
  clear hn hcl h3
  by_cases hlong : 100 < n
  · go_enter Tryd.func3, Tryd.ntmps3
    go_wp2_with fail
    refine (awake_any _).mono ?_
    rintro e w1 ⟨rfl, hb1⟩
    go_wp2_with fail
    refine (awake_any _).mono ?_
    rintro e w2 ⟨rfl, hb2⟩
    go_wp2_with fail
    go_ret
    exact ⟨rfl, hb1.trans (hb2.mono hb1.size)⟩
  have hlen : n ≤ 100 := by omega
  by_cases hsize : size < 1 ∨ 4096 < size
  · have HS := Lib.hid hsize
    go_enter Tryd.func3, Tryd.ntmps3
    go_wp2_with fail
    refine (awake_any _).mono ?_
    rintro e w1 ⟨rfl, hb1⟩
    go_wp2_with fail
    refine (NewEnc_no size HS.out _).mono ?_
    rintro e w2 ⟨rfl, rfl⟩
    by_cases hs1 : size < 1
    · clear hsize
      go_wp2_with fail
      go_ret
      exact ⟨rfl, hb1⟩
    · have hs2 : 4096 < size := by omega
      clear hsize
      go_wp2_with fail
      go_ret
      exact ⟨rfl, hb1⟩
  obtain ⟨N, rfl⟩ : ∃ N : Nat, size = N := ⟨size.toNat, by omega⟩
  have hN1 : 1 ≤ N := by omega
  have hN2 : N ≤ 4096 := by omega
  clear hsize hlong
  go_enter Tryd.func3, Tryd.ntmps3
  go_wp2_with fail
  refine (awake_any _).mono ?_
  rintro e w1 ⟨rfl, hb1⟩
  go_wp2_with fail
  refine (NewEnc_any N (by omega) (by omega) _).mono ?_
  rintro e w2 ⟨g, hg, rfl, hB2, hb2⟩
  have h12 := hb1.trans (hb2.mono hb1.size)
  have hg1 : w.heap.size ≤ g := by have := hb1.size; omega
  go_wp2_with fail
  refine (RNewEnc_any _).mono ?_
  rintro e w3 ⟨lv0, rfl, hL3, hb3, hFL3⟩
  have hB3 := hB2.newB hb3
  have h13 := h12.trans (hb3.mono h12.size)
  have hFL : Hid (∀ k, lv0.ownBlock = some k → w.heap.size ≤ k) := Lib.hid (fun k hk => by have := hFL3 k hk; have := h12.size; omega)
  obtain ⟨ob0, cap0, hlv0, _⟩ := hL3.slice (by intro h; simp [intsV] at h)
  rw [show (intsV [0, 0, 0, 0]).length = 4 from rfl] at hlv0
  subst hlv0
  have hxw : w.heap.size ≤ w3.heap.size := h13.size
  clear hb1 hb2 hb3 h12 hB2 hFL3
  have hR3 := Row.nil w3 5
  have hs13 := h13.size
  have hgl := hB3.lt
  have hol : ob0 < w3.heap.size := hL3.lt rfl
  obtain ⟨xb, hxb⟩ : ∃ xb, w3.heap.size = xb := ⟨_, rfl⟩
  rw [hxb] at hxw
  go_wp2_with fail
  go_loopw [8] (fun i wr => ∃ (k : Nat) (ep : Sp.Enc) (v2 lv2 : Value), k ≤ n ∧ i = .int .i64 k ∧ ep.Ok (3 * k) ∧ ep.Inv ∧ Hid (ep.size = N) ∧ Blk wr g (encC ep v2) 66 ∧ Row wr 5 v2 (bytesV ep.out) ∧ Blk wr xb #[lv2, .int .i64 ep.rng] 30 ∧ Row wr 3 lv2 (intsV ep.all) ∧ Below w.heap.size w wr ∧ Hid (∀ k, v2.ownBlock = some k → w.heap.size ≤ k) ∧ Hid (∀ k, lv2.ownBlock = some k → w.heap.size ≤ k)) (fun i _ => n - (intOf i).toNat)
  case atStart =>
    refine ⟨0, Sp.Enc.new N, .slice none 0 0, .slice (some ⟨ob0, 0, none⟩) 4 cap0, Nat.zero_le _, rfl, Sp.Enc.new_ok N, Sp.Enc.new_inv N, Lib.hid rfl, ?_, Row.nil _ _, ?_, ?_, ?_, Lib.hid (by intro k hk; simp [Value.ownBlock] at hk), hFL⟩
    · exact hB3.alloc _
    · rw [← hxb]
      exact Blk.new _ _ _
    · exact hL3.alloc _
    · exact h13.alloc hs13 _
  case round =>
    clear hB3 hL3 hR3 h13 hFL hol hs13 hgl
    obtain ⟨k, ep, v2, lv2, hk, rfl, hok, hinv, hsz, hB, hR, hX, hL, hb, hFp, hFLp⟩ := hrel
    by_cases hlt : k < n
    · have hkM : k < l.length := by rw [HN.out]; exact hlt
      obtain ⟨a, hoa, hab, q1, q2, q3, q4, q5, q6⟩ := HC.out k _ (List.getElem?_eq_getElem hkM)
      obtain ⟨c, hc⟩ : ∃ c, l[k] = c := ⟨_, rfl⟩
      rw [hc] at q1 q2 q3 q4 q5 q6
      clear hc hkM
      subst hoa
      obtain ⟨x, y, t⟩ := c
      simp only [I64] at q1 q2 q3 q4 q5 q6
      have p1 := (hb.cell (p := a.add (k * 3)) (by rw [add_block]; exact hab)).trans q1
      have p2 := (hb.cell (p := ⟨(a.add (k * 3)).block, (a.add (k * 3)).off + 1, none⟩) (by simp only [add_block]; exact hab)).trans q2
      have p3 := (hb.cell (p := ⟨(a.add (k * 3)).block, (a.add (k * 3)).off + 2, none⟩) (by simp only [add_block]; exact hab)).trans q3
      by_cases hcell : Sp.cellIs x y t
      · go_wp2_with fail
        go_still_tail 16, (by kernel_rfl)
        change wpList _ _ _ _ _ (World.drew _)
        go_wp2_with fail
        refine (Put_any g hok (by omega) hcell v2 _ hB.drew hR.drew).mono ?_
        rintro e2 w2' ⟨rfl, v3, hB2, hR2, hK2, hF2⟩
        have hX2 := hX.drew.keep hK2 (encS_typ hB hR hX (by decide) (by decide))
        have hL2 := hL.drew.keep hK2 (fun k hk => by obtain ⟨cur, hc⟩ := hL.blk hk; exact encS_typ hB hR hc (by decide) (by decide))
        have hb2 : Below w.heap.size w w2' := hb.drew.trans (encS_below hK2 hg1 hFp.out hb.size)
        have hF2' : Hid (∀ k, v3.ownBlock = some k → w.heap.size ≤ k) := Lib.hid (fun k hk => by
          rcases hF2 k hk with h | h
          · exact hFp.out k h
          · have := hb.size; simp only [World.size_drew] at h; omega)
        have hokp := Sp.Enc.put_ok hok hcell
        obtain ⟨dd, _, _, _, hinvp⟩ := Sp.Enc.put_val hok hinv hcell
        have hszp := Lib.hid ((Sp.Enc.put_size ep x y t).trans hsz.out)
        have hput := Sp.rput_all hok hinv hcell
        have p1 := (hb2.cell (p := a.add (k * 3)) (by rw [add_block]; exact hab)).trans q1
        have p2 := (hb2.cell (p := ⟨(a.add (k * 3)).block, (a.add (k * 3)).off + 1, none⟩) (by simp only [add_block]; exact hab)).trans q2
        have p3 := (hb2.cell (p := ⟨(a.add (k * 3)).block, (a.add (k * 3)).off + 2, none⟩) (by simp only [add_block]; exact hab)).trans q3
        obtain ⟨z1, z2, z3, z4, z5, z6⟩ := hcell
        go_wp2_with fail
        refine (RIs_yes ⟨z1, z2, z3, z4, z5, z6⟩ _).mono ?_
        rintro e3 w3' ⟨rfl, hb23⟩
        have hB3 := hB2.newB hb23
        have hR3 := hR2.keep (Kept.of_below (S := fun _ => False) hb23) (fun _ _ h => h)
        have hX3 := hX2.newB hb23
        have hL3 := hL2.keep (Kept.of_below (S := fun _ => False) hb23) (fun _ _ h => h)
        have hb3 : Below w.heap.size w w3' := hb2.trans (hb23.mono hb2.size)
        have p1 := (hb3.cell (p := a.add (k * 3)) (by rw [add_block]; exact hab)).trans q1
        have p2 := (hb3.cell (p := ⟨(a.add (k * 3)).block, (a.add (k * 3)).off + 1, none⟩) (by simp only [add_block]; exact hab)).trans q2
        have p3 := (hb3.cell (p := ⟨(a.add (k * 3)).block, (a.add (k * 3)).off + 2, none⟩) (by simp only [add_block]; exact hab)).trans q3
        have y0 := hX3.cell 0
        have y1 := hX3.cell 1
        simp only [List.getElem?_toArray, List.getElem?_cons_zero, List.getElem?_cons_succ] at y0 y1
        have hcall := RPut_any lv2 ep.all ep.rng x y t (Sp.Enc.all_bytes hok.bytes) (by rw [Sp.Enc.all_length]; omega) (by rw [Sp.Enc.all_length]; have := hok.len; omega) hok.rng0 hok.rng1 ⟨z1, z2, z3, z4, z5, z6⟩ _ hL3.drew
        rw [hput] at hcall
        obtain ⟨eo, heo⟩ : ∃ eo, ep.put x y t = eo := ⟨_, rfl⟩
        rw [heo] at hcall hB3 hR3 hokp hinvp hszp
        have hne : intsV eo.all ≠ [] := by intro h; have := congrArg List.length h; rw [List.length_map, Sp.Enc.all_length] at this; simp at this
        clear hB hR hX hL hb hB2 hR2 hX2 hL2 hb2 hK2 hF2 hb23 hput heo hok hinv hsz
        go_wp2_with fail
        go_region_with (go_at_call 15; refine hcall.mono ?_; rintro e4 w4 ⟨lv3, rfl, hL4, hb34, hFL4⟩; have hX4 := hX3.drew.newB hb34; have f0 := hX4.frozen 0; have f1 := hX4.frozen 1; have g0 := hX4.cell 0; have g1 := hX4.cell 1; simp only [List.getElem?_toArray, List.getElem?_cons_zero, List.getElem?_cons_succ] at g0 g1; obtain ⟨ob3, cap3, hlv3, _⟩ := hL4.slice hne; rw [List.length_map] at hlv3; subst hlv3)
        all_goals
          have hgx : g ≠ xb := fun h => by rw [h] at hB3; exact absurd (hB3.typ hX3) (by decide)
          have hvx : v3.ownBlock ≠ some xb := fun h => by obtain ⟨cur, hc⟩ := hR3.blk h; exact absurd (hc.typ hX3) (by decide)
          have hox : (Value.slice (some ⟨ob3, 0, none⟩) eo.all.length cap3).ownBlock ≠ some xb := fun h => by obtain ⟨cur, hc⟩ := hL4.blk h; exact absurd (hc.typ hX4) (by decide)
          have hX5 : Blk ((w4.setCell ⟨xb, 0, none⟩ (.slice (some ⟨ob3, 0, none⟩) eo.all.length cap3)).setCell ⟨xb, 1, none⟩ (.int .i64 eo.rng)) xb #[.slice (some ⟨ob3, 0, none⟩) eo.all.length cap3, .int .i64 eo.rng] 30 := by (apply Blk.mk_eq; (case h => repeat' (first | (with_reducible assumption) | (with_reducible apply Blk.drew) | (with_reducible apply Blk.drewN) | (with_reducible apply Blk.set) | ((with_reducible refine Blk.other ?_ ?ne _); case ne => (first | (simp only []; omega) | omega)) | (with_reducible apply Blk.alloc))); (case e => first | rfl | simp))
          have hB5 := ((hB3.drew.newB hb34).other (a := ⟨xb, 0, none⟩) hgx (.slice (some ⟨ob3, 0, none⟩) eo.all.length cap3)).other (a := ⟨xb, 1, none⟩) hgx (.int .i64 eo.rng)
          have hR5 := ((hR3.drew.keep (Kept.of_below (S := fun _ => False) hb34) (fun _ _ h => h)).far ⟨xb, 0, none⟩ hvx (.slice (some ⟨ob3, 0, none⟩) eo.all.length cap3)).far ⟨xb, 1, none⟩ hvx (.int .i64 eo.rng)
          have hL5 := (hL4.far ⟨xb, 0, none⟩ hox (.slice (some ⟨ob3, 0, none⟩) eo.all.length cap3)).far ⟨xb, 1, none⟩ hox (.int .i64 eo.rng)
          have hb4 : Below w.heap.size w w4 := hb3.drew.trans (hb34.mono hb3.size)
          have hb5 : Below w.heap.size w ((w4.setCell ⟨xb, 0, none⟩ (.slice (some ⟨ob3, 0, none⟩) eo.all.length cap3)).setCell ⟨xb, 1, none⟩ (.int .i64 eo.rng)) := (hb4.setCell hxw _).setCell hxw _
          have hFLn : ∀ k, (Value.slice (some ⟨ob3, 0, none⟩) eo.all.length cap3).ownBlock = some k → w.heap.size ≤ k := fun k hk => by
            have h1 := hFL4 k hk
            have h2 := hb3.size
            simp only [World.size_drew] at h1
            omega
          clear hX4 hL4 hb34 hFL4 f0 f1 g0 g1 hb4 hox hX3 hB3 hR3 hL3 hb3 hcall hne hvx hFLp hFp p1 p2 p3 y0 y1
          revert hX5 hB5 hR5 hL5 hb5 hFLn
          generalize Value.slice (some ⟨ob3, 0, none⟩) eo.all.length cap3 = lvn
          generalize (w4.setCell ⟨xb, 0, none⟩ lvn).setCell ⟨xb, 1, none⟩ (.int .i64 eo.rng) = w5
          intro hX5 hB5 hR5 hL5 hb5 hFLn
          have hFp := hF2'
          have hFLp := Lib.hid hFLn
          clear hFLn hF2'
          obtain ⟨ep, hep⟩ : ∃ q, q = eo := ⟨_, rfl⟩
          subst hep
          obtain ⟨v2, hv2⟩ : ∃ q, q = v3 := ⟨_, rfl⟩
          subst hv2
          obtain ⟨lv2, hlv2⟩ : ∃ q, q = lvn := ⟨_, rfl⟩
          subst hlv2
          have hu := used_bd hokp
          have y0 := hX5.cell 0
          have y1 := hX5.cell 1
          simp only [List.getElem?_toArray, List.getElem?_cons_zero, List.getElem?_cons_succ] at y0 y1
          have hue : 8 * ((ep.all.length : Int) - 4) + 32 - (Lib.bitLen ep.rng.toNat : Int) = ep.used := by
            rw [Sp.Enc.all_length]; unfold Sp.Enc.used; have := hinvp.gone; omega
          have HU := Lib.hid hue
          clear hue
          obtain ⟨ob, capb, hlv, _⟩ := hL5.slice (by intro h; have := congrArg List.length h; rw [List.length_map, Sp.Enc.all_length] at this; simp at this)
          rw [List.length_map] at hlv
          have HLV := Lib.hid hlv
          clear hlv
          have hlen7 : (ep.all.length : Int) ≤ 1000000000000 := by rw [Sp.Enc.all_length]; have := hokp.len; omega
          have hr0 := hokp.rng0
          have hr1 := hokp.rng1
          go_wp2_with fail
          go_region_held3 (fun w' => w'.cell? ⟨xb, 0, none⟩ = some lv2 ∧ w'.cell? ⟨xb, 1, none⟩ = some (.int .i64 ep.rng)) (first | exact ⟨y0, y1⟩ | exact ⟨z0, z1⟩ | exact ⟨x0, x1⟩) (first | (go_at_call 16; refine (EncUsed_any g hokp (by omega) v2 _ hB5.drew).mono ?_; rintro r6 w6 ⟨rfl, hK6⟩; have hB6 := hB5.drew.keep hK6 (fun h => h); have hR6 := hR5.drew.keep hK6 (fun _ _ h => h); have hX6 := hX5.drew.keep hK6 (fun h => h); have hL6 := hL5.drew.keep hK6 (fun _ _ h => h); have hb6 : Below w.heap.size w w6 := hb5.drew.trans (hK6.below (fun _ h => h.elim) hb5.size); have z0 := (hX6.cell 0).trans ((hX5.cell 0).symm.trans y0); have z1 := (hX6.cell 1).trans ((hX5.cell 1).symm.trans y1)) | (go_at_call 17; refine (RUsed_any lv2 ep.all ep.rng hlen7 (by omega) hr1 _ ⟨_, _, HLV.out⟩).mono ?_; rw [HU.out]; rintro r7 w7 ⟨rfl, hb67⟩; have hB7 := hB6.newB hb67; have hR7 := hR6.keep (Kept.of_below (S := fun _ => False) hb67) (fun _ _ h => h); have hX7 := hX6.newB hb67; have hL7 := hL6.keep (Kept.of_below (S := fun _ => False) hb67) (fun _ _ h => h); have hb7 : Below w.heap.size w w7 := hb6.trans (hb67.mono hb6.size); have x0 := (hX7.cell 0).trans ((hX6.cell 0).symm.trans z0); have x1 := (hX7.cell 1).trans ((hX6.cell 1).symm.trans z1)))
          go_wp2_with fail
          go_roundw
          case rel => exact ⟨k + 1, ep, v2, lv2, by omega, by go_num, by have h := hokp; rw [show (3 * (k : Int) + 3) = 3 * ((k + 1 : Nat) : Int) from by omega] at h; exact h, hinvp, hszp, hB7, hR7, hX7, hL7, hb7, hFp, hFLp⟩
          case measure => simp [intOf]; omega
      · have hokp : ep.Ok (3 * (k : Int) + 3) := hok.mono (by omega)
        have hinvp := hinv
        have hszp := hsz
        have HCN := Lib.hid hcell
        clear hcell hok hinv hsz
        go_wp2_with fail
        go_still_tail 16, (by kernel_rfl)
        change wpList _ _ _ _ _ (World.drew _)
        go_wp2_with fail
        refine (EPut_no g HCN.out _).mono ?_
        rintro e2 w2' ⟨rfl, rfl⟩
        have hB5 := hB.drew
        have hR5 := hR.drew
        have hX5 := hX.drew
        have hL5 := hL.drew
        have hb5 := hb.drew
        have p1 : wr.drew.cell? (a.add (k * 3)) = some (.int .i64 x) := p1
        have p2 : wr.drew.cell? ⟨(a.add (k * 3)).block, (a.add (k * 3)).off + 1, none⟩ = some (.int .i64 y) := p2
        have p3 : wr.drew.cell? ⟨(a.add (k * 3)).block, (a.add (k * 3)).off + 2, none⟩ = some (.int .i64 t) := p3
        clear hB hR hX hL hb
        by_cases hx40 : x < 1099511627776
        · by_cases hy40 : y < 1099511627776
          · go_wp2_with fail
            refine (RIs_no HCN.out _).mono ?_
            rintro e3 w3' ⟨rfl, hb23⟩
            have hB6 := hB5.newB hb23
            have hR6 := hR5.keep (Kept.of_below (S := fun _ => False) hb23) (fun _ _ h => h)
            have hX6 := hX5.newB hb23
            have hL6 := hL5.keep (Kept.of_below (S := fun _ => False) hb23) (fun _ _ h => h)
            have hb6 : Below w.heap.size w w3' := hb5.trans (hb23.mono hb5.size)
            clear hB5 hR5 hX5 hL5 hb5 p1 p2 p3
            have hB5 := hB6
            have hR5 := hR6
            have hX5 := hX6
            have hL5 := hL6
            have hb5 := hb6
            clear hB6 hR6 hX6 hL6 hb6
            have hu := used_bd hokp
            have y0 := hX5.cell 0
            have y1 := hX5.cell 1
            simp only [List.getElem?_toArray, List.getElem?_cons_zero, List.getElem?_cons_succ] at y0 y1
            have hue : 8 * ((ep.all.length : Int) - 4) + 32 - (Lib.bitLen ep.rng.toNat : Int) = ep.used := by
              rw [Sp.Enc.all_length]; unfold Sp.Enc.used; have := hinvp.gone; omega
            have HU := Lib.hid hue
            clear hue
            obtain ⟨ob, capb, hlv, _⟩ := hL5.slice (by intro h; have := congrArg List.length h; rw [List.length_map, Sp.Enc.all_length] at this; simp at this)
            rw [List.length_map] at hlv
            have HLV := Lib.hid hlv
            clear hlv
            have hlen7 : (ep.all.length : Int) ≤ 1000000000000 := by rw [Sp.Enc.all_length]; have := hokp.len; omega
            have hr0 := hokp.rng0
            have hr1 := hokp.rng1
            go_wp2_with fail
            go_region_held3 (fun w' => w'.cell? ⟨xb, 0, none⟩ = some lv2 ∧ w'.cell? ⟨xb, 1, none⟩ = some (.int .i64 ep.rng)) (first | exact ⟨y0, y1⟩ | exact ⟨z0, z1⟩ | exact ⟨x0, x1⟩) (first | (go_at_call 16; refine (EncUsed_any g hokp (by omega) v2 _ hB5.drew).mono ?_; rintro r6 w6 ⟨rfl, hK6⟩; have hB6 := hB5.drew.keep hK6 (fun h => h); have hR6 := hR5.drew.keep hK6 (fun _ _ h => h); have hX6 := hX5.drew.keep hK6 (fun h => h); have hL6 := hL5.drew.keep hK6 (fun _ _ h => h); have hb6 : Below w.heap.size w w6 := hb5.drew.trans (hK6.below (fun _ h => h.elim) hb5.size); have z0 := (hX6.cell 0).trans ((hX5.cell 0).symm.trans y0); have z1 := (hX6.cell 1).trans ((hX5.cell 1).symm.trans y1)) | (go_at_call 17; refine (RUsed_any lv2 ep.all ep.rng hlen7 (by omega) hr1 _ ⟨_, _, HLV.out⟩).mono ?_; rw [HU.out]; rintro r7 w7 ⟨rfl, hb67⟩; have hB7 := hB6.newB hb67; have hR7 := hR6.keep (Kept.of_below (S := fun _ => False) hb67) (fun _ _ h => h); have hX7 := hX6.newB hb67; have hL7 := hL6.keep (Kept.of_below (S := fun _ => False) hb67) (fun _ _ h => h); have hb7 : Below w.heap.size w w7 := hb6.trans (hb67.mono hb6.size); have x0 := (hX7.cell 0).trans ((hX6.cell 0).symm.trans z0); have x1 := (hX7.cell 1).trans ((hX6.cell 1).symm.trans z1)))
            go_wp2_with fail
            go_roundw
            case rel => exact ⟨k + 1, ep, v2, lv2, by omega, by go_num, by have h := hokp; rw [show (3 * (k : Int) + 3) = 3 * ((k + 1 : Nat) : Int) from by omega] at h; exact h, hinvp, hszp, hB7, hR7, hX7, hL7, hb7, hFp, hFLp⟩
            case measure => simp [intOf]; omega
          · skip
            have hu := used_bd hokp
            have y0 := hX5.cell 0
            have y1 := hX5.cell 1
            simp only [List.getElem?_toArray, List.getElem?_cons_zero, List.getElem?_cons_succ] at y0 y1
            have hue : 8 * ((ep.all.length : Int) - 4) + 32 - (Lib.bitLen ep.rng.toNat : Int) = ep.used := by
              rw [Sp.Enc.all_length]; unfold Sp.Enc.used; have := hinvp.gone; omega
            have HU := Lib.hid hue
            clear hue
            obtain ⟨ob, capb, hlv, _⟩ := hL5.slice (by intro h; have := congrArg List.length h; rw [List.length_map, Sp.Enc.all_length] at this; simp at this)
            rw [List.length_map] at hlv
            have HLV := Lib.hid hlv
            clear hlv
            have hlen7 : (ep.all.length : Int) ≤ 1000000000000 := by rw [Sp.Enc.all_length]; have := hokp.len; omega
            have hr0 := hokp.rng0
            have hr1 := hokp.rng1
            go_wp2_with fail
            go_region_held3 (fun w' => w'.cell? ⟨xb, 0, none⟩ = some lv2 ∧ w'.cell? ⟨xb, 1, none⟩ = some (.int .i64 ep.rng)) (first | exact ⟨y0, y1⟩ | exact ⟨z0, z1⟩ | exact ⟨x0, x1⟩) (first | (go_at_call 16; refine (EncUsed_any g hokp (by omega) v2 _ hB5.drew).mono ?_; rintro r6 w6 ⟨rfl, hK6⟩; have hB6 := hB5.drew.keep hK6 (fun h => h); have hR6 := hR5.drew.keep hK6 (fun _ _ h => h); have hX6 := hX5.drew.keep hK6 (fun h => h); have hL6 := hL5.drew.keep hK6 (fun _ _ h => h); have hb6 : Below w.heap.size w w6 := hb5.drew.trans (hK6.below (fun _ h => h.elim) hb5.size); have z0 := (hX6.cell 0).trans ((hX5.cell 0).symm.trans y0); have z1 := (hX6.cell 1).trans ((hX5.cell 1).symm.trans y1)) | (go_at_call 17; refine (RUsed_any lv2 ep.all ep.rng hlen7 (by omega) hr1 _ ⟨_, _, HLV.out⟩).mono ?_; rw [HU.out]; rintro r7 w7 ⟨rfl, hb67⟩; have hB7 := hB6.newB hb67; have hR7 := hR6.keep (Kept.of_below (S := fun _ => False) hb67) (fun _ _ h => h); have hX7 := hX6.newB hb67; have hL7 := hL6.keep (Kept.of_below (S := fun _ => False) hb67) (fun _ _ h => h); have hb7 : Below w.heap.size w w7 := hb6.trans (hb67.mono hb6.size); have x0 := (hX7.cell 0).trans ((hX6.cell 0).symm.trans z0); have x1 := (hX7.cell 1).trans ((hX6.cell 1).symm.trans z1)))
            go_wp2_with fail
            go_roundw
            case rel => exact ⟨k + 1, ep, v2, lv2, by omega, by go_num, by have h := hokp; rw [show (3 * (k : Int) + 3) = 3 * ((k + 1 : Nat) : Int) from by omega] at h; exact h, hinvp, hszp, hB7, hR7, hX7, hL7, hb7, hFp, hFLp⟩
            case measure => simp [intOf]; omega
        · skip
          have hu := used_bd hokp
          have y0 := hX5.cell 0
          have y1 := hX5.cell 1
          simp only [List.getElem?_toArray, List.getElem?_cons_zero, List.getElem?_cons_succ] at y0 y1
          have hue : 8 * ((ep.all.length : Int) - 4) + 32 - (Lib.bitLen ep.rng.toNat : Int) = ep.used := by
            rw [Sp.Enc.all_length]; unfold Sp.Enc.used; have := hinvp.gone; omega
          have HU := Lib.hid hue
          clear hue
          obtain ⟨ob, capb, hlv, _⟩ := hL5.slice (by intro h; have := congrArg List.length h; rw [List.length_map, Sp.Enc.all_length] at this; simp at this)
          rw [List.length_map] at hlv
          have HLV := Lib.hid hlv
          clear hlv
          have hlen7 : (ep.all.length : Int) ≤ 1000000000000 := by rw [Sp.Enc.all_length]; have := hokp.len; omega
          have hr0 := hokp.rng0
          have hr1 := hokp.rng1
          go_wp2_with fail
          go_region_held3 (fun w' => w'.cell? ⟨xb, 0, none⟩ = some lv2 ∧ w'.cell? ⟨xb, 1, none⟩ = some (.int .i64 ep.rng)) (first | exact ⟨y0, y1⟩ | exact ⟨z0, z1⟩ | exact ⟨x0, x1⟩) (first | (go_at_call 16; refine (EncUsed_any g hokp (by omega) v2 _ hB5.drew).mono ?_; rintro r6 w6 ⟨rfl, hK6⟩; have hB6 := hB5.drew.keep hK6 (fun h => h); have hR6 := hR5.drew.keep hK6 (fun _ _ h => h); have hX6 := hX5.drew.keep hK6 (fun h => h); have hL6 := hL5.drew.keep hK6 (fun _ _ h => h); have hb6 : Below w.heap.size w w6 := hb5.drew.trans (hK6.below (fun _ h => h.elim) hb5.size); have z0 := (hX6.cell 0).trans ((hX5.cell 0).symm.trans y0); have z1 := (hX6.cell 1).trans ((hX5.cell 1).symm.trans y1)) | (go_at_call 17; refine (RUsed_any lv2 ep.all ep.rng hlen7 (by omega) hr1 _ ⟨_, _, HLV.out⟩).mono ?_; rw [HU.out]; rintro r7 w7 ⟨rfl, hb67⟩; have hB7 := hB6.newB hb67; have hR7 := hR6.keep (Kept.of_below (S := fun _ => False) hb67) (fun _ _ h => h); have hX7 := hX6.newB hb67; have hL7 := hL6.keep (Kept.of_below (S := fun _ => False) hb67) (fun _ _ h => h); have hb7 : Below w.heap.size w w7 := hb6.trans (hb67.mono hb6.size); have x0 := (hX7.cell 0).trans ((hX6.cell 0).symm.trans z0); have x1 := (hX7.cell 1).trans ((hX6.cell 1).symm.trans z1)))
          go_wp2_with fail
          go_roundw
          case rel => exact ⟨k + 1, ep, v2, lv2, by omega, by go_num, by have h := hokp; rw [show (3 * (k : Int) + 3) = 3 * ((k + 1 : Nat) : Int) from by omega] at h; exact h, hinvp, hszp, hB7, hR7, hX7, hL7, hb7, hFp, hFLp⟩
          case measure => simp [intOf]; omega
    · obtain rfl : k = n := by omega
      by_cases hfit : Sp.fitOk ep.all N = true
      · have HT := Lib.hid hfit
        clear hfit
        go_wp2_with fail
        refine (EncDone_any g hok (by omega) N hsz.out (by omega) v2 _ hB hR).mono ?_
        rw [HT.out]
        rintro e6 w6 ⟨rfl, hb6⟩
        have hX6 := hX.newB hb6
        have hL6 := hL.keep (Kept.of_below (S := fun _ => False) hb6) (fun _ _ h => h)
        have hb7 : Below w.heap.size w w6 := hb.trans (hb6.mono hb.size)
        have y0 := hX6.cell 0
        have y1 := hX6.cell 1
        simp only [List.getElem?_toArray, List.getElem?_cons_zero, List.getElem?_cons_succ] at y0 y1
        go_wp2_with fail
        refine (RDone_any lv2 ep.all ep.rng N (Sp.Enc.all_bytes hok.bytes) (by rw [Sp.Enc.all_length]; omega) (by rw [Sp.Enc.all_length]; have := hok.len; omega) (by omega) _ hL6).mono ?_
        unfold RetDone
        rw [HT.out]
        rintro e7 w7 ⟨rfl, hb67⟩
        have hb8 : Below w.heap.size w w7 := hb7.trans (hb67.mono hb7.size)
        go_wp2_with fail
        go_ret
        exact ⟨rfl, hb8⟩
      · have hfit2 : Sp.fitOk ep.all N = false := by simpa using hfit
        have HT := Lib.hid hfit2
        clear hfit hfit2
        go_wp2_with fail
        refine (EncDone_any g hok (by omega) N hsz.out (by omega) v2 _ hB hR).mono ?_
        rw [HT.out]
        rintro e6 w6 ⟨rfl, hb6⟩
        have hX6 := hX.newB hb6
        have hL6 := hL.keep (Kept.of_below (S := fun _ => False) hb6) (fun _ _ h => h)
        have hb7 : Below w.heap.size w w6 := hb.trans (hb6.mono hb.size)
        have y0 := hX6.cell 0
        have y1 := hX6.cell 1
        simp only [List.getElem?_toArray, List.getElem?_cons_zero, List.getElem?_cons_succ] at y0 y1
        go_wp2_with fail
        refine (RDone_any lv2 ep.all ep.rng N (Sp.Enc.all_bytes hok.bytes) (by rw [Sp.Enc.all_length]; omega) (by rw [Sp.Enc.all_length]; have := hok.len; omega) (by omega) _ hL6).mono ?_
        unfold RetDone
        rw [HT.out]
        rintro e7 w7 ⟨rfl, hb67⟩
        have hb8 : Below w.heap.size w w7 := hb7.trans (hb67.mono hb7.size)
        go_wp2_with fail
        go_ret
        exact ⟨rfl, hb8⟩
end Go.Proofs.YtlhjkichambaoaaDoor
