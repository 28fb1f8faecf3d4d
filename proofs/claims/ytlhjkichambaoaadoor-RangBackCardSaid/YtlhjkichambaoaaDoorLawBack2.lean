/- The walk of spoollaw07.RangBack: whatever the cells, it returns true. -/
import Derived.Test.YtlhjkichambaoaaDoorLawBack
namespace Go.Proofs.YtlhjkichambaoaaDoor
open Go.RowKit

set_option maxRecDepth 100000 in
set_option maxHeartbeats 1600000 in
theorem RangBack_any (v : Value) (l : List C3) (w : World) (h3 : Three w v l) : Calls Tryd.prog 6 #[v] w fun e w' => e = .returned (.bool true) ∧ Below w.heap.size w w' := by
  obtain ⟨i0, hi, hz0, hz1, hz2⟩ := info_parts infoI64
  go_enter Tryd.func6, Tryd.ntmps6
  go_wp2_with fail
  refine (awake_any _).mono ?_
  rintro e w1 ⟨rfl, hb1⟩
  go_wp2_with fail
  refine (NewEnc_any 1000 (by decide) (by decide) _).mono ?_
  rintro e w2 ⟨g, hg, rfl, hB2, hb2⟩
  have hR2 := Row.nil w2 5
  have h12 := hb1.trans (hb2.mono hb1.size)
  go_wp2_with fail
  refine (gcells_any v l _ (h3.below h12)).mono ?_
  rintro e w3 ⟨mv, rfl, hown, hb3⟩
  have hM3 := MRow.of_owns hown
  have hB3 := hB2.newB hb3
  have hR3 := Row.nil w3 5
  have h13 := h12.trans (hb3.mono h12.size)
  have hgood : ∀ c ∈ goodCells l, Sp.cellIs c.1 c.2.1 c.2.2 := fun c hc => goodCells_cell hc
  have hlen := goodCells_len l
  obtain ⟨M, hM⟩ : ∃ M, goodCells l = M := ⟨_, rfl⟩
  rw [hM] at hM3 hgood hlen
  clear hown hM
  obtain ⟨n, hn⟩ : ∃ n, M.length = n := ⟨_, rfl⟩
  have hmv : ∃ o cap, mv = .slice o n cap ∧ n ≤ cap ∧ cap ≤ 9223372036854775807 := by
    obtain ⟨o, cap, hv, h1, h2, _⟩ := hM3
    rw [hn] at hv h1
    exact ⟨o, cap, hv, h1, h2⟩
  obtain ⟨o, cap, rfl, hc1, hc2⟩ := hmv
  rw [hn] at hlen
  have HN := Lib.hid hn
  have HG := Lib.hid hgood
  clear hn hgood
  have hg1 : w.heap.size ≤ g := by have := hb1.size; omega
  clear hb1 hb2 hb3 h12 hB2 hR2 h3
  go_wp2_with fail
  go_loopw [6, 7] (fun uv i wr => ∃ (k : Nat) (v' : Value), k ≤ n ∧ i = .int .i64 k ∧ Blk wr g (encC ((Sp.Enc.new 1000).puts (M.take k)) v') 66 ∧ Row wr 5 v' (bytesV ((Sp.Enc.new 1000).puts (M.take k)).out) ∧ MRow wr (.slice o n cap) M ∧ Row wr 3 uv (intsV (usedL M k)) ∧ Below w.heap.size w wr ∧ Hid (∀ k, v'.ownBlock = some k → w.heap.size ≤ k) ∧ Hid (∀ k, uv.ownBlock = some k → w.heap.size ≤ k)) (fun _ i _ => n - (intOf i).toNat)
  case atStart => exact ⟨0, _, Nat.zero_le _, rfl, hB3, hR3, hM3, Row.nil _ _, h13, Lib.hid (by intro k hk; simp [Value.ownBlock] at hk), Lib.hid (by intro k hk; simp [Value.ownBlock] at hk)⟩
  case round =>
    clear hB3 hR3 hM3 h13
    obtain ⟨k, v', hk, rfl, hB, hR, hM, hU, hb, hF, hFU⟩ := hrel
    by_cases hlt : k < n
    · have hkM : k < M.length := by rw [HN.out]; exact hlt
      obtain ⟨c, hc⟩ : ∃ c, M[k] = c := ⟨_, rfl⟩
      have hMk : M[k]? = some c := by rw [List.getElem?_eq_getElem hkM, hc]
      have hcell := HG.out c (hc ▸ List.getElem_mem hkM)
      obtain ⟨hok, hinv, hsz⟩ := back_put (M := M) (fun c hc => HG.out c hc) k (by omega)
      have hnext := Sp.Enc.puts_next (e := Sp.Enc.new 1000) hMk
      obtain ⟨ek, hek⟩ : ∃ ek, (Sp.Enc.new 1000).puts (M.take k) = ek := ⟨_, rfl⟩
      rw [hek] at hB hR hok hinv hsz hnext
      have hMM := hM
      obtain ⟨o', cap', hv, _, _, hmm⟩ := hMM
      cases hv
      obtain ⟨gm, cur, rfl, hBm, hcs⟩ := hmm (by omega)
      obtain ⟨q1, q2, q3⟩ := hcs k c hMk
      obtain ⟨x, y, t⟩ := c
      simp only at hcell q1 q2 q3 hnext
      have p1 := (hBm.cell (k * 3)).trans q1
      have p2 := (hBm.cell (k * 3 + 1)).trans q2
      have p3 := (hBm.cell (k * 3 + 2)).trans q3
      have HNX := Lib.hid hnext
      clear hnext hek
      go_wp2_with fail
      go_still_tail 16, (by kernel_rfl)
      change wpList _ _ _ _ _ wr.drew
      go_wp2_with fail
      refine (Put_any g hok (by omega) hcell v' _ hB.drew hR.drew).mono ?_
      rintro e2 w2 ⟨rfl, v2, hB2, hR2, hK2, hF2⟩
      have hM2 := hM.drew.keep hK2 (fun k cur hk => encS_typ hB hR hk (by decide) (by decide))
      have hU2 := hU.drew.keep hK2 (fun k hk => by obtain ⟨cur, hc⟩ := hU.blk hk; exact encS_typ hB hR hc (by decide) (by decide))
      have hb2 : Below w.heap.size w w2 := hb.drew.trans (encS_below hK2 hg1 hF.out hb.size)
      have hF2' : Hid (∀ k, v2.ownBlock = some k → w.heap.size ≤ k) := Lib.hid (fun k hk => by
        rcases hF2 k hk with h | h
        · exact hF.out k h
        · have := hb.size; simp only [World.size_drew] at h; omega)
      have hok2 := Sp.Enc.put_ok hok hcell
      rw [← HNX.out] at hB2 hR2 hok2
      obtain ⟨ep, hep⟩ : ∃ ep, (Sp.Enc.new 1000).puts (M.take (k + 1)) = ep := ⟨_, rfl⟩
      rw [hep] at hB2 hR2 hok2
      have HEP := Lib.hid hep
      have hu := used_bd hok2
      clear hep hB hR hM hBm hb hK2 hF2 hF hU p1 p2 p3
      go_wp2_with fail
      refine (EncUsed_any g hok2 (by omega) v2 _ hB2).mono ?_
      rintro e3 w4 ⟨rfl, hK4⟩
      have hB4 := hB2.keep hK4 (fun h => h)
      have hR4 := hR2.keep hK4 (fun _ _ h => h)
      have hM4 := hM2.keep hK4 (fun _ _ _ h => h)
      have hU4 := hU2.keep hK4 (fun _ _ h => h)
      have hb4 : Below w.heap.size w w4 := hb2.trans (hK4.below (fun _ h => h.elim) hb2.size)
      clear hB2 hR2 hM2 hU2 hb2 hK4
      have hul : (intsV (usedL M k)).length = k := by rw [List.length_map, usedL_len]
      have HUL := Lib.hid hul
      clear hul
      have hk100 : k ≤ 100 := by omega
      go_wp2_with (at_builtin; refine wpList_append_lies _ rfl (.tmp 46) (.tmp 49) 28 rfl 0 3 i0 (.int .i64 0) 1 8 Tryd.underlying28 hi hz0 hz1 hz2 rfl (by decide) u6 k (intsV (usedL M k)) rfl (by have h := hU4.alloc (.cells #[.int .i64 ep.used] 3); unfold Row at h; rw [HUL.out] at h; exact h) ⟨w4.heap.size, 0, none⟩ 1 1 [.int .i64 ep.used] rfl rfl (World.news_of_block (World.alloc_heap_new _ _)) (by simp [Value.oneCell']) (by decide) (by unfold maxLen; omega) (by omega) (Nat.zero_le _) _ rfl ?_; intro gb capb w5 hown5 hgrow5 hat5 hlt5)
      have hU5 : Row w5 3 (.slice (some ⟨gb, 0, none⟩) (k + 1) capb) (intsV (usedL M (k + 1))) := by
        rw [usedL_snoc, intsV, List.map_append, HEP.out]
        exact Row.mk hown5
      have hK5 := kept_grown hgrow5
      have hnU : ∀ (j : Nat) (cur : Array Value) (t : TypeId), Blk w4 j cur t → t ≠ 3 → ¬ u6.ownBlock = some j := by
        intro j cur t hj ht hu
        obtain ⟨cur2, h2⟩ := hU4.blk hu
        exact ht (hj.typ h2)
      have hB5 := (hB4.alloc (.cells #[.int .i64 ep.used] 3)).keep hK5 (hnU _ _ _ hB4 (by decide))
      have hR5 := (hR4.alloc (.cells #[.int .i64 ep.used] 3)).keep hK5 (fun j hj => by obtain ⟨cur, hc⟩ := hR4.blk hj; exact hnU _ _ _ hc (by decide))
      have hM5 := (MRow.alloc hM4 (.cells #[.int .i64 ep.used] 3)).keep hK5 (fun j cur hj hu => by obtain ⟨cur2, h2⟩ := hU4.blk hu; exact absurd (hj.typ (h2.alloc _)) (by decide))
      have hb5 : Below w.heap.size w w5 := (hb4.alloc hb4.size _).grown hgrow5 (by simp only [World.size_alloc]; have := hb4.size; omega) (fun j hj => hFU.out j hj)
      have hgb : w.heap.size ≤ gb := by
        rcases hat5 with h | h
        · exact hFU.out _ h
        · have := hb4.size; simp at h; omega
      go_roundw
      case rel => exact ⟨k + 1, v2, by omega, by go_num, by rw [HEP.out]; exact hB5, by rw [HEP.out]; exact hR5, hM5, hU5, hb5, hF2', Lib.hid (by intro j hj; simp [Value.ownBlock] at hj; omega)⟩
      case measure => simp [intOf]; omega
    · obtain rfl : k = n := by omega
      have hMt : M.take k = M := by rw [← HN.out, List.take_length]
      obtain ⟨hok, hinv, hsz⟩ := back_put (M := M) (fun c hc => HG.out c hc) M.length (Nat.le_refl _)
      rw [List.take_length] at hok hinv hsz
      rw [hMt] at hB hR
      have hl : ((Sp.Enc.new 1000).puts M).all.length ≤ 1000 := by rw [Sp.Enc.all_length]; have := hok.len; have := HN.out; omega
      have hfok : Sp.fitOk ((Sp.Enc.new 1000).puts M).all 1000 = true := Sp.fitOk_short hl
      have hfsz : (Sp.fitS ((Sp.Enc.new 1000).puts M).all 1000).size = 1000 := Sp.fitS_size (by have := Sp.trimZ_len ((Sp.Enc.new 1000).puts M).all; omega)
      have HMEET := Lib.hid (fun (j : Nat) (c : C3) (h : M[j]? = some c) => back_take (M := M) (fun c hc => HG.out c hc) (by rw [HN.out]; omega) h)
      have HTK := Lib.hid (fun s => takes_ok (s := s) (M := M) (fun c hc => HG.out c hc))
      go_wp2_with fail
      refine (EncDone_any g hok (by have := HN.out; omega) 1000 hsz (by decide) _ _ hB hR).mono ?_
      rintro e1 w1' ⟨rfl, hbD⟩
      obtain ⟨S, hS⟩ : ∃ S, Sp.fitS ((Sp.Enc.new 1000).puts M).all 1000 = S := ⟨_, rfl⟩
      simp only [hS] at HMEET
      rw [hS] at hfsz ⊢
      rw [hfok]
      have hMD := hM.keep (Kept.of_below (S := fun _ => False) hbD) (fun _ _ _ h => h)
      have hUD := hU.keep (Kept.of_below (S := fun _ => False) hbD) (fun _ _ h => h)
      have hbb := hb.trans (hbD.mono hb.size)
      clear hB hR hM hU hb hbD hF hinv hok hsz hl hfok
      go_wp2_with fail
      refine (NewDec_any S _).mono ?_
      rintro e2 w2' ⟨gd, hgd, rfl, hBd, hbN⟩
      have hMN := hMD.keep (Kept.of_below (S := fun _ => False) hbN) (fun _ _ _ h => h)
      have hUN := hUD.keep (Kept.of_below (S := fun _ => False) hbN) (fun _ _ h => h)
      have hbb2 := hbb.trans (hbN.mono hbb.size)
      have hgd1 : w.heap.size ≤ gd := by have := hbb.size; omega
      clear hMD hUD hbb hbN
      go_wp2_with fail
      go_loopw [11] (fun i wr => ∃ (j : Nat), j ≤ k ∧ i = .int .i64 j ∧ Blk wr gd (decC ((Sp.Dec.new S).takes (M.take j))) 73 ∧ MRow wr (.slice o k cap) M ∧ Row wr 3 u6 (intsV (usedL M k)) ∧ Below w.heap.size w wr) (fun i _ => k - (intOf i).toNat)
      case atStart => exact ⟨0, Nat.zero_le _, rfl, hBd, hMN, hUN, hbb2⟩
      case round =>
        clear hBd hMN hUN hbb2
        obtain ⟨j, hj, rfl, hB, hM, hU, hb⟩ := hrel
        by_cases hlt : j < k
        · have hjM : j < M.length := by rw [HN.out]; exact hlt
          obtain ⟨c, hc⟩ : ∃ c, M[j] = c := ⟨_, rfl⟩
          have hMk : M[j]? = some c := by rw [List.getElem?_eq_getElem hjM, hc]
          have hcell := HG.out c (hc ▸ List.getElem_mem hjM)
          obtain ⟨m1, m2, m3⟩ := HMEET.out j c hMk
          have hok := HTK.out S j (by omega)
          have hok2 := HTK.out S (j + 1) (by omega)
          have hnext := Sp.Dec.takes_next (d := Sp.Dec.new S) hMk
          obtain ⟨dj, hdj⟩ : ∃ dj, (Sp.Dec.new S).takes (M.take j) = dj := ⟨_, rfl⟩
          rw [hdj] at hB hok hnext m1 m2
          have hMM := hM
          obtain ⟨o', cap', hv, _, _, hmm⟩ := hMM
          cases hv
          obtain ⟨gm, cur, rfl, hBm, hcs⟩ := hmm (by omega)
          obtain ⟨q1, q2, q3⟩ := hcs j c hMk
          obtain ⟨x, y, t⟩ := c
          simp only at hcell q1 q2 q3 hnext m1 m2
          have hUL : (intsV (usedL M M.length)).length = M.length := by rw [List.length_map, usedL_len]
          obtain ⟨gu, capu, hv6, hgu⟩ := hU.slice (by intro h; rw [h] at hUL; simp at hUL; omega)
          rw [hUL] at hv6
          subst hv6
          have hju : (intsV (usedL M M.length))[j]? = some (.int .i64 ((Sp.Enc.new 1000).puts (M.take (j + 1))).used) := by
            rw [ints_get (by rw [usedL_len]; exact hjM), usedL_at M hjM]
          rw [← m3] at hju
          obtain ⟨dn, hdn⟩ : ∃ dn, (Sp.Dec.new S).takes (M.take (j + 1)) = dn := ⟨_, rfl⟩
          rw [hdn] at hok2 hnext hju
          have HDN := Lib.hid hdn
          clear hdj hdn m3
          have p3 := (hBm.cell (j * 3 + 2)).trans q3
          go_wp2_with fail
          refine (At_any gd hok t hcell.1 hcell.2.1 _ hB).mono ?_
          rintro e3 w4 ⟨rfl, hK4⟩
          have hB4 := hB.keep hK4 (fun h => h)
          have hM4 := hM.keep hK4 (fun _ _ _ h => h)
          have hBm4 := hBm.keep hK4 (fun h => h)
          have hU4 := hU.keep hK4 (fun _ _ h => h)
          have hb4 : Below w.heap.size w w4 := hb.trans (hK4.below (fun _ h => h.elim) hb.size)
          have p1 := (hBm4.cell (j * 3)).trans q1
          have p2 := (hBm4.cell (j * 3 + 1)).trans q2
          have p3 := (hBm4.cell (j * 3 + 2)).trans q3
          have p4 := (hU4.cellAt hUL j hjM).trans hju
          obtain ⟨z, hz⟩ : ∃ z, dj.place t = z := ⟨_, rfl⟩
          rw [hz] at m1 m2 ⊢
          clear hz hB hM hBm hU hb
          have n1 : ¬ z < x := by omega
          have n2 : ¬ x + y ≤ z := by omega
          have n3 : IntKind.i64.wrap (x + y) = x + y := by
            obtain ⟨g1, g2, g3, g4, g5, g6⟩ := hcell
            exact IntWalk.i64_in _ (by omega)
          have n4 : decide (z < x) = false := decide_eq_false n1
          have n5 : decide (x + y ≤ z) = false := decide_eq_false n2
          have hj0 : (0 : Int) ≤ (j : Int) := by omega
          have HNX := Lib.hid hnext
          clear hnext
          go_wp2_with fail
          go_region_held3 (fun w' => w'.cell? ⟨gm, j * 3, none⟩ = some (.int .i64 x) ∧ w'.cell? ⟨gm, j * 3 + 1, none⟩ = some (.int .i64 y) ∧ w'.cell? ⟨gm, j * 3 + 2, none⟩ = some (.int .i64 t) ∧ w'.cell? ⟨gu, j, none⟩ = some (.int .i64 dn.used)) (first | exact ⟨p1, p2, p3, p4⟩ | exact ⟨r1, r2, r3, r4⟩ | exact ⟨s1, s2, s3, s4⟩) (first | (go_at_call 23; refine (Take_any gd hok (by omega) hcell _ hB4.drew).mono ?_; rintro e5 w5 ⟨rfl, hB5, hK5⟩; rw [← HNX.out] at hB5; have hM5 := hM4.drew.keep hK5 (fun i cur hi he => by rw [he] at hi; exact absurd (hi.typ hB4.drew) (by decide)); have hBm5 := hBm4.drew.keep hK5 (fun he => by rw [he] at hBm4; exact absurd (hBm4.typ hB4) (by decide)); have hU5 := hU4.drew.keep hK5 (fun i hi he => by rw [he] at hi; obtain ⟨cur2, h2⟩ := hU4.blk hi; exact absurd (h2.typ hB4) (by decide)); have hb5 : Below w.heap.size w w5 := hb4.drew.trans (hK5.below (fun i hi => by rw [hi]; exact hgd1) hb4.size); have r1 := (hBm5.cell (j * 3)).trans q1; have r2 := (hBm5.cell (j * 3 + 1)).trans q2; have r3 := (hBm5.cell (j * 3 + 2)).trans q3; have r4 := (hU5.cellAt hUL j hjM).trans hju) | (go_at_call 24; refine (DecUsed_any gd hok2 (by omega) _ hB5).mono ?_; rintro e6 w6 ⟨rfl, hK6⟩; have hM6 := hM5.keep hK6 (fun _ _ _ h => h); have hBm6 := hBm5.keep hK6 (fun h => h); have hU6 := hU5.keep hK6 (fun _ _ h => h); have hB6 := hB5.keep hK6 (fun h => h); have hb6 : Below w.heap.size w w6 := hb5.trans (hK6.below (fun _ h => h.elim) hb5.size); have s1 := (hBm6.cell (j * 3)).trans q1; have s2 := (hBm6.cell (j * 3 + 1)).trans q2; have s3 := (hBm6.cell (j * 3 + 2)).trans q3; have s4 := (hU6.cellAt hUL j hjM).trans hju))
          go_wp2_with fail
          go_roundw
          case rel => exact ⟨j + 1, by omega, by go_num, by rw [HDN.out]; exact hB6, hM6, hU6, hb6⟩
          case measure => simp [intOf]; omega
        · go_wp2_with fail
          go_ret
          exact ⟨rfl, hb⟩
end Go.Proofs.YtlhjkichambaoaaDoor
