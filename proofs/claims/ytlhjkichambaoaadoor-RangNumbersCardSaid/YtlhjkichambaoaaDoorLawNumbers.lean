/- The walk of spoollaw07.RangNumbers: whatever the number, its bits and the text, it returns true. -/
import Derived.Test.YtlhjkichambaoaaDoorRangP
import Derived.Test.YtlhjkichambaoaaDoorRangN2
import Derived.Test.YtlhjkichambaoaaDoorRangD2
import Derived.Test.YtlhjkichambaoaaDoorRangR4
import Derived.Deep.RegionWith
namespace Go.Proofs.YtlhjkichambaoaaDoor
open Go.RowKit

theorem used50 : (Sp.Enc.new 50).used = 0 := by decide +kernel
theorem pow_bdn {a : Nat} (h : a ≤ 24) : (1 : Int) ≤ 2 ^ a ∧ (2 : Int) ^ a ≤ 16777216 := by
  have h2 : (2 : Int) ^ a ≤ 2 ^ 24 := by exact_mod_cast (Nat.pow_le_pow_right (by omega : 0 < 2) h)
  have h3 : (0 : Int) < 2 ^ a := Int.pow_pos (by omega)
  omega

set_option maxRecDepth 100000 in
set_option maxHeartbeats 3200000 in
theorem RangNumbers_any (x n : Int) (s : ByteArray) (w : World) : Calls Tryd.prog 8 #[.int .i64 x, .int .i64 n, .string s] w fun e w' => e = .returned (.bool true) ∧ Below w.heap.size w w' := by
  by_cases hlong : (500 : Int) < s.size
  · go_enter Tryd.func8, Tryd.ntmps8
    go_wp2_with fail
    refine (awake_any _).mono ?_
    rintro e w1 ⟨rfl, hb1⟩
    go_wp2_with fail
    refine (awake_any _).mono ?_
    rintro e w2 ⟨rfl, hb2⟩
    go_wp2_with fail
    go_ret
    exact ⟨rfl, hb1.trans (hb2.mono hb1.size)⟩
  by_cases hn0 : n < 0
  · have HNO := Lib.hid (show n < 0 ∨ 24 < n from .inl hn0)
    go_enter Tryd.func8, Tryd.ntmps8
    go_wp2_with fail
    refine (awake_any _).mono ?_
    rintro e w1 ⟨rfl, hb1⟩
    go_wp2_with fail
    refine (NewEnc_any 50 (by decide) (by decide) _).mono ?_
    rintro e w2 ⟨g, hg, rfl, hB2, hb2⟩
    have h12 := hb1.trans (hb2.mono hb1.size)
    have hg1 : w.heap.size ≤ g := by have := hb1.size; omega
    clear hb1 hb2
    go_wp2_with fail
    refine (EBits_no1 g x n HNO.out _).mono ?_
    rintro e w2' ⟨rfl, rfl⟩
    go_wp2_with fail
    refine (RNewEnc_any _).mono ?_
    rintro e w3 ⟨lv0, rfl, hL3, hb3, hFL3⟩
    have hB3 := hB2.newB hb3
    have h13 := h12.trans (hb3.mono h12.size)
    obtain ⟨ob0, cap0, hlv0, _⟩ := hL3.slice (by intro h; simp [intsV] at h)
    rw [show (intsV [0, 0, 0, 0]).length = 4 from rfl] at hlv0
    subst hlv0
    have hBX := hB3.alloc (.cells #[.slice (some ⟨ob0, 0, none⟩) 4 cap0, .int .i64 4294967295] 30)
    have hbX := h13.alloc h13.size (.cells #[.slice (some ⟨ob0, 0, none⟩) 4 cap0, .int .i64 4294967295] 30)
    go_wp2_with fail
    refine (EncUsed_any g (Sp.Enc.new_ok 50) (by decide) _ _ hBX).mono ?_
    rw [used50]
    rintro e w4 ⟨rfl, hK4⟩
    have hb4 : Below w.heap.size w w4 := hbX.trans (hK4.below (fun _ h => h.elim) hbX.size)
    clear hB2 h12 hL3 hb3 hFL3 hB3 h13 hBX hbX hK4
    go_wp2_with fail
    refine (NewDec_any s _).mono ?_
    rintro e wd ⟨gd, hgd, rfl, hBd, hbd⟩
    have hbz := hb4.trans (hbd.mono hb4.size)
    go_wp2_with fail
    refine (DBits_no gd n HNO.out _).mono ?_
    rintro e wd' ⟨rfl, rfl⟩
    go_wp2_with fail
    refine (EDone_nil _).mono ?_
    rintro ee wn ⟨rfl, rfl⟩
    go_wp2_with fail
    refine (DAt_nil 2 _).mono ?_
    rintro ee wn ⟨rfl, rfl⟩
    go_wp2_with fail
    refine (DBits_nil 2 _).mono ?_
    rintro ee wn ⟨rfl, rfl⟩
    go_wp2_with fail
    refine (EPut_nil 0 1 2 _).mono ?_
    rintro ee wn ⟨rfl, rfl⟩
    go_wp2_with fail
    refine (EBits_nil 0 1 _).mono ?_
    rintro ee wn ⟨rfl, rfl⟩
    go_wp2_with fail
    refine (EUsed_nil _).mono ?_
    rintro ee wn ⟨rfl, rfl⟩
    go_wp2_with fail
    refine (DTake_nil 0 1 2 _).mono ?_
    rintro ee wn ⟨rfl, rfl⟩
    go_wp2_with fail
    refine (DUsed_nil _).mono ?_
    rintro ee wn ⟨rfl, rfl⟩
    go_wp2_with fail
    go_ret
    exact ⟨rfl, hbz⟩
  by_cases hn1 : 24 < n
  · have HNO := Lib.hid (show n < 0 ∨ 24 < n from .inr hn1)
    go_enter Tryd.func8, Tryd.ntmps8
    go_wp2_with fail
    refine (awake_any _).mono ?_
    rintro e w1 ⟨rfl, hb1⟩
    go_wp2_with fail
    refine (NewEnc_any 50 (by decide) (by decide) _).mono ?_
    rintro e w2 ⟨g, hg, rfl, hB2, hb2⟩
    have h12 := hb1.trans (hb2.mono hb1.size)
    have hg1 : w.heap.size ≤ g := by have := hb1.size; omega
    clear hb1 hb2
    go_wp2_with fail
    refine (EBits_no1 g x n HNO.out _).mono ?_
    rintro e w2' ⟨rfl, rfl⟩
    go_wp2_with fail
    refine (RNewEnc_any _).mono ?_
    rintro e w3 ⟨lv0, rfl, hL3, hb3, hFL3⟩
    have hB3 := hB2.newB hb3
    have h13 := h12.trans (hb3.mono h12.size)
    obtain ⟨ob0, cap0, hlv0, _⟩ := hL3.slice (by intro h; simp [intsV] at h)
    rw [show (intsV [0, 0, 0, 0]).length = 4 from rfl] at hlv0
    subst hlv0
    have hBX := hB3.alloc (.cells #[.slice (some ⟨ob0, 0, none⟩) 4 cap0, .int .i64 4294967295] 30)
    have hbX := h13.alloc h13.size (.cells #[.slice (some ⟨ob0, 0, none⟩) 4 cap0, .int .i64 4294967295] 30)
    go_wp2_with fail
    refine (EncUsed_any g (Sp.Enc.new_ok 50) (by decide) _ _ hBX).mono ?_
    rw [used50]
    rintro e w4 ⟨rfl, hK4⟩
    have hb4 : Below w.heap.size w w4 := hbX.trans (hK4.below (fun _ h => h.elim) hbX.size)
    clear hB2 h12 hL3 hb3 hFL3 hB3 h13 hBX hbX hK4
    go_wp2_with fail
    refine (NewDec_any s _).mono ?_
    rintro e wd ⟨gd, hgd, rfl, hBd, hbd⟩
    have hbz := hb4.trans (hbd.mono hb4.size)
    go_wp2_with fail
    refine (DBits_no gd n HNO.out _).mono ?_
    rintro e wd' ⟨rfl, rfl⟩
    go_wp2_with fail
    refine (EDone_nil _).mono ?_
    rintro ee wn ⟨rfl, rfl⟩
    go_wp2_with fail
    refine (DAt_nil 2 _).mono ?_
    rintro ee wn ⟨rfl, rfl⟩
    go_wp2_with fail
    refine (DBits_nil 2 _).mono ?_
    rintro ee wn ⟨rfl, rfl⟩
    go_wp2_with fail
    refine (EPut_nil 0 1 2 _).mono ?_
    rintro ee wn ⟨rfl, rfl⟩
    go_wp2_with fail
    refine (EBits_nil 0 1 _).mono ?_
    rintro ee wn ⟨rfl, rfl⟩
    go_wp2_with fail
    refine (EUsed_nil _).mono ?_
    rintro ee wn ⟨rfl, rfl⟩
    go_wp2_with fail
    refine (DTake_nil 0 1 2 _).mono ?_
    rintro ee wn ⟨rfl, rfl⟩
    go_wp2_with fail
    refine (DUsed_nil _).mono ?_
    rintro ee wn ⟨rfl, rfl⟩
    go_wp2_with fail
    go_ret
    exact ⟨rfl, hbz⟩
  obtain ⟨m, rfl⟩ : ∃ m : Nat, n = m := ⟨n.toNat, by omega⟩
  have hm24 : m ≤ 24 := by omega
  obtain ⟨p0, p1⟩ := pow_bdn hm24
  obtain ⟨_, z0, z1⟩ := Sp.Dec.bitF_ok 3 m 0 0 (Sp.Dec.new_ok s) (by omega) (by decide) (by decide)
  rw [Nat.zero_add] at z1
  obtain ⟨z, hz⟩ : ∃ z, (Sp.Dec.bitF 3 (Sp.Dec.new s) m 0 0).1 = z := ⟨_, rfl⟩
  rw [hz] at z0 z1
  have HZ := Lib.hid hz
  clear hz
  by_cases hx0 : x < 0
  · have hno := Lib.hid (show x < 0 ∨ 2 ^ m ≤ x from .inl hx0)
    obtain ⟨p, hp⟩ : ∃ p, (2 : Int) ^ m = p := ⟨_, rfl⟩
    rw [hp] at p0 p1 z1
    have HP := Lib.hid hp
    clear hp
    go_enter Tryd.func8, Tryd.ntmps8
    go_wp2_with fail
    refine (awake_any _).mono ?_
    rintro e w1 ⟨rfl, hb1⟩
    go_wp2_with fail
    refine (NewEnc_any 50 (by decide) (by decide) _).mono ?_
    rintro e w2 ⟨g, hg, rfl, hB2, hb2⟩
    have h12 := hb1.trans (hb2.mono hb1.size)
    have hg1 : w.heap.size ≤ g := by have := hb1.size; omega
    clear hb1 hb2
    go_wp2_with fail
    refine (EBits_no2 g x m hm24 hno.out _).mono ?_
    rintro e w2' ⟨rfl, rfl⟩
    go_wp2_with fail
    refine (RNewEnc_any _).mono ?_
    rintro e w3 ⟨lv0, rfl, hL3, hb3, hFL3⟩
    have hB3 := hB2.newB hb3
    have h13 := h12.trans (hb3.mono h12.size)
    obtain ⟨ob0, cap0, hlv0, _⟩ := hL3.slice (by intro h; simp [intsV] at h)
    rw [show (intsV [0, 0, 0, 0]).length = 4 from rfl] at hlv0
    subst hlv0
    have hBX := hB3.alloc (.cells #[.slice (some ⟨ob0, 0, none⟩) 4 cap0, .int .i64 4294967295] 30)
    have hbX := h13.alloc h13.size (.cells #[.slice (some ⟨ob0, 0, none⟩) 4 cap0, .int .i64 4294967295] 30)
    go_wp2_with fail
    refine (EncUsed_any g (Sp.Enc.new_ok 50) (by decide) _ _ hBX).mono ?_
    rw [used50]
    rintro e w4 ⟨rfl, hK4⟩
    have hb4 : Below w.heap.size w w4 := hbX.trans (hK4.below (fun _ h => h.elim) hbX.size)
    clear hB2 h12 hL3 hb3 hFL3 hB3 h13 hBX hbX hK4
    go_wp2_with fail
    refine (NewDec_any s _).mono ?_
    rintro e wd ⟨gd, hgd, rfl, hBd, hbd⟩
    have hbz0 := hb4.trans (hbd.mono hb4.size)
    have hgd1 : w.heap.size ≤ gd := by have := hb4.size; omega
    go_wp2_with fail
    refine (DBits_any gd (Sp.Dec.new_ok s) (by decide) m hm24 _ hBd).mono ?_
    rw [HZ.out]
    rintro e we ⟨rfl, hBd2, hKd⟩
    have hbz : Below w.heap.size w we := hbz0.trans (hKd.below (fun i hi => by rw [hi]; exact hgd1) hbz0.size)
    clear hBd2 hKd hBd hbd hbz0
    go_wp2_with fail
    refine (Pow_any m (by omega) _).mono ?_
    rw [HP.out]
    rintro e wp ⟨rfl, rfl⟩
    go_wp2_with fail
    refine (EDone_nil _).mono ?_
    rintro ee wn ⟨rfl, rfl⟩
    go_wp2_with fail
    refine (DAt_nil 2 _).mono ?_
    rintro ee wn ⟨rfl, rfl⟩
    go_wp2_with fail
    refine (DBits_nil 2 _).mono ?_
    rintro ee wn ⟨rfl, rfl⟩
    go_wp2_with fail
    refine (EPut_nil 0 1 2 _).mono ?_
    rintro ee wn ⟨rfl, rfl⟩
    go_wp2_with fail
    refine (EBits_nil 0 1 _).mono ?_
    rintro ee wn ⟨rfl, rfl⟩
    go_wp2_with fail
    refine (EUsed_nil _).mono ?_
    rintro ee wn ⟨rfl, rfl⟩
    go_wp2_with fail
    refine (DTake_nil 0 1 2 _).mono ?_
    rintro ee wn ⟨rfl, rfl⟩
    go_wp2_with fail
    refine (DUsed_nil _).mono ?_
    rintro ee wn ⟨rfl, rfl⟩
    go_wp2_with fail
    go_ret
    exact ⟨rfl, hbz⟩
  by_cases hx1 : (2 : Int) ^ m ≤ x
  · have hno := Lib.hid (show x < 0 ∨ 2 ^ m ≤ x from .inr hx1)
    obtain ⟨p, hp⟩ : ∃ p, (2 : Int) ^ m = p := ⟨_, rfl⟩
    rw [hp] at p0 p1 z1 hx1
    have HP := Lib.hid hp
    clear hp
    go_enter Tryd.func8, Tryd.ntmps8
    go_wp2_with fail
    refine (awake_any _).mono ?_
    rintro e w1 ⟨rfl, hb1⟩
    go_wp2_with fail
    refine (NewEnc_any 50 (by decide) (by decide) _).mono ?_
    rintro e w2 ⟨g, hg, rfl, hB2, hb2⟩
    have h12 := hb1.trans (hb2.mono hb1.size)
    have hg1 : w.heap.size ≤ g := by have := hb1.size; omega
    clear hb1 hb2
    go_wp2_with fail
    refine (EBits_no2 g x m hm24 hno.out _).mono ?_
    rintro e w2' ⟨rfl, rfl⟩
    go_wp2_with fail
    refine (RNewEnc_any _).mono ?_
    rintro e w3 ⟨lv0, rfl, hL3, hb3, hFL3⟩
    have hB3 := hB2.newB hb3
    have h13 := h12.trans (hb3.mono h12.size)
    obtain ⟨ob0, cap0, hlv0, _⟩ := hL3.slice (by intro h; simp [intsV] at h)
    rw [show (intsV [0, 0, 0, 0]).length = 4 from rfl] at hlv0
    subst hlv0
    have hBX := hB3.alloc (.cells #[.slice (some ⟨ob0, 0, none⟩) 4 cap0, .int .i64 4294967295] 30)
    have hbX := h13.alloc h13.size (.cells #[.slice (some ⟨ob0, 0, none⟩) 4 cap0, .int .i64 4294967295] 30)
    go_wp2_with fail
    refine (Pow_any m (by omega) _).mono ?_
    rw [HP.out]
    rintro e wq ⟨rfl, rfl⟩
    go_wp2_with fail
    refine (EncUsed_any g (Sp.Enc.new_ok 50) (by decide) _ _ hBX).mono ?_
    rw [used50]
    rintro e w4 ⟨rfl, hK4⟩
    have hb4 : Below w.heap.size w w4 := hbX.trans (hK4.below (fun _ h => h.elim) hbX.size)
    clear hB2 h12 hL3 hb3 hFL3 hB3 h13 hBX hbX hK4
    go_wp2_with fail
    refine (NewDec_any s _).mono ?_
    rintro e wd ⟨gd, hgd, rfl, hBd, hbd⟩
    have hbz0 := hb4.trans (hbd.mono hb4.size)
    have hgd1 : w.heap.size ≤ gd := by have := hb4.size; omega
    go_wp2_with fail
    refine (DBits_any gd (Sp.Dec.new_ok s) (by decide) m hm24 _ hBd).mono ?_
    rw [HZ.out]
    rintro e we ⟨rfl, hBd2, hKd⟩
    have hbz : Below w.heap.size w we := hbz0.trans (hKd.below (fun i hi => by rw [hi]; exact hgd1) hbz0.size)
    clear hBd2 hKd hBd hbd hbz0
    go_wp2_with fail
    refine (Pow_any m (by omega) _).mono ?_
    rw [HP.out]
    rintro e wp ⟨rfl, rfl⟩
    go_wp2_with fail
    refine (EDone_nil _).mono ?_
    rintro ee wn ⟨rfl, rfl⟩
    go_wp2_with fail
    refine (DAt_nil 2 _).mono ?_
    rintro ee wn ⟨rfl, rfl⟩
    go_wp2_with fail
    refine (DBits_nil 2 _).mono ?_
    rintro ee wn ⟨rfl, rfl⟩
    go_wp2_with fail
    refine (EPut_nil 0 1 2 _).mono ?_
    rintro ee wn ⟨rfl, rfl⟩
    go_wp2_with fail
    refine (EBits_nil 0 1 _).mono ?_
    rintro ee wn ⟨rfl, rfl⟩
    go_wp2_with fail
    refine (EUsed_nil _).mono ?_
    rintro ee wn ⟨rfl, rfl⟩
    go_wp2_with fail
    refine (DTake_nil 0 1 2 _).mono ?_
    rintro ee wn ⟨rfl, rfl⟩
    go_wp2_with fail
    refine (DUsed_nil _).mono ?_
    rintro ee wn ⟨rfl, rfl⟩
    go_wp2_with fail
    go_ret
    exact ⟨rfl, hbz⟩
  have hx2 : 0 ≤ x := by omega
  have HX3 := Lib.hid (show x < 2 ^ m by omega)
  obtain ⟨p, hp⟩ : ∃ p, (2 : Int) ^ m = p := ⟨_, rfl⟩
  rw [hp] at p0 p1 z1 hx1
  have HP := Lib.hid hp
  clear hp
  have hx16 : x ≤ 16777216 := by omega
  go_enter Tryd.func8, Tryd.ntmps8
  go_wp2_with fail
  refine (awake_any _).mono ?_
  rintro e w1 ⟨rfl, hb1⟩
  go_wp2_with fail
  refine (NewEnc_any 50 (by decide) (by decide) _).mono ?_
  rintro e w2 ⟨g, hg, rfl, hB2, hb2⟩
  have h12 := hb1.trans (hb2.mono hb1.size)
  have hg1 : w.heap.size ≤ g := by have := hb1.size; omega
  clear hb1 hb2
  go_wp2_with fail
  have hR2 := Row.nil w2 5
  refine (EBits_any g (Sp.Enc.new_ok 50) (by decide) x m hm24 hx2 HX3.out _ _ hB2 hR2).mono ?_
  rintro e w2' ⟨rfl, v2, hB2', hR2', hK2, hF2⟩
  have hF2' : Hid (∀ k, v2.ownBlock = some k → w.heap.size ≤ k) := Lib.hid (fun k hk => by
    rcases hF2 k hk with h | h
    · simp [Value.ownBlock] at h
    · have := h12.size; omega)
  have h12' : Below w.heap.size w w2' := h12.trans (encS_below hK2 hg1 (by intro k hk; simp [Value.ownBlock] at hk) h12.size)
  have hMc := Sp.bitF_cel 3 x m
  have hMl := Sp.bitF_len 3 x m
  obtain ⟨M, hM⟩ : ∃ M, Sp.bitF 3 x m = M := ⟨_, rfl⟩
  rw [hM] at hB2' hR2' hMc hMl
  have HM := Lib.hid hM
  have HMC := Lib.hid hMc
  clear hM hB2 hR2 h12 hK2 hF2 hMc
  have hB2 := hB2'
  have hR2 := hR2'
  have h12 := h12'
  clear hB2' hR2' h12'
  go_wp2_with fail
  refine (RNewEnc_any _).mono ?_
  rintro e w3 ⟨lv0, rfl, hL3, hb3, hFL3⟩
  have hB3 := hB2.newB hb3
  have hR3 := hR2.keep (Kept.of_below (S := fun _ => False) hb3) (fun _ _ h => h)
  have h13 := h12.trans (hb3.mono h12.size)
  have hFL : Hid (∀ k, lv0.ownBlock = some k → w.heap.size ≤ k) := Lib.hid (fun k hk => by have := hFL3 k hk; have := h12.size; omega)
  obtain ⟨ob0, cap0, hlv0, _⟩ := hL3.slice (by intro h; simp [intsV] at h)
  rw [show (intsV [0, 0, 0, 0]).length = 4 from rfl] at hlv0
  subst hlv0
  clear hB2 hR2 h12 hb3 hFL3
  have hBX := hB3.alloc (.cells #[.slice (some ⟨ob0, 0, none⟩) 4 cap0, .int .i64 4294967295] 30)
  have hRX := hR3.alloc (.cells #[.slice (some ⟨ob0, 0, none⟩) 4 cap0, .int .i64 4294967295] 30)
  have hLX := hL3.alloc (.cells #[.slice (some ⟨ob0, 0, none⟩) 4 cap0, .int .i64 4294967295] 30)
  have hXX := Blk.new w3 #[.slice (some ⟨ob0, 0, none⟩) 4 cap0, .int .i64 4294967295] 30
  have hbX := h13.alloc h13.size (.cells #[.slice (some ⟨ob0, 0, none⟩) 4 cap0, .int .i64 4294967295] 30)
  have hxw : w.heap.size ≤ w3.heap.size := h13.size
  clear hB3 hR3 hL3 h13
  obtain ⟨xb, hxb⟩ : ∃ xb, w3.heap.size = xb := ⟨_, rfl⟩
  rw [hxb] at hxw hXX
  go_wp2_with fail
  refine (Pow_any m (by omega) _).mono ?_
  rw [HP.out]
  rintro e wq ⟨rfl, rfl⟩
  go_wp2_with fail
  refine (RBits_any x m hm24 hx2 hx16 _).mono ?_
  unfold RetBits
  rw [HM.out]
  rintro e w5 ⟨mv, rfl, hM5, hb5⟩
  have hB5 := hBX.newB hb5
  have hR5 := hRX.keep (Kept.of_below (S := fun _ => False) hb5) (fun _ _ h => h)
  have hL5 := hLX.keep (Kept.of_below (S := fun _ => False) hb5) (fun _ _ h => h)
  have hX5 := hXX.newB hb5
  have hb6 := hbX.trans (hb5.mono hbX.size)
  clear hBX hRX hLX hXX hbX hb5
  obtain ⟨q, hq⟩ : ∃ q, M.length = q := ⟨_, rfl⟩
  have hmv : ∃ o cap, mv = .slice o q cap ∧ q ≤ cap ∧ cap ≤ 9223372036854775807 := by
    obtain ⟨o, cap, hv, h1, h2, _⟩ := hM5
    rw [hq] at hv h1
    exact ⟨o, cap, hv, h1, h2⟩
  obtain ⟨o, cap, rfl, hc1, hc2⟩ := hmv
  rw [hq] at hMl
  have HQL := Lib.hid hq
  clear hq
  go_wp2_with fail
  go_loopw [12] (fun i wr => ∃ (k : Nat) (lv : Value), k ≤ q ∧ i = .int .i64 k ∧ Blk wr xb #[lv, .int .i64 ((Sp.Enc.new 50).puts (M.take k)).rng] 30 ∧ Row wr 3 lv (intsV ((Sp.Enc.new 50).puts (M.take k)).all) ∧ Blk wr g (encC ((Sp.Enc.new 50).puts M) v2) 66 ∧ Row wr 5 v2 (bytesV ((Sp.Enc.new 50).puts M).out) ∧ MRow wr (.slice o q cap) M ∧ Below w.heap.size w wr ∧ Hid (∀ k, lv.ownBlock = some k → w.heap.size ≤ k)) (fun i _ => q - (intOf i).toNat)
  case atStart => exact ⟨0, _, Nat.zero_le _, rfl, hX5, hL5, hB5, hR5, hM5, hb6, hFL⟩
  case round =>
    clear hX5 hL5 hB5 hR5 hM5 hb6 hFL
    obtain ⟨k, lv2, hk, rfl, hX, hL, hB, hR, hMr, hb, hFLp⟩ := hrel
    by_cases hlt : k < q
    · have hkM : k < M.length := by rw [HQL.out]; exact hlt
      obtain ⟨c, hc⟩ : ∃ c, M[k] = c := ⟨_, rfl⟩
      have hMk : M[k]? = some c := by rw [List.getElem?_eq_getElem hkM, hc]
      have hcell := HMC.out c (hc ▸ List.getElem_mem hkM)
      obtain ⟨hok, hinv, _⟩ := Sp.Enc.puts_all (Sp.Enc.new_ok 50) (Sp.Enc.new_inv 50) (fun c hc => HMC.out c hc) k (by omega)
      have hnext := Sp.Enc.puts_next (e := Sp.Enc.new 50) hMk
      have hMM := hMr
      obtain ⟨o', cap', hv, _, _, hmm⟩ := hMM
      cases hv
      obtain ⟨gm, cur, rfl, hBm, hcs⟩ := hmm (by omega)
      obtain ⟨q1, q2, q3⟩ := hcs k c hMk
      obtain ⟨x', y', t'⟩ := c
      simp only at q1 q2 q3 hnext
      unfold Sp.IsCel at hcell
      simp only at hcell
      have hput := Sp.rput_all hok hinv hcell
      have p1 := (hBm.cell (k * 3)).trans q1
      have p2 := (hBm.cell (k * 3 + 1)).trans q2
      have p3 := (hBm.cell (k * 3 + 2)).trans q3
      obtain ⟨ep, hep⟩ : ∃ ep, (Sp.Enc.new 50).puts (M.take k) = ep := ⟨_, rfl⟩
      rw [hep] at hX hL hok hinv hnext hput
      have y0 := hX.cell 0
      have y1 := hX.cell 1
      simp only [List.getElem?_toArray, List.getElem?_cons_zero, List.getElem?_cons_succ] at y0 y1
      have hcall := RPut_any lv2 ep.all ep.rng x' y' t' (Sp.Enc.all_bytes hok.bytes) (by rw [Sp.Enc.all_length]; omega) (by rw [Sp.Enc.all_length]; have := hok.len; omega) hok.rng0 hok.rng1 hcell _ hL.drew
      rw [hput] at hcall
      obtain ⟨eo, heo⟩ : ∃ eo, ep.put x' y' t' = eo := ⟨_, rfl⟩
      rw [heo] at hcall hnext
      have HNX := Lib.hid hnext
      have hne : intsV eo.all ≠ [] := by intro h; have := congrArg List.length h; rw [List.length_map, Sp.Enc.all_length] at this; simp at this
      clear hput heo hok hinv hnext hep hcell hMk hc
      go_wp2_with fail
      go_region_with (go_at_call 15; refine hcall.mono ?_; rintro e4 w4 ⟨lv3, rfl, hL4, hb34, hFL4⟩; have hX4 := hX.drew.newB hb34; have f0 := hX4.frozen 0; have f1 := hX4.frozen 1; have g0 := hX4.cell 0; have g1 := hX4.cell 1; simp only [List.getElem?_toArray, List.getElem?_cons_zero, List.getElem?_cons_succ] at g0 g1; obtain ⟨ob3, cap3, hlv3, _⟩ := hL4.slice hne; rw [List.length_map] at hlv3; subst hlv3)
      all_goals
        have hgx : g ≠ xb := fun h => by rw [h] at hB; exact absurd (hB.typ hX) (by decide)
        have hvx : v2.ownBlock ≠ some xb := fun h => by obtain ⟨cur, hc⟩ := hR.blk h; exact absurd (hc.typ hX) (by decide)
        have hox : (Value.slice (some ⟨ob3, 0, none⟩) eo.all.length cap3).ownBlock ≠ some xb := fun h => by obtain ⟨cur, hc⟩ := hL4.blk h; exact absurd (hc.typ hX4) (by decide)
        have hX5 : Blk ((w4.setCell ⟨xb, 0, none⟩ (.slice (some ⟨ob3, 0, none⟩) eo.all.length cap3)).setCell ⟨xb, 1, none⟩ (.int .i64 eo.rng)) xb #[.slice (some ⟨ob3, 0, none⟩) eo.all.length cap3, .int .i64 eo.rng] 30 := by (apply Blk.mk_eq; (case h => repeat' (first | (with_reducible assumption) | (with_reducible apply Blk.drew) | (with_reducible apply Blk.drewN) | (with_reducible apply Blk.set) | ((with_reducible refine Blk.other ?_ ?ne _); case ne => (first | (simp only []; omega) | omega)) | (with_reducible apply Blk.alloc))); (case e => first | rfl | simp))
        have hB5 := ((hB.drew.newB hb34).other (a := ⟨xb, 0, none⟩) hgx (.slice (some ⟨ob3, 0, none⟩) eo.all.length cap3)).other (a := ⟨xb, 1, none⟩) hgx (.int .i64 eo.rng)
        have hR5 := ((hR.drew.keep (Kept.of_below (S := fun _ => False) hb34) (fun _ _ h => h)).far ⟨xb, 0, none⟩ hvx (.slice (some ⟨ob3, 0, none⟩) eo.all.length cap3)).far ⟨xb, 1, none⟩ hvx (.int .i64 eo.rng)
        have hL5 := (hL4.far ⟨xb, 0, none⟩ hox (.slice (some ⟨ob3, 0, none⟩) eo.all.length cap3)).far ⟨xb, 1, none⟩ hox (.int .i64 eo.rng)
        have hM4 := hMr.drew.keep (Kept.of_below (S := fun _ => False) hb34) (fun _ _ _ h => h)
        have hM5 := hM4.keep (S := fun i => i = xb) (((Kept.refl (fun i => i = xb) w4).setCell (p := ⟨xb, 0, none⟩) (.inl rfl) (.slice (some ⟨ob3, 0, none⟩) eo.all.length cap3)).setCell (p := ⟨xb, 1, none⟩) (.inl rfl) (.int .i64 eo.rng)) (fun i cur hi he => by rw [he] at hi; exact absurd (hi.typ hX4) (by decide))
        have hb4 : Below w.heap.size w w4 := hb.drew.trans (hb34.mono hb.size)
        have hb5 : Below w.heap.size w ((w4.setCell ⟨xb, 0, none⟩ (.slice (some ⟨ob3, 0, none⟩) eo.all.length cap3)).setCell ⟨xb, 1, none⟩ (.int .i64 eo.rng)) := (hb4.setCell hxw _).setCell hxw _
        have hFLn : Hid (∀ k, (Value.slice (some ⟨ob3, 0, none⟩) eo.all.length cap3).ownBlock = some k → w.heap.size ≤ k) := Lib.hid (fun k hk => by
          have h1 := hFL4 k hk
          have h2 := hb.size
          simp only [World.size_drew] at h1
          omega)
        go_wp2_with fail
        go_roundw
        case rel => exact ⟨k + 1, _, by omega, by go_num, by rw [HNX.out]; exact hX5, by rw [HNX.out]; exact hL5, hB5, hR5, hM5, hb5, hFLn⟩
        case measure => simp [intOf]; omega
    · obtain rfl : k = q := by omega
      have hMt : M.take k = M := by rw [← HQL.out, List.take_length]
      rw [hMt] at hX hL
      obtain ⟨hok, hinv, hsz⟩ := Sp.Enc.puts_all (Sp.Enc.new_ok 50) (Sp.Enc.new_inv 50) (fun c hc => HMC.out c hc) k (by rw [HQL.out]; omega)
      rw [hMt] at hok hsz
      obtain ⟨ep, hep⟩ : ∃ ep, (Sp.Enc.new 50).puts M = ep := ⟨_, rfl⟩
      rw [hep] at hX hL hB hR hok hsz
      have HSZ := Lib.hid hsz
      have hfk : Sp.fitOk ep.all 50 = true := Sp.fitOk_short (by rw [Sp.Enc.all_length]; have := hok.len; omega)
      have HFK := Lib.hid hfk
      clear hep hsz hinv hMt hfk
      go_wp2_with fail
      refine (EncDone_any g hok (by omega) 50 HSZ.out (by decide) v2 _ hB hR).mono ?_
      rw [HFK.out]
      rintro e6 w6 ⟨rfl, hb6⟩
      have hX6 := hX.newB hb6
      have hL6 := hL.keep (Kept.of_below (S := fun _ => False) hb6) (fun _ _ h => h)
      have hb7 : Below w.heap.size w w6 := hb.trans (hb6.mono hb.size)
      have y0 := hX6.cell 0
      have y1 := hX6.cell 1
      simp only [List.getElem?_toArray, List.getElem?_cons_zero, List.getElem?_cons_succ] at y0 y1
      go_wp2_with fail
      refine (RDone_any lv2 ep.all ep.rng 50 (Sp.Enc.all_bytes hok.bytes) (by rw [Sp.Enc.all_length]; omega) (by rw [Sp.Enc.all_length]; have := hok.len; omega) (by decide) _ hL6).mono ?_
      unfold RetDone
      rw [HFK.out]
      rintro e7 w7 ⟨rfl, hb67⟩
      have hb4 : Below w.heap.size w w7 := hb7.trans (hb67.mono hb7.size)
      obtain ⟨TS, hTS⟩ : ∃ TS, Sp.fitS ep.all 50 = TS := ⟨_, rfl⟩
      rw [hTS]
      clear hTS hX hL hB hR hb hX6 hL6 hb6 hb7 hb67 y0 y1 hMr hok
      go_wp2_with fail
      refine (NewDec_any s _).mono ?_
      rintro e wd ⟨gd, hgd, rfl, hBd, hbd⟩
      have hbz0 := hb4.trans (hbd.mono hb4.size)
      have hgd1 : w.heap.size ≤ gd := by have := hb4.size; omega
      go_wp2_with fail
      refine (DBits_any gd (Sp.Dec.new_ok s) (by decide) m hm24 _ hBd).mono ?_
      rw [HZ.out]
      rintro e we ⟨rfl, hBd2, hKd⟩
      have hbz : Below w.heap.size w we := hbz0.trans (hKd.below (fun i hi => by rw [hi]; exact hgd1) hbz0.size)
      clear hBd2 hKd hBd hbd hbz0
      go_wp2_with fail
      refine (Pow_any m (by omega) _).mono ?_
      rw [HP.out]
      rintro e wp ⟨rfl, rfl⟩
      go_wp2_with fail
      refine (EDone_nil _).mono ?_
      rintro ee wn ⟨rfl, rfl⟩
      go_wp2_with fail
      refine (DAt_nil 2 _).mono ?_
      rintro ee wn ⟨rfl, rfl⟩
      go_wp2_with fail
      refine (DBits_nil 2 _).mono ?_
      rintro ee wn ⟨rfl, rfl⟩
      go_wp2_with fail
      refine (EPut_nil 0 1 2 _).mono ?_
      rintro ee wn ⟨rfl, rfl⟩
      go_wp2_with fail
      refine (EBits_nil 0 1 _).mono ?_
      rintro ee wn ⟨rfl, rfl⟩
      go_wp2_with fail
      refine (EUsed_nil _).mono ?_
      rintro ee wn ⟨rfl, rfl⟩
      go_wp2_with fail
      refine (DTake_nil 0 1 2 _).mono ?_
      rintro ee wn ⟨rfl, rfl⟩
      go_wp2_with fail
      refine (DUsed_nil _).mono ?_
      rintro ee wn ⟨rfl, rfl⟩
      go_wp2_with fail
      go_ret
      exact ⟨rfl, hbz⟩
end Go.Proofs.YtlhjkichambaoaaDoor
