/- The walks of seek.may, At, Near. -/
import Derived.Test.YtmfihaaiddolmaaGreatDoorSpecSeek
set_option linter.unusedSimpArgs false
set_option linter.unusedVariables false
namespace Go.Proofs.YtmfihaaiddolmaaGreatDoor
open Go.RowKit Go.Shelf

def mayE (n : Nat) (i : Int) : Bool := decide (0 ≤ i) && decide (i ≤ n)
theorem may_any (p : Option Addr) (n cap : Nat) (i : Int) (w : World) : Calls Tryz.prog 68 #[.slice p n cap, .int .i64 i] w fun r w' => r = .returned (.bool (mayE n i)) ∧ w = w' := by
  by_cases h0 : 0 ≤ i
  · by_cases h1 : i ≤ n
    · have hr : mayE n i = true := by unfold mayE; simp [h0, h1]
      rw [hr]
      go_enter Tryz.func68, Tryz.ntmps68
      go_wp2
      go_ret
      exact ⟨rfl, rfl⟩
    · have hr : mayE n i = false := by unfold mayE; simp [h1]
      rw [hr]
      go_enter Tryz.func68, Tryz.ntmps68
      go_wp2
      go_ret
      exact ⟨rfl, rfl⟩
  · have hr : mayE n i = false := by unfold mayE; simp [h0]
    rw [hr]
    go_enter Tryz.func68, Tryz.ntmps68
    go_wp2
    go_ret
    exact ⟨rfl, rfl⟩
/-- Where the first entry stands whose stamp is none lesser. -/
def geE (st : Int) (e : Ent) : Bool := decide (st ≤ e.stamp)
theorem AtY_any (e : Ent) (st : Int) (g : Nat) (w : World) (hg : Blk w g #[.int .u32 st] 56) : Calls Tryz.prog 67 #[.agg (entV e), .pointer (some ⟨g, 0, none⟩)] w fun r w' => r = .returned (.bool (geE st e)) ∧ Below w.heap.size w w' := by
  obtain ⟨k, sp, s⟩ := e
  obtain ⟨B, hB⟩ : ∃ B, w.heap.size = B := ⟨_, rfl⟩
  have hfar := Below.refl B w
  have hsz : B ≤ w.heap.size := by omega
  have hgl := hg.lt
  go_enter Tryz.func67, Tryz.ntmps67
  go_upto_region 1 with (fail)
  refine wp_gen (fun W => Blk W (g) (#[.int .u32 st]) 56 ∧ Blk W (B) (entV ⟨k, sp, s⟩) 61 ∧ Below (B) w W ∧ B + 1 ≤ W.heap.size) ⟨bk_, bk_, bl_, sz_⟩ ?_
  clear hg hfar hsz
  rintro w1 ⟨hg, hE, hfar, hsz⟩
  have c0 := hg.cell 0
  have c1 := hE.cell 1
  simp only [List.getElem?_toArray, List.getElem?_cons_zero, List.getElem?_cons_succ] at c0 c1
  go_wp2
  go_ret
  exact ⟨rfl, (by (try rw [hB]); exact bl_)⟩
set_option maxRecDepth 100000 in
set_option maxHeartbeats 4000000 in
theorem IndexFunc_any {l : List Ent} {n : Nat} (hn : l.length = n) (hl : n ≤ 1000) {p : Option Addr} {lo hi cap : Nat} {w : World} (hE : SL w lo hi 3 p n cap (flE l)) (st : Int) (g : Nat) (hg : Blk w g #[.int .u32 st] 56) :
    Calls Tryz.prog 66 #[.slice p n cap, .func (.func 67) #[] #[.pointer (some ⟨g, 0, none⟩)]] w fun r w' => r = .returned (.int .i64 (if l.findIdx (geE st) < n then (l.findIdx (geE st) : Int) else -1)) ∧ Below w.heap.size w w' := by
  have hhi := hE.2.2.2.1
  have hcap := hE.2.1
  have hcm := hE.2.2.1
  unfold maxLen at hcm
  have hQ := hE
  have HN := Lib.hid hn
  have HIL := Lib.hid (show l.findIdx (geE st) ≤ n by rw [← hn]; exact List.findIdx_le_length)
  clear hn hE
  obtain ⟨B, hB⟩ : ∃ B, w.heap.size = B := ⟨_, rfl⟩
  have hgl := hg.lt
  rw [hB] at hhi hgl
  have hfar := Below.refl B w
  have hsz : B ≤ w.heap.size := by omega
  obtain ⟨R, hR⟩ : ∃ R, l.findIdx (geE st) = R := ⟨_, rfl⟩
  have HR := Lib.hid hR
  rw [hR] at HIL ⊢
  clear hR
  go_enter Tryz.func66, Tryz.ntmps66
  go_wp2_with fail
  go_loopw [8] (fun i wr => ∃ (k : Nat), k ≤ n ∧ i = .int .i64 k ∧ Hid (k ≤ R) ∧ Blk wr g #[.int .u32 st] 56 ∧ SL wr lo hi 3 p n cap (flE l) ∧ Below B w wr ∧ B ≤ wr.heap.size) (fun i _ => n - (intOf i).toNat)
  case atStart => exact ⟨0, by omega, rfl, Lib.hid (by omega), hg, hQ, hfar, hsz⟩
  case round =>
    clear hg hQ hfar hsz
    obtain ⟨k, hk, rfl, HK, hg, hQ, hfar, hsz⟩ := hrel
    by_cases hlt : k < n
    · have hkl : k < l.length := by rw [HN.out]; exact hlt
      obtain ⟨e, he⟩ : ∃ e, l[k] = e := ⟨_, rfl⟩
      have hget : l[k]? = some e := by rw [List.getElem?_eq_getElem hkl, he]
      have hES : ES wr lo hi p cap l := by unfold ES; rw [HN.out]; exact hQ
      obtain ⟨b, o, rfl, hb1, hb2, hr⟩ := hES.get hget
      have HE2 := Lib.hid he
      clear he hget hES
      go_wp2_with (first | (refine ldr 61 rfl (by rfl) w_Entry rfl (by assumption) (by rfl) ?_))
      refine (AtY_any e st g _ hg).mono ?_
      rintro e w2 ⟨rfl, hb2⟩
      replace hg := hg.newB hb2
      replace hQ := hQ.newB hb2
      replace hfar := hfar.trans (hb2.mono (by omega))
      replace hsz := Nat.le_trans hsz hb2.size
      cases hge : geE st e with
      | true =>
        have h1 : R = k := by
          have h2 := HK.out
          rcases Nat.lt_or_ge k R with h3 | h3
          · have h4 := List.not_of_lt_findIdx (p := geE st) (xs := l) (i := k) (by rw [HR.out]; exact h3)
            rw [HE2.out, hge] at h4; simp at h4
          · omega
        subst h1
        go_wp2_with fail
        go_ret
        exact ⟨rfl, (by (try rw [hB]); exact bl_)⟩
      | false =>
        have h1 : k + 1 ≤ R := by
          have h2 := HK.out
          rcases Nat.lt_or_ge k R with h3 | h3
          · exact h3
          · exfalso
            have h4 : R = k := by omega
            have h5 := List.findIdx_getElem (p := geE st) (xs := l) (w := by rw [HR.out, h4]; exact hkl)
            simp only [HR.out, h4, HE2.out, hge] at h5
            exact absurd h5 (by decide)
        have H1 := Lib.hid h1
        clear h1
        go_wp2_with fail
        go_roundw
        case rel => exact ⟨k + 1, hlt, by go_num, H1, hg, hQ, hfar, by omega⟩
        case measure => simp [intOf]; omega
    · obtain rfl : k = n := by omega
      have h1 : ¬ R < k := by have := HK.out; omega
      have H1 := Lib.hid h1
      clear h1
      go_wp2_with fail
      go_ret
      exact ⟨rfl, hfar⟩
set_option maxRecDepth 100000 in
set_option maxHeartbeats 4000000 in
theorem SeekAt_any {l : List Ent} {n : Nat} (hn : l.length = n) (hl : n ≤ 1000) {p : Option Addr} {lo hi cap : Nat} {w : World} (hE : SL w lo hi 3 p n cap (flE l)) (st : Int) :
    Calls Tryz.prog 24 #[.slice p n cap, .int .u32 st] w fun r w' => r = .returned (.int .i64 (l.findIdx (geE st) : Nat)) ∧ Below w.heap.size w w' := by
  have hQ := hE
  have hcap := hE.2.1
  have hcm := hE.2.2.1
  unfold maxLen at hcm
  have HIL := Lib.hid (show l.findIdx (geE st) ≤ n by rw [← hn]; exact List.findIdx_le_length)
  have hIx := fun (w : World) (g : Nat) (hE : SL w lo hi 3 p n cap (flE l)) (hg : Blk w g #[.int .u32 st] 56) => IndexFunc_any hn hl hE st g hg
  obtain ⟨R, hR⟩ : ∃ R, l.findIdx (geE st) = R := ⟨_, rfl⟩
  rw [hR] at HIL ⊢
  simp only [hR] at hIx
  have HIX := Lib.hid hIx
  have hRn := HIL.out
  clear hn hE hR hIx HIL
  obtain ⟨B, hB⟩ : ∃ B, w.heap.size = B := ⟨_, rfl⟩
  have hfar := Below.refl B w
  have hsz : B ≤ w.heap.size := by omega
  go_enter Tryz.func24, Tryz.ntmps24
  go_upto_region 1 with (fail)
  refine wp_gen (fun W => SL W (lo) (hi) (3) (p) (n) (cap) (flE l) ∧ Blk W (B) (#[.int .u32 st]) 56 ∧ Below (B) w W ∧ B + 1 ≤ W.heap.size) ⟨sl_, bk_, bl_, sz_⟩ ?_
  clear hQ hfar hsz
  rintro w1 ⟨hQ, hG, hfar, hsz⟩
  go_wp2_with fail
  refine (HIX.out _ B hQ hG).mono ?_
  rintro e w2 ⟨rfl, hb2⟩
  replace hQ := hQ.newB hb2
  replace hG := hG.newB hb2
  replace hfar := hfar.trans (hb2.mono (by omega))
  replace hsz := Nat.le_trans hsz hb2.size
  by_cases h : R < n
  · rw [if_pos h]
    go_wp2_with fail
    go_ret
    exact ⟨rfl, (by (try rw [hB]); exact bl_)⟩
  · rw [if_neg h]
    obtain rfl : R = n := by omega
    go_wp2_with fail
    go_ret
    exact ⟨rfl, (by (try rw [hB]); exact bl_)⟩
end Go.Proofs.YtmfihaaiddolmaaGreatDoor
