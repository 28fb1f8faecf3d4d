/- The walk of entry.Check. -/
import Derived.Test.YtbpdocdomjafbaaGreatDoorSpec10
import Derived.Test.YtbpdocdomjafbaaGreatDoorSpecSeek
set_option linter.unusedSimpArgs false
set_option linter.unusedVariables false
namespace Go.Proofs.YtbpdocdomjafbaaGreatDoor
open Go.RowKit

/-- What a check of a state is: no entry, where the state isn't right. -/
def chkV (sp : Int) (L : List Int) : Ent := if rightS L = true then chkE sp L else ⟨0, 0, ⟨#[]⟩⟩
set_option maxRecDepth 100000 in
set_option maxHeartbeats 4000000 in
theorem Check_any (sp : Int) (L : List Int) (hL : L.length = 38) (w : World) : Calls Tryz.prog 8 #[.int .u32 sp, .agg (arrV L)] w fun r w' => r = .returned (.tuple #[.agg (entV (chkV sp L)), .int .i64 (bytesE L)]) ∧ Below w.heap.size w w' := by
  have LL := Len.mk hL
  obtain ⟨C, hC⟩ : ∃ C, chkV sp L = C := ⟨_, rfl⟩
  rw [hC]
  have HC := Lib.hid hC
  have hBy := fun w => SBytes_any L hL w
  obtain ⟨S, hS⟩ : ∃ S, bytesS L = S := ⟨_, rfl⟩
  obtain ⟨E, hE⟩ : ∃ E, bytesE L = E := ⟨_, rfl⟩
  simp only [hS, hE] at hBy ⊢
  have HBY := Lib.hid hBy
  have HS := Lib.hid hS
  have HE := Lib.hid hE
  clear hC hL hBy hS hE
  obtain ⟨B, hB⟩ : ∃ B, w.heap.size = B := ⟨_, rfl⟩
  have hfar := Below.refl B w
  have hsz : B ≤ w.heap.size := by omega
  go_enter Tryz.func8, Tryz.ntmps8
  go_upto_region 1 with (fail)
  refine wp_gen (fun W => Blk W (B) (arrV L) 33 ∧ Blk W (B + 1) (entV ⟨0, 0, ⟨#[]⟩⟩) 36 ∧ Below (B) w W ∧ B + 2 ≤ W.heap.size) ⟨bk_, bk_, bl_, sz_⟩ ?_
  clear hfar hsz
  rintro w1 ⟨hA, hE, hfar, hsz⟩
  go_wp2_with (first | (refine st 36 rfl (by rfl) w_Entry rfl rfl bk_ zz_ zz_ one_ ?_) | (refine ld 36 rfl (by rfl) w_Entry rfl bk_ zz_ ?_) | (refine bd 33 rfl (by rfl) rfl state_zs ?_) | (refine bd 30 rfl (by rfl) rfl block_zs ?_) | (refine ld 33 rfl (by rfl) w_State rfl bk_ lz_ ?_) | (refine ld 30 rfl (by rfl) w_Block rfl bk_ lz_ ?_) | (refine ldp 30 rfl (by rfl) w_Block rfl bk_ ln_ (by omega) ?_) | (refine ld 31 rfl (by rfl) w_Four rfl bk_ lz_ ?_) | (refine ldp 31 rfl (by rfl) w_Four rfl bk_ ln_ (by omega) ?_) | (refine st 33 rfl (by rfl) w_State rfl rfl bk_ lz_ lz_ one_ ?_) | (refine st 30 rfl (by rfl) w_Block rfl rfl bk_ lz_ lz_ one_ ?_) | (refine st 31 rfl (by rfl) w_Four rfl rfl bk_ lz_ lz_ one_ ?_))
  refine (HBY.out _).mono ?_
  rintro e w2 ⟨rfl, hb2⟩
  replace hA := hA.newB hb2
  replace hE := hE.newB hb2
  replace hfar := hfar.trans (hb2.mono (by omega))
  replace hsz := Nat.le_trans hsz hb2.size
  cases hr : rightS L with
  | false =>
    have e1 : C = ⟨0, 0, ⟨#[]⟩⟩ := by rw [← HC.out]; unfold chkV; rw [hr]; rfl
    have e2 : E = 1 := by rw [← HE.out]; unfold bytesE; rw [hr]; rfl
    subst e1 e2
    go_wp2_with (first | (refine st 36 rfl (by rfl) w_Entry rfl rfl bk_ zz_ zz_ one_ ?_) | (refine ld 36 rfl (by rfl) w_Entry rfl bk_ zz_ ?_) | (refine bd 33 rfl (by rfl) rfl state_zs ?_) | (refine bd 30 rfl (by rfl) rfl block_zs ?_) | (refine ld 33 rfl (by rfl) w_State rfl bk_ lz_ ?_) | (refine ld 30 rfl (by rfl) w_Block rfl bk_ lz_ ?_) | (refine ldp 30 rfl (by rfl) w_Block rfl bk_ ln_ (by omega) ?_) | (refine ld 31 rfl (by rfl) w_Four rfl bk_ lz_ ?_) | (refine ldp 31 rfl (by rfl) w_Four rfl bk_ ln_ (by omega) ?_) | (refine st 33 rfl (by rfl) w_State rfl rfl bk_ lz_ lz_ one_ ?_) | (refine st 30 rfl (by rfl) w_Block rfl rfl bk_ lz_ lz_ one_ ?_) | (refine st 31 rfl (by rfl) w_Four rfl rfl bk_ lz_ lz_ one_ ?_))
    exact bodyPost_ret (v := .tuple #[.agg (entV ⟨0, 0, ⟨#[]⟩⟩), .int .i64 1]) (res_ct Tryz.results8 rfl w_Entry (by exact bk_) rfl rfl) rfl ⟨rfl, (by (try rw [hB]); exact bl_)⟩
  | true =>
    have e1 : C = ⟨3, sp, S⟩ := by rw [← HC.out, ← HS.out]; unfold chkV; rw [hr]; rfl
    have e2 : E = 0 := by rw [← HE.out]; unfold bytesE; rw [hr]; rfl
    subst e1 e2
    go_wp2_with (first | (refine st 36 rfl (by rfl) w_Entry rfl rfl bk_ zz_ zz_ one_ ?_) | (refine ld 36 rfl (by rfl) w_Entry rfl bk_ zz_ ?_) | (refine bd 33 rfl (by rfl) rfl state_zs ?_) | (refine bd 30 rfl (by rfl) rfl block_zs ?_) | (refine ld 33 rfl (by rfl) w_State rfl bk_ lz_ ?_) | (refine ld 30 rfl (by rfl) w_Block rfl bk_ lz_ ?_) | (refine ldp 30 rfl (by rfl) w_Block rfl bk_ ln_ (by omega) ?_) | (refine ld 31 rfl (by rfl) w_Four rfl bk_ lz_ ?_) | (refine ldp 31 rfl (by rfl) w_Four rfl bk_ ln_ (by omega) ?_) | (refine st 33 rfl (by rfl) w_State rfl rfl bk_ lz_ lz_ one_ ?_) | (refine st 30 rfl (by rfl) w_Block rfl rfl bk_ lz_ lz_ one_ ?_) | (refine st 31 rfl (by rfl) w_Four rfl rfl bk_ lz_ lz_ one_ ?_))
    exact bodyPost_ret (v := .tuple #[.agg (entV ⟨3, sp, S⟩), .int .i64 0]) (res_ct Tryz.results8 rfl w_Entry (by exact bk_) rfl rfl) rfl ⟨rfl, (by (try rw [hB]); exact bl_)⟩
end Go.Proofs.YtbpdocdomjafbaaGreatDoor
