/- The plain words of entries that are heard from the middle. The walk of entry.Check. The walks of seek.may, At, Near. The walk of seek.Near: the nearest check, sought from behind. The walks of seek.begin, Steps, From. -/
import Derived.Test.YtkoljgmapclhkaaGreatDoorLot14
import Derived.Test.YtkoljgmapclhkaaGreatDoorLot13
set_option linter.unusedSimpArgs false
set_option linter.unusedVariables false
namespace Go.Proofs.YtkoljgmapclhkaaGreatDoor

def isChk (e : Ent) : Bool := decide (e.kind = 3) && rightE e
def mayE (n : Nat) (i : Int) : Bool := decide (0 ≤ i) && decide (i ≤ n)
/-- How many entries stand behind the last check. -/
def trail (l : List Ent) : Nat := l.foldl (fun t e => if isChk e then 0 else t + 1) 0
theorem trail_app1 (l : List Ent) (e : Ent) : trail (l ++ [e]) = if isChk e then 0 else trail l + 1 := by unfold trail; rw [List.foldl_append]; rfl
theorem trail_le (l : List Ent) : trail l ≤ l.length := by
  have h : ∀ (l : List Ent) (t : Nat), l.foldl (fun t e => if isChk e then 0 else t + 1) t ≤ t + l.length := by
    intro l
    induction l with
    | nil => intro t; exact Nat.le_refl _
    | cons e r ih =>
      intro t
      rw [List.foldl_cons, List.length_cons]
      split
      · have := ih 0; omega
      · have := ih (t + 1); omega
  have := h l 0
  unfold trail; omega
/-- The nearest check's place ahead of the first i. -/
def nearE (l : List Ent) (i : Nat) : Option Nat := if trail (l.take i) < i then some (i - 1 - trail (l.take i)) else none
def begK (l : List Ent) (i : Nat) : Nat := i - trail (l.take i)
def begS (l : List Ent) (i : Nat) : List Int := match nearE l i with
  | some k => match l[k]? with
    | some e => readSt e.data
    | none => zs 38
  | none => zs 38
def fromO (l : List Ent) (i : Nat) : List (List Int) := foldO (foldS (begS l i) ((l.take i).drop (begK l i))) (l.drop i)
theorem begS_len (l : List Ent) (i : Nat) : (begS l i).length = 38 := by
  unfold begS
  split
  · split
    · exact readSt_len _
    · simp [zs]
  · simp [zs]
theorem begK_le (l : List Ent) (i : Nat) : begK l i ≤ i := by unfold begK; omega
theorem fromO_len (l : List Ent) (i : Nat) : ∀ b ∈ fromO l i, b.length = 16 := foldO_len _ _
theorem fromO_le (l : List Ent) (i : Nat) : (fromO l i).length ≤ l.length := by
  have := foldO_le (foldS (begS l i) ((l.take i).drop (begK l i))) (l.drop i)
  rw [List.length_drop] at this
  unfold fromO; omega
theorem near_zero (l : List Ent) : nearE l 0 = none := rfl
theorem near_succ {l : List Ent} {i : Nat} {e : Ent} (h : l[i]? = some e) : nearE l (i + 1) = if isChk e then some i else nearE l i := by
  unfold nearE
  rw [List.take_add_one, h, Option.toList_some, trail_app1]
  by_cases hc : isChk e = true
  · rw [if_pos hc, if_pos hc, if_pos (by omega)]; rfl
  · rw [if_neg hc, if_neg hc]
    by_cases ht : trail (l.take i) < i
    · rw [if_pos ht, if_pos (by omega)]; congr 1; omega
    · rw [if_neg ht, if_neg (by omega)]
theorem near_some {l : List Ent} {i k : Nat} (hi : i ≤ l.length) (h : nearE l i = some k) : k < i ∧ begK l i = k + 1 ∧ ∃ e, l[k]? = some e ∧ isChk e = true := by
  induction i with
  | zero => cases h
  | succ i ih =>
    have he : l[i]? = some l[i] := List.getElem?_eq_getElem (by omega)
    rw [near_succ he] at h
    have hb : begK l (i + 1) = if isChk l[i] then i + 1 else begK l i := by
      unfold begK
      rw [List.take_add_one, he, Option.toList_some, trail_app1]
      split
      · rfl
      · omega
    rw [hb]
    by_cases hc : isChk l[i] = true
    · rw [if_pos hc] at h ⊢
      cases h
      exact ⟨by omega, rfl, _, he, hc⟩
    · rw [if_neg hc] at h ⊢
      obtain ⟨h1, h2, h3⟩ := ih (by omega) h
      exact ⟨by omega, h2, h3⟩
theorem near_none {l : List Ent} {i : Nat} (h : nearE l i = none) : begK l i = 0 ∧ begS l i = zs 38 := by
  constructor
  · unfold nearE at h
    unfold begK
    split at h
    · cases h
    · omega
  · unfold begS; rw [h]
theorem begS_some {l : List Ent} {i k : Nat} {e : Ent} (h : nearE l i = some k) (he : l[k]? = some e) : begS l i = readSt e.data := by
  unfold begS; rw [h]; simp only [he]
/-- What a check's step leaves. -/
theorem chk_step {L : List Int} {e : Ent} (h : e.kind = 3) : stepO L e = [] ∧ stepS L e = L := by
  unfold stepO stepS
  rw [h]
  split <;> simp
theorem chk_heard {e : Ent} (h : e.kind = 3) : heardE e = false := by unfold heardE; rw [h]; simp
/-- All of them true. -/
def AllTrue (L : List Int) (l : List Ent) : Prop := truthsE L l = l.length
theorem truths_le (L : List Int) (l : List Ent) : truthsE L l ≤ l.length := by
  induction l generalizing L with
  | nil => exact Nat.le_refl _
  | cons e r ih => have := ih (stepS L e); rw [truthsE, List.length_cons]; split <;> omega
theorem truths_take (L : List Int) (l : List Ent) : AllTrue L (l.take (truthsE L l)) := by
  unfold AllTrue
  induction l generalizing L with
  | nil => rfl
  | cons e r ih =>
    have h := ih (stepS L e)
    rw [truthsE]
    by_cases ht : trueE L e = true
    · rw [if_pos ht, List.take_succ_cons, truthsE, if_pos ht, List.length_cons, h]
    · rw [if_neg ht]; rfl
theorem truths_app (L : List Int) (a b : List Ent) (h : AllTrue L a) : truthsE L (a ++ b) = a.length + truthsE (foldS L a) b := by
  unfold AllTrue at h
  induction a generalizing L with
  | nil => simp [foldS]
  | cons e r ih =>
    rw [truthsE, List.length_cons] at h
    by_cases ht : trueE L e = true
    · rw [if_pos ht] at h
      rw [List.cons_append, truthsE, if_pos ht, ih _ (by omega), foldS_cons, List.length_cons]; omega
    · rw [if_neg ht] at h; omega
theorem true_at {L : List Int} {l : List Ent} {k : Nat} {e : Ent} (he : l[k]? = some e) (hk : k < truthsE L l) : trueE (foldS L (l.take k)) e = true := by
  induction l generalizing L k with
  | nil => simp at he
  | cons x r ih =>
    rw [truthsE] at hk
    by_cases ht : trueE L x = true
    · rw [if_pos ht] at hk
      cases k with
      | zero => simp at he; subst he; exact ht
      | succ k =>
        rw [List.take_succ_cons, foldS_cons]
        exact ih (by simpa using he) (by omega)
    · rw [if_neg ht] at hk; omega
theorem true_stop {L : List Int} {l : List Ent} {e : Ent} (he : l[truthsE L l]? = some e) : trueE (foldS L (l.take (truthsE L l))) e = false := by
  induction l generalizing L with
  | nil => simp at he
  | cons x r ih =>
    rw [truthsE] at he ⊢
    by_cases ht : trueE L x = true
    · rw [if_pos ht] at he ⊢
      rw [List.take_succ_cons, foldS_cons]
      exact ih (by simpa using he)
    · rw [if_neg ht] at he ⊢
      simp at he; subst he
      simpa [foldS] using ht
theorem zs_len38 : (zs 38).length = 38 := by simp [zs]
theorem zs_right38 : rightS (zs 38) = true := rightS_zero
/-- Of true entries: what is begun with is the state there. -/
theorem beg_true {l : List Ent} (h : AllTrue (zs 38) l) {i : Nat} (hi : i ≤ l.length) : begS l i = foldS (zs 38) (l.take (begK l i)) := by
  cases hn : nearE l i with
  | none => rw [(near_none hn).1, (near_none hn).2]; rfl
  | some k =>
    obtain ⟨h1, h2, e, he, hc⟩ := near_some hi hn
    have ht := true_at (L := zs 38) he (by unfold AllTrue at h; omega)
    unfold isChk at hc
    simp only [Bool.and_eq_true, decide_eq_true_eq] at hc
    have hs : readSt e.data = foldS (zs 38) (l.take k) := by
      unfold trueE at ht
      rw [hc.1] at ht
      simp at ht
      exact ht.2
    rw [begS_some hn he, h2, List.take_add_one, he, Option.toList_some, foldS_app, foldS_cons, foldS_nil, (chk_step hc.1).2, hs]
theorem from_true {l : List Ent} (h : AllTrue (zs 38) l) {i : Nat} (hi : i ≤ l.length) : fromO l i = foldO (foldS (zs 38) (l.take i)) (l.drop i) := by
  unfold fromO
  rw [beg_true h hi, ← foldS_app]
  congr 2
  have : l.take (begK l i) = (l.take i).take (begK l i) := by rw [List.take_take, Nat.min_eq_left (begK_le l i)]
  rw [this, List.take_append_drop]
theorem from_rest {l : List Ent} (h : AllTrue (zs 38) l) {i : Nat} (hi : i ≤ l.length) : fromO l i = (foldO (zs 38) l).drop (soundsE (l.take i)) := by
  have e : foldO (zs 38) l = foldO (zs 38) (l.take i) ++ fromO l i := by
    rw [from_true h hi, ← foldO_app, List.take_append_drop]
  rw [e, ← foldO_count zs_len38 zs_right38 (l.take i), List.drop_left]
theorem from_all {l : List Ent} (h : AllTrue (zs 38) l) {i : Nat} (hi : i ≤ l.length) : foldO (zs 38) l = foldO (zs 38) (l.take i) ++ fromO l i := by
  rw [from_true h hi, ← foldO_app, List.take_append_drop]
theorem from_step {l : List Ent} (h : AllTrue (zs 38) l) {i : Nat} {e : Ent} (he : l[i]? = some e) : ∃ a, fromO l i = a ++ fromO l (i + 1) ∧ a.length = soundsE [e] := by
  have hi : i < l.length := (List.getElem?_eq_some_iff.1 he).1
  refine ⟨stepO (foldS (zs 38) (l.take i)) e, ?_, ?_⟩
  · rw [from_true h (by omega), from_true h (by omega)]
    have hd : l.drop i = e :: l.drop (i + 1) := by
      rw [List.drop_eq_getElem_cons hi]; congr 1
      exact Option.some.inj ((List.getElem?_eq_getElem hi).symm.trans he)
    rw [hd, foldO, List.take_add_one, he, Option.toList_some, foldS_app]
    rfl
  · rw [stepO_count (foldS_right zs_len38 zs_right38 _), soundsE_cons]; simp [soundsE]
/-- A check of a state. -/
def chkE (sp : Int) (L : List Int) : Ent := ⟨3, sp, bytesS L⟩
theorem chk_true {L : List Int} (hl : L.length = 38) (hr : rightS L = true) (sp : Int) : isChk (chkE sp L) = true ∧ ∀ M, rightS M = true → trueE M (chkE sp L) = (L == M) := by
  have h := bytes_back hl hr
  have h1 : rightE (chkE sp L) = true := by unfold rightE chkE; simp [h.1]
  refine ⟨by unfold isChk; rw [h1]; rfl, fun M hm => ?_⟩
  unfold trueE
  rw [hm, h1]
  show (true && true && (!decide ((3 : Int) = 3) || readSt (bytesS L) == M)) = _
  rw [h.2]
  simp
end Go.Proofs.YtkoljgmapclhkaaGreatDoor

namespace Go.Proofs.YtkoljgmapclhkaaGreatDoor
open Go.RowKit

/-- What a check of a state is: no entry, where the state isn't right. -/
def chkV (sp : Int) (L : List Int) : Ent := if rightS L = true then chkE sp L else ⟨0, 0, ⟨#[]⟩⟩
set_option maxRecDepth 100000 in
set_option maxHeartbeats 4000000 in
theorem Check_any (sp : Int) (L : List Int) (hL : L.length = 38) (w : World) : Calls Tryz.prog 79 #[.int .u32 sp, .agg (arrV L)] w fun r w' => r = .returned (.tuple #[.agg (entV (chkV sp L)), .int .i64 (bytesE L)]) ∧ Below w.heap.size w w' := by
  have LL := Len.mk hL
  obtain ⟨C, hC⟩ : ∃ C, chkV sp L = C := ⟨_, rfl⟩
  rw [hC]
  have HC := Lib.hid hC
  have hBy := fun w => SBytes_any L hL w
  obtain ⟨S, hS⟩ : ∃ S, bytesS L = S := ⟨_, rfl⟩
  obtain ⟨E, hE⟩ : ∃ E, bytesE L = E := ⟨_, rfl⟩
  simp only [hS, hE] at hBy ⊢
  have HBY := Lib.hid hBy
  have HS := Lib.hid hS
  have HE := Lib.hid hE
  clear hC hL hBy hS hE
  obtain ⟨B, hB⟩ : ∃ B, w.heap.size = B := ⟨_, rfl⟩
  have hfar := Below.refl B w
  have hsz : B ≤ w.heap.size := by omega
  go_enter Tryz.func79, Tryz.ntmps79
  go_upto_region 1 with (fail)
  refine wp_gen (fun W => Blk W (B) (arrV L) 29 ∧ Blk W (B + 1) (entV ⟨0, 0, ⟨#[]⟩⟩) 92 ∧ Below (B) w W ∧ B + 2 ≤ W.heap.size) ⟨bk_, bk_, bl_, sz_⟩ ?_
  clear hfar hsz
  rintro w1 ⟨hA, hE, hfar, hsz⟩
  go_wp2_with (first | (refine st 92 rfl (by rfl) w_Entry rfl rfl bk_ zz_ zz_ one_ ?_) | (refine ld 92 rfl (by rfl) w_Entry rfl bk_ zz_ ?_) | (refine bd 29 rfl (by rfl) rfl state_zs ?_) | (refine bd 26 rfl (by rfl) rfl block_zs ?_) | (refine ld 29 rfl (by rfl) w_State rfl bk_ lz_ ?_) | (refine ld 26 rfl (by rfl) w_Block rfl bk_ lz_ ?_) | (refine ldp 26 rfl (by rfl) w_Block rfl bk_ ln_ (by omega) ?_) | (refine ld 27 rfl (by rfl) w_Four rfl bk_ lz_ ?_) | (refine ldp 27 rfl (by rfl) w_Four rfl bk_ ln_ (by omega) ?_) | (refine st 29 rfl (by rfl) w_State rfl rfl bk_ lz_ lz_ one_ ?_) | (refine st 26 rfl (by rfl) w_Block rfl rfl bk_ lz_ lz_ one_ ?_) | (refine st 27 rfl (by rfl) w_Four rfl rfl bk_ lz_ lz_ one_ ?_))
  refine (HBY.out _).mono ?_
  rintro e w2 ⟨rfl, hb2⟩
  replace hA := hA.newB hb2
  replace hE := hE.newB hb2
  replace hfar := hfar.trans (hb2.mono (by omega))
  replace hsz := Nat.le_trans hsz hb2.size
  cases hr : rightS L with
  | false =>
    have e1 : C = ⟨0, 0, ⟨#[]⟩⟩ := by rw [← HC.out]; unfold chkV; rw [hr]; rfl
    have e2 : E = 1 := by rw [← HE.out]; unfold bytesE; rw [hr]; rfl
    subst e1 e2
    go_wp2_with (first | (refine st 92 rfl (by rfl) w_Entry rfl rfl bk_ zz_ zz_ one_ ?_) | (refine ld 92 rfl (by rfl) w_Entry rfl bk_ zz_ ?_) | (refine bd 29 rfl (by rfl) rfl state_zs ?_) | (refine bd 26 rfl (by rfl) rfl block_zs ?_) | (refine ld 29 rfl (by rfl) w_State rfl bk_ lz_ ?_) | (refine ld 26 rfl (by rfl) w_Block rfl bk_ lz_ ?_) | (refine ldp 26 rfl (by rfl) w_Block rfl bk_ ln_ (by omega) ?_) | (refine ld 27 rfl (by rfl) w_Four rfl bk_ lz_ ?_) | (refine ldp 27 rfl (by rfl) w_Four rfl bk_ ln_ (by omega) ?_) | (refine st 29 rfl (by rfl) w_State rfl rfl bk_ lz_ lz_ one_ ?_) | (refine st 26 rfl (by rfl) w_Block rfl rfl bk_ lz_ lz_ one_ ?_) | (refine st 27 rfl (by rfl) w_Four rfl rfl bk_ lz_ lz_ one_ ?_))
    exact bodyPost_ret (v := .tuple #[.agg (entV ⟨0, 0, ⟨#[]⟩⟩), .int .i64 1]) (res_ct Tryz.results79 rfl w_Entry (by exact bk_) rfl rfl) rfl ⟨rfl, (by (try rw [hB]); exact bl_)⟩
  | true =>
    have e1 : C = ⟨3, sp, S⟩ := by rw [← HC.out, ← HS.out]; unfold chkV; rw [hr]; rfl
    have e2 : E = 0 := by rw [← HE.out]; unfold bytesE; rw [hr]; rfl
    subst e1 e2
    go_wp2_with (first | (refine st 92 rfl (by rfl) w_Entry rfl rfl bk_ zz_ zz_ one_ ?_) | (refine ld 92 rfl (by rfl) w_Entry rfl bk_ zz_ ?_) | (refine bd 29 rfl (by rfl) rfl state_zs ?_) | (refine bd 26 rfl (by rfl) rfl block_zs ?_) | (refine ld 29 rfl (by rfl) w_State rfl bk_ lz_ ?_) | (refine ld 26 rfl (by rfl) w_Block rfl bk_ lz_ ?_) | (refine ldp 26 rfl (by rfl) w_Block rfl bk_ ln_ (by omega) ?_) | (refine ld 27 rfl (by rfl) w_Four rfl bk_ lz_ ?_) | (refine ldp 27 rfl (by rfl) w_Four rfl bk_ ln_ (by omega) ?_) | (refine st 29 rfl (by rfl) w_State rfl rfl bk_ lz_ lz_ one_ ?_) | (refine st 26 rfl (by rfl) w_Block rfl rfl bk_ lz_ lz_ one_ ?_) | (refine st 27 rfl (by rfl) w_Four rfl rfl bk_ lz_ lz_ one_ ?_))
    exact bodyPost_ret (v := .tuple #[.agg (entV ⟨3, sp, S⟩), .int .i64 0]) (res_ct Tryz.results79 rfl w_Entry (by exact bk_) rfl rfl) rfl ⟨rfl, (by (try rw [hB]); exact bl_)⟩
end Go.Proofs.YtkoljgmapclhkaaGreatDoor

namespace Go.Proofs.YtkoljgmapclhkaaGreatDoor
open Go.RowKit Go.Shelf

theorem may_any (p : Option Addr) (n cap : Nat) (i : Int) (w : World) : Calls Tryz.prog 126 #[.slice p n cap, .int .i64 i] w fun r w' => r = .returned (.bool (mayE n i)) ∧ w = w' := by
  by_cases h0 : 0 ≤ i
  · by_cases h1 : i ≤ n
    · have hr : mayE n i = true := by unfold mayE; simp [h0, h1]
      rw [hr]
      go_enter Tryz.func126, Tryz.ntmps126
      go_wp2
      go_ret
      exact ⟨rfl, rfl⟩
    · have hr : mayE n i = false := by unfold mayE; simp [h1]
      rw [hr]
      go_enter Tryz.func126, Tryz.ntmps126
      go_wp2
      go_ret
      exact ⟨rfl, rfl⟩
  · have hr : mayE n i = false := by unfold mayE; simp [h0]
    rw [hr]
    go_enter Tryz.func126, Tryz.ntmps126
    go_wp2
    go_ret
    exact ⟨rfl, rfl⟩
/-- Where the first entry stands whose stamp is none lesser. -/
def geE (st : Int) (e : Ent) : Bool := decide (st ≤ e.stamp)
end Go.Proofs.YtkoljgmapclhkaaGreatDoor

namespace Go.Proofs.YtkoljgmapclhkaaGreatDoor
open Go.RowKit Go.Shelf

/-- The places from i down. -/
def downs (i : Nat) : List Nat := (List.range i).reverse
theorem downs_zero : downs 0 = [] := rfl
theorem downs_succ (i : Nat) : downs (i + 1) = i :: downs i := by unfold downs; rw [List.range_succ, List.reverse_append]; rfl
theorem downs_len (i : Nat) : (downs i).length = i := by simp [downs]
theorem downs_take (i m : Nat) (h : m < i) : (downs i).take (m + 1) = (downs i).take m ++ [i - 1 - m] := by
  have hl : m < (downs i).length := by rw [downs_len]; exact h
  rw [List.take_add_one, List.getElem?_eq_getElem hl, Option.toList_some]
  congr 2
  simp [downs]
def entAt (l : List Ent) (k : Nat) : Ent := l[k]?.getD ⟨0, 0, ⟨#[]⟩⟩
theorem entAt_get {l : List Ent} {k : Nat} (h : k < l.length) : l[k]? = some (entAt l k) := by unfold entAt; rw [List.getElem?_eq_getElem h]; rfl
theorem near_miss {l : List Ent} {i : Nat} (hi : i ≤ l.length) (h : ∀ k ∈ downs i, isChk (entAt l k) = false) : nearE l i = none := by
  induction i with
  | zero => rfl
  | succ i ih =>
    rw [downs_succ] at h
    rw [near_succ (entAt_get (by omega)), h i List.mem_cons_self]
    exact ih (by omega) (fun k hk => h k (List.mem_cons_of_mem _ hk))
theorem near_hit {l : List Ent} {i x : Nat} {q : List Nat} (hi : i ≤ l.length) (hp : q ++ [x] <+: downs i) (h : ∀ k ∈ q, isChk (entAt l k) = false) (hx : isChk (entAt l x) = true) : nearE l i = some x := by
  induction i generalizing q with
  | zero => rw [downs_zero] at hp; have := hp.length_le; simp at this
  | succ i ih =>
    rw [downs_succ] at hp
    rw [near_succ (entAt_get (by omega))]
    cases q with
    | nil =>
      rw [List.nil_append, List.cons_prefix_cons] at hp
      rw [← hp.1, hx]; rfl
    | cons y r =>
      rw [List.cons_append, List.cons_prefix_cons] at hp
      have h1 := h y List.mem_cons_self
      rw [hp.1] at h1
      rw [h1]
      exact ih (by omega) hp.2 (fun k hk => h k (List.mem_cons_of_mem _ hk))
theorem Backward_any (p : Option Addr) (n cap : Nat) (w : World) : Calls Tryz.prog 179 #[.slice p n cap] w fun r w' => r = .returned (.func (.func 192) #[] #[.pointer (some ⟨w.heap.size, 0, none⟩)]) ∧ w' = w.alloc (.cells #[.slice p n cap] 57) := by
  go_enter Tryz.func179, Tryz.ntmps179
  go_wp2
  go_ret
  exact ⟨rfl, rfl⟩
/-- A load of what lies in the midst of a block, within a fence. -/
theorem ldI {F : Fence} {d : Nat} {ops : Array Oper} {rest : List Oper} {op : Oper} {a : Act} {w : World} {Q : Exit → Act → World → Prop} (ty : TypeId) {x : Operand} (ho : op.op = .load ty x) (hwd : Region.wanted op (yielded ops a.tmps) = true) {n : Nat} (hW : Whole ty n)
    {b o : Nat} (hx : a.eval x = .pointer (some ⟨b, o, none⟩)) {cs : Array Value} (hb : w.rangeAt b o cs.toList) (hs : cs.size = n) (h : wpListIn F d Tryz.prog ops Q rest (a.put op.dst (.agg cs)) w) : wpListIn F d Tryz.prog ops Q (op :: rest) a w :=
  wpListIn_step fun K hK => by
    rw [if_pos hwd]
    obtain ⟨d, hu, hd, hi⟩ := hW
    unfold Oper.wpIn
    refine ⟨?_, ?_⟩
    · intro f hf; simp [Oper.about, ho] at hf
    · rw [Oper.semAt_plain F _ _ (by rw [ho]; intro c hc'; cases hc')]
      unfold execOp
      simp only [ho, hx, Instr.loadAt, Instr.sureAddr, Sem.run_bind, Sem.run_pure, Result.andThen_ok, run_loadVar_mid w b o ty cs.toList d hb hu hd (by rw [hi, Array.length_toList, hs])]
      exact hK _ _ h
theorem Blk.range3 {W : World} {b : Nat} {cs : Array Value} {t : TypeId} (h : Blk W b cs t) : W.rangeAt b 0 cs.toList := fun j v hv => by
  rw [Nat.zero_add, h.cell j]; simpa using hv
theorem keeps_below {W W' : World} (h : Below W.heap.size W W') : KeepsOthers W W' := ⟨h.size, fun k _ hk _ => (h.block k (Array.getElem?_eq_some_iff.1 hk).1).trans hk⟩
def encB (l : List Ent) (k : Nat) : Array Value := #[.int .i64 (k : Nat), .agg (entV (entAt l k))]
attribute [local go_sem] Oper.semAt_some
set_option maxRecDepth 100000 in
set_option maxHeartbeats 2000000 in
theorem back_stops (d : Nat) (hd : 1 ≤ d) {l : List Ent} {i : Nat} (hi : i ≤ l.length) (hl : i ≤ 1000) {p : Option Addr} {lo hi2 cap Bx : Nat} {w : World} (hS : SL w lo hi2 3 p i cap (flE (l.take i))) (hBx : Blk w Bx #[.slice p i cap] 57) :
    SeqStopsK Fence.wide d Tryz.prog 192 #[.pointer (some ⟨Bx, 0, none⟩)] (encB l) (Below w.heap.size) (fun xs => xs = downs i) (fun pre => pre <+: downs i) i w := fun lp J Jx W hW _ _ hY h0 => by
  refine callsIn_of_wp Tryz.func192 rfl trivial ?_ rfl
  simp only [Tryz.ntmps192, List.size_toArray, List.length_cons, List.length_nil, Nat.reduceAdd, Nat.reduceSub, Array.replicate_succ, Array.replicate_zero, List.push_toArray, List.append_toArray, List.nil_append, List.cons_append]
  have hlt0 := hBx.lt
  have b0 := hBx.below hW (by omega)
  have c0 := b0.cell 0
  simp only [List.getElem?_toArray, List.getElem?_cons_zero] at c0
  have hcap := hS.2.1
  have hcm := hS.2.2.1
  unfold maxLen at hcm
  have hhi := hS.2.2.2.1
  clear b0
  gi_wp2
  gi_loopw [3] (fun k wr => ∃ m : Nat, m ≤ i ∧ k = .int .i64 ((i : Int) - 1 - m) ∧ J ((downs i).take m) wr ∧ Below w.heap.size w wr) (fun k _ => (intOf k + 1).toNat)
  case atStart => exact ⟨0, by omega, by go_num, h0, hW⟩
  case round =>
    clear c0
    obtain ⟨m, hm, rfl, hJ, hB⟩ := hrel
    have b0 := hBx.below hB (by omega)
    have c0 := b0.cell 0
    simp only [List.getElem?_toArray, List.getElem?_cons_zero] at c0
    have hJl : ((downs i).take m).length = m := by rw [List.length_take, downs_len]; omega
    by_cases hlt : m < i
    · obtain ⟨k, hk⟩ : ∃ k, i - 1 - m = k := ⟨_, rfl⟩
      have hkk : (i : Int) - 1 - m = k := by omega
      have hki : k < i := by omega
      have ht := downs_take i m hlt
      have hkm : i = k + 1 + m := by omega
      rw [hk] at ht
      rw [hkk]
      obtain ⟨f1, t1, a1, b1, hy1, hR1⟩ := hY _ k wr hJ (by omega)
      rw [← ht] at hR1
      dsimp only [encB] at hy1
      have hQ := hS.below (hB.mono hhi)
      have hES : ES wr lo hi2 p cap (l.take i) := by unfold ES; rw [List.length_take, Nat.min_eq_left hi]; exact hQ
      have hget : (l.take i)[k]? = some (entAt l k) := by rw [List.getElem?_take, if_pos hki]; exact entAt_get (by omega)
      obtain ⟨b, o, rfl, hb1, hb2, hr⟩ := hES.get hget
      have HKM := Lib.hid hkm
      clear hkk hk ht hES hget hQ hkm
      gi_wp2_with (first | (refine ldI 92 rfl (by rfl) w_Entry rfl (by assumption) (by rfl) ?_))
      refine hR1.mono ?_
      rintro e W1 (⟨rfl, hJ1, hk1⟩ | ⟨rfl, hx1⟩)
      · gi_wp2
        go_roundw
        case rel => exact ⟨m + 1, hlt, by have := HKM.out; congr 1; omega, hJ1, hB.trans hk1⟩
        case measure => have := HKM.out; simp [intOf] <;> omega
      · gi_wp2
        refine bodyPost_ret (results_none rfl _ _ _) rfl ?_
        exact ⟨⟨_, rfl⟩, .inr ⟨_, List.take_prefix _ _, hx1⟩⟩
    · obtain rfl : m = i := by omega
      have ht : (downs m).take m = downs m := List.take_of_length_le (by rw [downs_len]; omega)
      rw [ht] at hJ
      gi_wp2
      go_end0
      exact ⟨⟨_, rfl⟩, .inl ⟨_, rfl, hJ⟩⟩
/-- Near's two answers. -/
def optN : Option Nat → Int
  | some k => k
  | none => 0
def nearN (l : List Ent) (i : Int) : Int := if mayE l.length i then optN (nearE l i.toNat) else 0
def nearB (l : List Ent) (i : Int) : Bool := mayE l.length i && (nearE l i.toNat).isSome
def MissC (l : List Ent) (pre : List Nat) : Prop := ∀ k ∈ pre, isChk (entAt l k) = false
def IxN (l : List Ent) (b : Nat) (c : Code) (pre : List Nat) (W : World) : Prop :=
  c = .ret ∧ ∃ q x, pre = q ++ [x] ∧ MissC l q ∧ isChk (entAt l x) = true ∧ Blk W b #[.int .i64 (x : Nat)] 3 ∧ Blk W (b + 1) #[.bool true] 4
theorem missC_app {l : List Ent} {pre : List Nat} {x : Nat} (h : MissC l pre) (hx : isChk (entAt l x) = false) : MissC l (pre ++ [x]) := fun k hk => by
  rcases List.mem_append.1 hk with h1 | h1
  · exact h k h1
  · rw [List.mem_singleton.1 h1]; exact hx
set_option maxRecDepth 100000 in
set_option maxHeartbeats 4000000 in
theorem Near_in {l : List Ent} {n : Nat} (hn : l.length = n) (hl : n ≤ 1000) {p : Option Addr} {lo hi cap : Nat} {w : World} (hE : SL w lo hi 3 p n cap (flE l)) {i : Nat} (hi2 : i ≤ n) :
    Calls Tryz.prog 158 #[.slice p n cap, .int .i64 (i : Nat)] w fun r w' => r = .returned (.tuple #[.int .i64 (optN (nearE l i)), .bool (nearE l i).isSome]) ∧ Below w.heap.size w w' := by
  have hcap := hE.2.1
  have hcm := hE.2.2.1
  unfold maxLen at hcm
  have hic : (i : Int) ≤ (cap : Int) := by omega
  have hic2 : i ≤ cap := by omega
  have hQ := hE.take hi2
  rw [flat_take _ l (ent_len l)] at hQ
  have hil : i ≤ l.length := by omega
  have hmay : mayE n (i : Nat) = true := by unfold mayE; simp; omega
  obtain ⟨R1, hR1⟩ : ∃ R, optN (nearE l i) = R := ⟨_, rfl⟩
  obtain ⟨R2, hR2⟩ : ∃ R, (nearE l i).isSome = R := ⟨_, rfl⟩
  rw [hR1, hR2]
  have HR1 := Lib.hid hR1
  have HR2 := Lib.hid hR2
  clear hR1 hR2
  refine (callsIn_wide (n := 3)).1 ?_
  refine callsIn_of_wp_marks Tryz.func158 rfl trivial ?_ rfl
  simp only [Tryz.ntmps158, List.size_toArray, List.length_cons, List.length_nil, Nat.reduceAdd, Nat.reduceSub, Array.replicate_succ, Array.replicate_zero, List.push_toArray, List.append_toArray, List.nil_append, List.cons_append]
  gi_wp2_with (first | (refine ⟨trivial, ?_⟩; gi_at_call 126; refine (callsIn_wide.2 (may_any _ _ _ _ _)).mono ?_; rintro e w' ⟨rfl, rfl⟩; rw [hmay]) | (refine ⟨trivial, ?_⟩; gi_at_call 179; refine (callsIn_wide.2 (Backward_any _ _ _ _)).mono ?_; rintro e w' ⟨rfl, rfl⟩))
  clear hmay hcap hcm hic hic2 hE
  have b0 := Blk.new w #[.int .i64 0] 3
  have b1 := Blk.new (w.alloc (.cells #[.int .i64 0] 3)) #[.bool false] 4
  have b2 := Blk.new ((w.alloc (.cells #[.int .i64 0] 3)).alloc (.cells #[.bool false] 4)) #[.slice p i cap] 57
  simp only [World.size_alloc] at b1 b2
  have hB0 : Below w.heap.size w (((w.alloc (.cells #[.int .i64 0] 3)).alloc (.cells #[.bool false] 4)).alloc (.cells #[.slice p i cap] 57)) := by go_grown
  have hQ2 : SL _ lo hi 3 p i cap (flE (l.take i)) := ((hQ.alloc (.cells #[.int .i64 0] 3)).alloc (.cells #[.bool false] 4)).alloc (.cells #[.slice p i cap] 57)
  have hs3 : (((w.alloc (.cells #[.int .i64 0] 3)).alloc (.cells #[.bool false] 4)).alloc (.cells #[.slice p i cap] 57)).heap.size = w.heap.size + 3 := by simp
  replace b0 := (b0.alloc (.cells #[.bool false] 4)).alloc (.cells #[.slice p i cap] 57)
  replace b1 := b1.alloc (.cells #[.slice p i cap] 57)
  obtain ⟨W3, hW3⟩ : ∃ W3, (((w.alloc (.cells #[.int .i64 0] 3)).alloc (.cells #[.bool false] 4)).alloc (.cells #[.slice p i cap] 57)) = W3 := ⟨_, rfl⟩
  rw [hW3] at b0 b1 b2 hB0 hQ2 hs3 ⊢
  clear hW3
  refine wpIn_rangeFunc_ownH rfl (by omega) (gf := 192) (lb := #[.pointer (some ⟨w.heap.size + 1 + 1, 0, none⟩)]) rfl trivial (enters_of Tryz.func192 (by kernel_rfl) rfl)
    (back_stops 2 (by omega) hil (by omega) hQ2 b2) belowK_t (fun W l o o' hl h h1 h2 => belowK_b (Nat.le_refl _) W l o o' hl h h1 h2) (Below.refl _ _) (fun _ => rfl)
    (fun pre W => ((Blk W w.heap.size #[.int .i64 0] 3 ∧ Blk W (w.heap.size + 1) #[.bool false] 4) ∧ MissC l pre) ∧ Below W3.heap.size W3 W)
    (fun c pre W => IxN l w.heap.size c pre W ∧ Below w.heap.size w W)
    (OwnFrom.and (OwnFrom.and (OwnFrom.and (Own.from (blk_own _ _ _) _) (Own.from (blk_own _ _ _) _)) (ownFrom_pure _ _)) (ownFrom_below (Nat.le_refl _) (Nat.le_refl _)))
    (fun c => OwnFrom.and ?ix (ownFrom_below (Nat.le_refl _) (by omega)))
    ⟨⟨⟨b0, b1⟩, fun k hk => by cases hk⟩, Below.refl _ _⟩
    (fun x a' W => ∃ Bx, w.heap.size + 2 ≤ Bx ∧ Blk W Bx (entV (entAt l x)) 92 ∧ a' = { tmps := #[.slice p n cap, .int .i64 i, undef, undef, .pointer (some ⟨w.heap.size, 0, none⟩), .pointer (some ⟨w.heap.size + 1, 0, none⟩), .int .i64 (x : Nat), .pointer (some ⟨Bx, 0, none⟩), .slice p n cap, .int .i64 i, .bool true, .bool false, .slice p n cap, .int .i64 i, .slice p i cap, .func (.func 192) #[] #[.pointer (some ⟨w.heap.size + 1 + 1, 0, none⟩)], .int .i64 (x : Nat), .agg (entV (entAt l x)), undef, undef, undef, undef, undef, undef, undef, undef], defers := [] })
    ?ax ?assign ?body ?done ?stop
  case ix =>
    rintro pre A B row ⟨rfl, q, x, hq, hn, hx, k1, k2⟩ hg hr
    exact ⟨rfl, q, x, hq, hn, hx, k1.ownF hg hr, k2.ownF hg hr⟩
  case ax =>
    rintro x a' _ A B row ⟨Bx, h1, h2, h3⟩ hg hr
    exact ⟨Bx, h1, h2.ownF hg hr, h3⟩
  case assign =>
    rintro lp pre x W K ⟨⟨⟨k0, k1⟩, hf⟩, hB⟩ hK
    dsimp only [encB]
    gi_wp2
    have hsz := hB.size
    have hs1 := k1.lt
    exact hK _ _ ((KeepsOthers.alloc _ _).from _) ((Below.refl _ _).alloc (by omega) _) ⟨⟨⟨k0.alloc _, k1.alloc _⟩, hf⟩, hB.alloc (by omega) _⟩ ⟨W.heap.size, by omega, Blk.new _ _ _, rfl⟩
  case body =>
    rintro lp pre x a' W hlp ⟨r, hr⟩ ⟨⟨⟨k0, k1⟩, hf⟩, hB⟩ ⟨Bx, hBx, bX, rfl⟩ hlt
    have e0 := bX.cell 0
    have e1 := bX.cell 1
    have e2 := bX.cell 2
    have g0 := k0.cell 0
    have g1 := k1.cell 0
    simp only [List.getElem?_toArray, List.getElem?_cons_zero, List.getElem?_cons_succ] at e0 e1 e2 g0 g1
    have f0 := k0.frozen 0
    have f1 := k1.frozen 0
    have hs1 := k1.lt
    have hsz := hB.size
    by_cases h3 : (entAt l x).kind = 3
    · cases hre : rightE (entAt l x) with
      | true =>
        gi_wp2_with (first | (refine ldI 92 rfl (by rfl) w_Entry rfl (bX.range3) rfl ?_) | (refine ⟨trivial, ?_⟩; gi_at_call 48; refine (CallsIn.inRound lp (callsIn_wide.2 (ERight_any (entAt l x) _))).mono ?_; rintro e W1 ⟨rfl, hb1⟩; rw [hre]; have k0' := k0.newB hb1; have k1' := k1.newB hb1; have f0' := k0'.frozen 0; have f1' := k1'.frozen 0; have g0' := k0'.cell 0; have g1' := k1'.cell 0; simp only [List.getElem?_toArray, List.getElem?_cons_zero] at g0' g1'))
        refine ⟨?_, ⟨rfl, pre, x, rfl, hf, by unfold isChk; rw [hre, h3]; rfl, ?_, ?_⟩, ?_⟩
        · exact ((keeps_below hb1).trans ((KeepsOthers.setCell _ _ _).trans (KeepsOthers.setCell _ _ _))).from _
        · exact (k0'.set 0 _).other (by simp only []; omega) _
        · exact (k1'.other (by simp only []; omega) _).set 0 _
        · exact (((hB0.trans (hB.mono (by omega))).trans (hb1.mono (by omega))).setCell (p := ⟨_, 0, none⟩) (Nat.le_refl _) _).setCell (p := ⟨_, 0, none⟩) (by simp only []; omega) _
      | false =>
        gi_wp2_with (first | (refine ldI 92 rfl (by rfl) w_Entry rfl (bX.range3) rfl ?_) | (refine ⟨trivial, ?_⟩; gi_at_call 48; refine (CallsIn.inRound lp (callsIn_wide.2 (ERight_any (entAt l x) _))).mono ?_; rintro e W1 ⟨rfl, hb1⟩; rw [hre]))
        exact ⟨(keeps_below hb1).from _, hb1.mono (by omega), ⟨⟨k0.newB hb1, k1.newB hb1⟩, missC_app hf (by unfold isChk; rw [hre]; simp)⟩, hB.trans (hb1.mono (by omega))⟩
    · have h3' : ((entAt l x).kind == 3) = false := by simpa using h3
      gi_wp2_with (refine ⟨trivial, ?_⟩)
      exact ⟨(KeepsOthers.refl _).from _, Below.refl _ _, ⟨⟨k0, k1⟩, missC_app hf (by unfold isChk; simp [h3])⟩, hB⟩
  case done =>
    rintro D ys W hD rfl ⟨⟨⟨k0, k1⟩, hf⟩, hB⟩ hK
    have hnone := near_miss hil hf
    have e1 : R1 = 0 := by rw [← HR1.out, hnone]; rfl
    have e2 : R2 = false := by rw [← HR2.out, hnone]; rfl
    have H1 := Lib.hid e1
    have H2 := Lib.hid e2
    clear e1 e2 hnone
    have f0 := k0.frozen 0
    have f1 := k1.frozen 0
    have g0 := k0.cell 0
    have g1 := k1.cell 0
    simp only [List.getElem?_toArray, List.getElem?_cons_zero] at g0 g1
    gi_wp2
    have hK1 := (KeepsOthers.setCell W ⟨w.heap.size, 0, none⟩ (.int .i64 0)).same D _ hK rfl
    have hK3 := (KeepsOthers.setCell _ ⟨w.heap.size + 1, 0, none⟩ (.bool false)).same D _ hK1 rfl
    refine ⟨by simp, .inl ⟨_, _, rfl, run_takeDeferred hK3, ?_⟩⟩
    have hB3 : Below w.heap.size w ((W.setCell ⟨w.heap.size, 0, none⟩ (.int .i64 0)).setCell ⟨w.heap.size + 1, 0, none⟩ (.bool false)) := ((hB0.trans (hB.mono (by omega))).setCell (p := ⟨_, 0, none⟩) (Nat.le_refl _) _).setCell (p := ⟨_, 0, none⟩) (by simp only []; omega) _
    have k0' : Blk ((W.setCell ⟨w.heap.size, 0, none⟩ (.int .i64 0)).setCell ⟨w.heap.size + 1, 0, none⟩ (.bool false)) w.heap.size #[.int .i64 0] 3 := (k0.set 0 _).other (by simp only []; omega) _
    have k1' : Blk ((W.setCell ⟨w.heap.size, 0, none⟩ (.int .i64 0)).setCell ⟨w.heap.size + 1, 0, none⟩ (.bool false)) (w.heap.size + 1) #[.bool false] 4 := (k1.other (by simp only []; omega) _).set 0 _
    obtain ⟨W4, hW4⟩ : ∃ W4, (W.setCell ⟨w.heap.size, 0, none⟩ (.int .i64 0)).setCell ⟨w.heap.size + 1, 0, none⟩ (.bool false) = W4 := ⟨_, rfl⟩
    rw [hW4] at hK3 hB3 k0' k1' ⊢
    have r1 := (k0'.ownF (n := 0) (grownBy_putObj' _ D (.deferred none)) (fun r e => by cases e; exact ⟨Nat.zero_le _, _, hK3, rfl⟩)).cell 0
    have r2 := (k1'.ownF (n := 0) (grownBy_putObj' _ D (.deferred none)) (fun r e => by cases e; exact ⟨Nat.zero_le _, _, hK3, rfl⟩)).cell 0
    simp only [List.getElem?_toArray, List.getElem?_cons_zero] at r1 r2
    refine ⟨.tuple #[.int .i64 0, .bool false], ?_, by rw [H1.out, H2.out], hB3.trans (belowK_b (w := w) (Nat.le_refl _) _ D _ _ (by omega) hK3 rfl rfl)⟩
    simp [results, Tryz.f158, go_sem, r1, r2]
  case stop =>
    rintro D c pre W hD hpre ⟨⟨rfl, q, x, rfl, hq, hx, k0, k1⟩, hB⟩ hK
    have hhit := near_hit hil hpre hq hx
    have e1 : R1 = x := by rw [← HR1.out, hhit]; rfl
    have e2 : R2 = true := by rw [← HR2.out, hhit]; rfl
    have H1 := Lib.hid e1
    have H2 := Lib.hid e2
    clear e1 e2 hhit
    gi_wp2
    refine ⟨by simp, .inl ⟨_, _, rfl, run_takeDeferred hK, ?_⟩⟩
    have r1 := (k0.ownF (n := 0) (grownBy_putObj' _ D (.deferred none)) (fun r e => by cases e; exact ⟨Nat.zero_le _, _, hK, rfl⟩)).cell 0
    have r2 := (k1.ownF (n := 0) (grownBy_putObj' _ D (.deferred none)) (fun r e => by cases e; exact ⟨Nat.zero_le _, _, hK, rfl⟩)).cell 0
    simp only [List.getElem?_toArray, List.getElem?_cons_zero] at r1 r2
    refine ⟨.tuple #[.int .i64 (x : Nat), .bool true], ?_, by rw [H1.out, H2.out], hB.trans (belowK_b (w := w) (Nat.le_refl _) _ D _ _ (by omega) hK rfl rfl)⟩
    simp [results, Tryz.f158, go_sem, r1, r2]
theorem Near_out (p : Option Addr) (n cap : Nat) (i : Int) (hi : mayE n i = false) (w : World) : Calls Tryz.prog 158 #[.slice p n cap, .int .i64 i] w fun r w' => r = .returned (.tuple #[.int .i64 0, .bool false]) ∧ Below w.heap.size w w' := by
  obtain ⟨B, hB⟩ : ∃ B, w.heap.size = B := ⟨_, rfl⟩
  have hfar := Below.refl B w
  have hsz : B ≤ w.heap.size := by omega
  go_enter Tryz.func158, Tryz.ntmps158
  go_upto_region 1 with (fail)
  refine wp_gen (fun W => Blk W (B) (#[.int .i64 0]) 3 ∧ Blk W (B + 1) (#[.bool false]) 4 ∧ Below (B) w W ∧ B + 2 ≤ W.heap.size) ⟨bk_, bk_, bl_, sz_⟩ ?_
  clear hfar hsz
  rintro w1 ⟨hN, hM, hfar, hsz⟩
  go_wp2_with fail
  refine (may_any _ _ _ _ _).mono ?_
  rintro e w' ⟨rfl, rfl⟩
  rw [hi]
  have f0 := hN.frozen 0
  have f1 := hM.frozen 0
  have g0 := hN.cell 0
  have g1 := hM.cell 0
  simp only [List.getElem?_toArray, List.getElem?_cons_zero] at g0 g1
  go_wp2_with fail
  have k0 : Blk ((w1.setCell ⟨B, 0, none⟩ (.int .i64 0)).setCell ⟨B + 1, 0, none⟩ (.bool false)) B #[.int .i64 0] 3 := (hN.set 0 _).other (by simp only []; omega) _
  have k1 : Blk ((w1.setCell ⟨B, 0, none⟩ (.int .i64 0)).setCell ⟨B + 1, 0, none⟩ (.bool false)) (B + 1) #[.bool false] 4 := (hM.other (by simp only []; omega) _).set 0 _
  have r1 := k0.cell 0
  have r2 := k1.cell 0
  simp only [List.getElem?_toArray, List.getElem?_cons_zero] at r1 r2
  exact bodyPost_ret (v := .tuple #[.int .i64 0, .bool false]) (by simp [results, Tryz.f158, go_sem, r1, r2]) rfl ⟨rfl, (by (try rw [hB]); exact bl_)⟩
theorem Near_any {l : List Ent} {n : Nat} (hn : l.length = n) (hl : n ≤ 1000) {p : Option Addr} {lo hi cap : Nat} {w : World} (hE : SL w lo hi 3 p n cap (flE l)) (i : Int) :
    Calls Tryz.prog 158 #[.slice p n cap, .int .i64 i] w fun r w' => r = .returned (.tuple #[.int .i64 (nearN l i), .bool (nearB l i)]) ∧ Below w.heap.size w w' := by
  unfold nearN nearB
  rw [hn]
  cases hm : mayE n i with
  | false => exact Near_out p n cap i hm w
  | true =>
    unfold mayE at hm
    simp only [Bool.and_eq_true, decide_eq_true_eq] at hm
    obtain ⟨k, rfl⟩ : ∃ k : Nat, i = k := ⟨i.toNat, by omega⟩
    rw [Int.toNat_natCast]
    exact Near_in hn hl hE (by omega)
end Go.Proofs.YtkoljgmapclhkaaGreatDoor

namespace Go.Proofs.YtkoljgmapclhkaaGreatDoor
open Go.RowKit

theorem mayE_nat {n i : Nat} (h : i ≤ n) : mayE n (i : Nat) = true := by unfold mayE; simp; omega
set_option maxRecDepth 100000 in
set_option maxHeartbeats 4000000 in
theorem Begin_any {l : List Ent} {n : Nat} (hn : l.length = n) (hl : n ≤ 1000) {p : Option Addr} {lo hi cap : Nat} {w : World} (hE : SL w lo hi 3 p n cap (flE l)) {i : Nat} (hi2 : i ≤ n) :
    Calls Tryz.prog 127 #[.slice p n cap, .int .i64 (i : Nat)] w fun r w' => r = .returned (.tuple #[.agg (arrV (begS l i)), .int .i64 (begK l i : Nat)]) ∧ Below w.heap.size w w' := by
  have hN := fun w (hE : SL w lo hi 3 p n cap (flE l)) => Near_in hn hl hE hi2
  have LS := Len.mk (begS_len l i)
  have hbs : ∀ k, nearE l i = some k → k < n ∧ begK l i = k + 1 ∧ ∃ e, l[k]? = some e ∧ begS l i = readSt e.data := fun k hk => by
    obtain ⟨h1, h2, e, he, _⟩ := near_some (by omega) hk
    exact ⟨by omega, h2, e, he, begS_some hk he⟩
  have hbn : nearE l i = none → begK l i = 0 ∧ begS l i = zs 38 := near_none
  have hKl := begK_le l i
  have hcap := hE.2.1
  have hcm := hE.2.2.1
  unfold maxLen at hcm
  have hQ := hE
  have HN := Lib.hid hn
  obtain ⟨S, hS⟩ : ∃ S, begS l i = S := ⟨_, rfl⟩
  obtain ⟨K, hK⟩ : ∃ K, begK l i = K := ⟨_, rfl⟩
  obtain ⟨O, hO⟩ : ∃ O, nearE l i = O := ⟨_, rfl⟩
  simp only [hS, hK, hO] at hN LS hbs hbn hKl ⊢
  have HNE := Lib.hid hN
  have HBS := Lib.hid hbs
  have HBN := Lib.hid hbn
  clear hN hbs hbn hS hK hO hE hn
  obtain ⟨B, hB⟩ : ∃ B, w.heap.size = B := ⟨_, rfl⟩
  have hhi := hQ.2.2.2.1
  rw [hB] at hhi
  have hfar := Below.refl B w
  have hsz : B ≤ w.heap.size := by omega
  go_enter Tryz.func127, Tryz.ntmps127
  go_upto_region 1 with (fail)
  refine wp_gen (fun W => SL W (lo) (hi) (3) (p) (n) (cap) (flE l) ∧ Blk W (B) (arrV (zs 38)) 29 ∧ Below (B) w W ∧ B + 1 ≤ W.heap.size) ⟨sl_, bk_, bl_, sz_⟩ ?_
  clear hQ hfar hsz
  rintro w1 ⟨hQ, hR, hfar, hsz⟩
  go_wp2_with fail
  refine (HNE.out _ hQ).mono ?_
  rintro e w2 ⟨rfl, hb2⟩
  replace hQ := hQ.newB hb2
  replace hR := hR.newB hb2
  replace hfar := hfar.trans (hb2.mono (by omega))
  replace hsz := Nat.le_trans hsz hb2.size
  cases O with
  | none =>
    obtain ⟨h1, h2⟩ := HBN.out rfl
    subst h1 h2
    go_wp2_with (first | (refine st 92 rfl (by rfl) w_Entry rfl rfl bk_ zz_ zz_ one_ ?_) | (refine ld 92 rfl (by rfl) w_Entry rfl bk_ zz_ ?_) | (refine bd 29 rfl (by rfl) rfl state_zs ?_) | (refine bd 26 rfl (by rfl) rfl block_zs ?_) | (refine ld 29 rfl (by rfl) w_State rfl bk_ lz_ ?_) | (refine ld 26 rfl (by rfl) w_Block rfl bk_ lz_ ?_) | (refine ldp 26 rfl (by rfl) w_Block rfl bk_ ln_ (by omega) ?_) | (refine ld 27 rfl (by rfl) w_Four rfl bk_ lz_ ?_) | (refine ldp 27 rfl (by rfl) w_Four rfl bk_ ln_ (by omega) ?_) | (refine st 29 rfl (by rfl) w_State rfl rfl bk_ lz_ lz_ one_ ?_) | (refine st 26 rfl (by rfl) w_Block rfl rfl bk_ lz_ lz_ one_ ?_) | (refine st 27 rfl (by rfl) w_Four rfl rfl bk_ lz_ lz_ one_ ?_))
    exact bodyPost_ret (v := .tuple #[.agg (arrV (zs 38)), .int .i64 0]) (res_ct Tryz.results127 rfl w_State (by exact bk_) (Len.zs 38).sz rfl) rfl ⟨rfl, (by (try rw [hB]); exact bl_)⟩
  | some k =>
    simp only [optN, Option.isSome]
    obtain ⟨hkn, h2, e, he, h3⟩ := HBS.out k rfl
    have hES : ES w2 lo hi p cap l := by unfold ES; rw [HN.out]; exact hQ
    obtain ⟨b, o, rfl, hb1, hb2', hr⟩ := hES.get he
    have c2 : w2.cell? ⟨b, o + k * 3 + 2, none⟩ = some (.string e.data) := hr 2 _ rfl
    have hkn' : (k : Int) < n := by omega
    obtain ⟨s, hs⟩ : ∃ s, e.data = s := ⟨_, rfl⟩
    rw [hs] at c2 h3
    clear he hES hs hr
    subst h3 h2
    go_wp2_with fail
    refine (Read_any s _).mono ?_
    rintro e w3 ⟨rfl, hb3⟩
    replace hQ := hQ.newB hb3
    replace hR := hR.newB hb3
    replace hfar := hfar.trans (hb3.mono (by omega))
    replace hsz := Nat.le_trans hsz hb3.size
    obtain ⟨g, hg⟩ : ∃ g, w3.heap.size = g := ⟨_, rfl⟩
    have hBg : B + 1 ≤ g := by omega
    have LR := Len.mk (readSt_len s)
    obtain ⟨T, hT⟩ : ∃ T, readSt s = T := ⟨_, rfl⟩
    rw [hT] at LR ⊢
    have HT := Lib.hid hT
    clear LS hT c2
    go_upto_region 5 with (first | (refine st 92 rfl (by rfl) w_Entry rfl rfl bk_ zz_ zz_ one_ ?_) | (refine ld 92 rfl (by rfl) w_Entry rfl bk_ zz_ ?_) | (refine bd 29 rfl (by rfl) rfl state_zs ?_) | (refine bd 26 rfl (by rfl) rfl block_zs ?_) | (refine ld 29 rfl (by rfl) w_State rfl bk_ lz_ ?_) | (refine ld 26 rfl (by rfl) w_Block rfl bk_ lz_ ?_) | (refine ldp 26 rfl (by rfl) w_Block rfl bk_ ln_ (by omega) ?_) | (refine ld 27 rfl (by rfl) w_Four rfl bk_ lz_ ?_) | (refine ldp 27 rfl (by rfl) w_Four rfl bk_ ln_ (by omega) ?_) | (refine st 29 rfl (by rfl) w_State rfl rfl bk_ lz_ lz_ one_ ?_) | (refine st 26 rfl (by rfl) w_Block rfl rfl bk_ lz_ lz_ one_ ?_) | (refine st 27 rfl (by rfl) w_Four rfl rfl bk_ lz_ lz_ one_ ?_))
    refine wp_gen (fun W => Blk W (B) (arrV (zs 38)) 29 ∧ SL W (lo) (hi) (3) (some ⟨b, o, none⟩) (n) (cap) (flE l) ∧ Blk W (g) (arrV T) 29 ∧ Below (B) w W ∧ g + 1 ≤ W.heap.size) ⟨bk_, sl_, bk_, bl_, sz_⟩ ?_
    clear hR hQ hfar hsz
    rintro w4 ⟨hR, hQ, hT, hfar, hsz⟩
    go_wp2_with (first | (refine st 92 rfl (by rfl) w_Entry rfl rfl bk_ zz_ zz_ one_ ?_) | (refine ld 92 rfl (by rfl) w_Entry rfl bk_ zz_ ?_) | (refine bd 29 rfl (by rfl) rfl state_zs ?_) | (refine bd 26 rfl (by rfl) rfl block_zs ?_) | (refine ld 29 rfl (by rfl) w_State rfl bk_ lz_ ?_) | (refine ld 26 rfl (by rfl) w_Block rfl bk_ lz_ ?_) | (refine ldp 26 rfl (by rfl) w_Block rfl bk_ ln_ (by omega) ?_) | (refine ld 27 rfl (by rfl) w_Four rfl bk_ lz_ ?_) | (refine ldp 27 rfl (by rfl) w_Four rfl bk_ ln_ (by omega) ?_) | (refine st 29 rfl (by rfl) w_State rfl rfl bk_ lz_ lz_ one_ ?_) | (refine st 26 rfl (by rfl) w_Block rfl rfl bk_ lz_ lz_ one_ ?_) | (refine st 27 rfl (by rfl) w_Four rfl rfl bk_ lz_ lz_ one_ ?_))
    exact bodyPost_ret (v := .tuple #[.agg (arrV T), .int .i64 ((k + 1 : Nat) : Int)]) (res_ct Tryz.results127 rfl w_State (by exact bk_) LR.sz rfl) rfl ⟨by rw [HT.out], (by (try rw [hB]); exact bl_)⟩
/-- A result that is a slice of blocks, and no error. -/
def RetBE (w : World) (n : Nat) (xs : List Value) (e : Ending) (w' : World) : Prop :=
  ∃ p cap lo hi, e = .returned (.tuple #[.slice p n cap, .int .i64 0]) ∧ SL w' lo hi 16 p n cap xs ∧ w.heap.size ≤ lo ∧ Below w.heap.size w w'
set_option maxRecDepth 100000 in
set_option maxHeartbeats 4000000 in
theorem From_in {l : List Ent} {n : Nat} (hn : l.length = n) (hl : n ≤ 1000) {p : Option Addr} {lo hi cap : Nat} {w : World} (hW : BandsW w) (hE : SL w lo hi 3 p n cap (flE l)) {i : Nat} (hin : i ≤ n) :
    Calls Tryz.prog 80 #[.slice p n cap, .int .i64 (i : Nat)] w (RetBE w (fromO l i).length ((fromO l i).flatMap intsV)) := by
  have hBW : Blk w 0 bandC 164 := hW
  have hB0 := hW.lt
  have hBe := fun w (hE : SL w lo hi 3 p n cap (flE l)) => Begin_any hn hl hE hin
  have hKi := begK_le l i
  have LS := Len.mk (begS_len l i)
  have hcap := hE.2.1
  have hcm := hE.2.2.1
  unfold maxLen at hcm
  have hQ := hE
  have hm := mayE_nat hin
  have hic : i ≤ cap := by omega
  have hcc : (cap : Int) ≤ 9223372036854775807 := by omega
  obtain ⟨O, hO⟩ : ∃ O, fromO l i = O := ⟨_, rfl⟩
  rw [hO]
  unfold fromO at hO
  obtain ⟨S, hS⟩ : ∃ S, begS l i = S := ⟨_, rfl⟩
  obtain ⟨K, hK⟩ : ∃ K, begK l i = K := ⟨_, rfl⟩
  simp only [hS, hK] at hBe hO LS hKi
  obtain ⟨p1, hp1⟩ : ∃ p', (if cap = K then p else p.map (·.add (K * 3))) = p' := ⟨_, rfl⟩
  obtain ⟨m1, hm1⟩ : ∃ m, i - K = m := ⟨_, rfl⟩
  obtain ⟨p2, hp2⟩ : ∃ p', (if cap = i then p else p.map (·.add (i * 3))) = p' := ⟨_, rfl⟩
  obtain ⟨m2, hm2⟩ : ∃ m, n - i = m := ⟨_, rfl⟩
  have hQ1 := es_mid hQ hn hKi hin hp1 hm1
  have hQ2 := es_rest hQ hn hin hp2 hm2
  have hl1 : ((l.take i).drop K).length = m1 := by rw [List.length_drop, List.length_take]; omega
  have hl2 : (l.drop i).length = m2 := by rw [List.length_drop]; omega
  obtain ⟨A, hA⟩ : ∃ A, (l.take i).drop K = A := ⟨_, rfl⟩
  obtain ⟨C, hC⟩ : ∃ C, l.drop i = C := ⟨_, rfl⟩
  rw [hA] at hQ1 hl1 hO
  rw [hC] at hQ2 hl2 hO
  have LM := Len.mk (foldS_len LS.out A)
  have hF1 := fun w (hW : BandsW w) (hs : SL w lo hi 3 p1 m1 (cap - K) (flE A)) => toBN (Fold_all LS hl1 (by omega) hW hs)
  obtain ⟨M, hM⟩ : ∃ M, foldS S A = M := ⟨_, rfl⟩
  rw [hM] at LM hF1 hO
  have LM2 := Len.mk (foldS_len LM.out C)
  have hF2 := fun w (hW : BandsW w) (hs : SL w lo hi 3 p2 m2 (cap - i) (flE C)) => toBN (Fold_all LM hl2 (by omega) hW hs)
  obtain ⟨M2, hM2⟩ : ∃ M2, foldS M C = M2 := ⟨_, rfl⟩
  simp only [hO, hM2] at hF2 LM2
  obtain ⟨xs, hxs⟩ : ∃ xs, O.flatMap intsV = xs := ⟨_, rfl⟩
  obtain ⟨no, hno⟩ : ∃ no, O.length = no := ⟨_, rfl⟩
  simp only [hxs, hno] at hF2 ⊢
  obtain ⟨fA, hfA⟩ : ∃ x, flE A = x := ⟨_, rfl⟩
  obtain ⟨fC, hfC⟩ : ∃ x, flE C = x := ⟨_, rfl⟩
  rw [hfA] at hQ1
  rw [hfC] at hQ2
  simp only [hfA] at hF1
  simp only [hfC] at hF2
  have HP1 := Lib.hid hp1
  have HP2 := Lib.hid hp2
  have HM1 := Lib.hid hm1
  have HM2 := Lib.hid hm2
  have HBE := Lib.hid hBe
  have HF1 := Lib.hid hF1
  have HF2 := Lib.hid hF2
  clear hO hS hK hp1 hp2 hm1 hm2 hl1 hl2 hA hC hM hM2 hxs hno hBe hF1 hF2 hE hfA hfC
  obtain ⟨B, hB⟩ : ∃ B, w.heap.size = B := ⟨_, rfl⟩
  rw [hB] at hB0
  have hhi := hQ.2.2.2.1
  rw [hB] at hhi
  have hfar := Below.refl B w
  have hsz : B ≤ w.heap.size := by omega
  go_enter Tryz.func80, Tryz.ntmps80
  go_wp2_with fail
  refine (may_any _ _ _ _ _).mono ?_
  rintro e w' ⟨rfl, rfl⟩
  rw [hm]
  go_wp2_with fail
  refine (HBE.out _ hQ).mono ?_
  rintro e w2 ⟨rfl, hb2⟩
  replace hBW := hBW.newB hb2
  replace hQ := hQ.newB hb2
  replace hQ1 := hQ1.newB hb2
  replace hQ2 := hQ2.newB hb2
  replace hfar := hfar.trans (hb2.mono (by omega))
  replace hsz := Nat.le_trans hsz hb2.size
  obtain ⟨g, hg⟩ : ∃ g, w2.heap.size = g := ⟨_, rfl⟩
  have hBg : B ≤ g := by omega
  clear hm
  go_upto_region 4 with (first | (refine st 92 rfl (by rfl) w_Entry rfl rfl bk_ zz_ zz_ one_ ?_) | (refine ld 92 rfl (by rfl) w_Entry rfl bk_ zz_ ?_) | (refine bd 29 rfl (by rfl) rfl state_zs ?_) | (refine bd 26 rfl (by rfl) rfl block_zs ?_) | (refine ld 29 rfl (by rfl) w_State rfl bk_ lz_ ?_) | (refine ld 26 rfl (by rfl) w_Block rfl bk_ lz_ ?_) | (refine ldp 26 rfl (by rfl) w_Block rfl bk_ ln_ (by omega) ?_) | (refine ld 27 rfl (by rfl) w_Four rfl bk_ lz_ ?_) | (refine ldp 27 rfl (by rfl) w_Four rfl bk_ ln_ (by omega) ?_) | (refine st 29 rfl (by rfl) w_State rfl rfl bk_ lz_ lz_ one_ ?_) | (refine st 26 rfl (by rfl) w_Block rfl rfl bk_ lz_ lz_ one_ ?_) | (refine st 27 rfl (by rfl) w_Four rfl rfl bk_ lz_ lz_ one_ ?_))
  refine wp_gen (fun W => Blk W (0) (bandC) 164 ∧ SL W (lo) (hi) (3) (p) (n) (cap) (flE l) ∧ SL W (lo) (hi) (3) (p1) (m1) (cap - K) (fA) ∧ SL W (lo) (hi) (3) (p2) (m2) (cap - i) (fC) ∧ Blk W (g) (arrV S) 29 ∧ Below (B) w W ∧ g + 1 ≤ W.heap.size) ⟨bk_, sl_, sl_, sl_, bk_, bl_, sz_⟩ ?_
  clear hBW hQ hQ1 hQ2 hfar hsz
  rintro w3 ⟨hBW, hQ, hQ1, hQ2, hS, hfar, hsz⟩
  go_cut [] from 20 (fun wx => Blk wx 0 bandC 164 ∧ SL wx lo hi 3 p2 m2 (cap - i) fC ∧ Blk wx g (arrV M) 29 ∧ Below B w wx ∧ g + 1 ≤ wx.heap.size)
  case first =>
    refine wp_region_held_drew (S := fun W => True) (by kernel_rfl) ⟨⟩ (fun hH => ?_)
    refine tk 1 hH (y := yp) (k := ?_)
    refine tk 2 hH (y := yp) (k := ?_)
    refine tk 3 hH (y := yp) (k := ?_)
    refine tk 4 hH (v := .slice p1 m1 (cap - K)) (y := (yieldsIf_slx (by rfl) 57 rfl rfl rfl rfl Tryz.underlying57 el_Entry.1 hKi hic HP1.out HM1.out)) (k := ?_)
    refine wpAnyH_ready (rs := [0]) (by kernel_rfl) (by simp) ?_
    refine rc (h := fun K hK => ?_) (r := AllReadyH.nil)
    refine wp_ld 29 rfl w_State rfl hS.drew LS.sz ?_
    refine hK.out _ _ trivial (fun hH => ?_)
    clear hK K
    try simp only [Act.put, sa, List.set_cons_zero, List.set_cons_succ]
    refine wpAnyH_ready (rs := [5]) (by kernel_rfl) (by simp) ?_
    refine rc (h := fun K hK => ?_) (r := AllReadyH.nil)
    go_simp
    refine (HF1.out _ hBW.drew hQ1.drew).mono ?_
    rintro r wq ⟨v5, rfl, hv5, hb⟩
    have hbs := hb.size
    try simp only [World.size_alloc, World.size_setCell, World.size_drew, size_setRow] at hbs
    go_wp2_with fail
    refine hK.out _ _ trivial (fun hH => ?_)
    clear hK K
    try simp only [Act.put, sa, List.set_cons_zero, List.set_cons_succ]
    refine tk 6 hH (y := yp) (k := ?_)
    refine tk 7 hH (y := yp) (k := ?_)
    refine tk 8 hH (y := yp) (k := ?_)
    refine wpAnyH_ready (rs := [9]) (by kernel_rfl) (by simp) ?_
    refine rc (h := fun K hK => ?_) (r := AllReadyH.nil)
    refine wp_st 29 rfl w_State rfl rfl bk_ zz_ zz_ one_ ?_
    refine hK.out _ _ trivial (fun hH => ?_)
    clear hK K
    try simp only [Act.put]
    refine wpAnyH_done (by kernel_rfl) ?_ _
    go_wp2_with fail
    go_meet
    case rel => exact ⟨by exact bk_, by exact sl_, by exact bk_, by exact bl_, by exact sz_⟩
  case rest =>
    clear hBW hQ hQ1 hQ2 hS hfar hsz
    obtain ⟨hBW, hQ2, hS, hfar, hsz⟩ := hcut
    go_upto_region 5 with (fail)
    refine wp_region_held_drew (S := fun W => Blk W (0) (bandC) 164 ∧ SL W (lo) (hi) (3) (p2) (m2) (cap - i) (fC) ∧ Blk W (g) (arrV M) 29 ∧ Below (B) w W ∧ g + 1 ≤ W.heap.size) (by kernel_rfl) (⟨hBW.drew, hQ2.drew, hS.drew, hfar.drew, hsz⟩) (fun hH => ?_)
    have hH2 := hH
    obtain ⟨hBW, hQ2, hS, hfar, hsz⟩ := hH2
    refine tk 0 hH (v := .agg (arrV M)) (y := (yieldsIf_ld (by rfl) 29 rfl w_State rfl (fun _ hS => hS.2.2.1) zz_)) (k := ?_)
    refine tk 1 hH (y := yp) (k := ?_)
    refine tk 2 hH (y := yp) (k := ?_)
    refine tk 3 hH (v := .slice p2 m2 (cap - i)) (y := (yieldsIf_sllm (by rfl) 57 rfl rfl rfl Tryz.underlying57 el_Entry.1 hin HP2.out HM2.out)) (k := ?_)
    refine wpAnyH_ready (rs := [4, 8]) (by kernel_rfl) (by simp) ?_
    refine rc (h := fun K hK => ?_) (r := ?_)
    · go_simp
      refine (HF2.out _ hBW hQ2).mono ?_
      rintro r wq ⟨v5, rfl, hv5, hb⟩
      have hbs := hb.size
      try simp only [World.size_alloc, World.size_setCell, World.size_drew, size_setRow] at hbs
      obtain ⟨pa, ca, lo5, hi5, rfl, hsa, hlo5, hhi5⟩ := own_ex hv5
      try simp only [World.size_alloc, World.size_setCell, World.size_drew, size_setRow] at hlo5
      go_wp2_with fail
      refine hK.out _ _ ⟨bk_, sl_, bk_, bl_, Nat.le_trans (sz_) hb.size⟩ (fun hH2 => ?_)
      clear hH
      have hH := hH2
      obtain ⟨hBW, hQ2, hS, hfar, hsz⟩ := hH2
      clear hK K
      try simp only [Act.put, sa, List.set_cons_zero, List.set_cons_succ]
      refine tk 5 hH (y := yp) (k := ?_)
      refine tk 6 hH (y := yp) (k := ?_)
      refine tk 7 hH (y := yp) (k := ?_)
      refine wpAnyH_ready (rs := [8]) (by kernel_rfl) (by simp) ?_
      refine rc (h := fun K hK => ?_) (r := AllReadyH.nil)
      go_simp
      refine hK.out _ _ ⟨bk_, sl_, bk_, bl_, sz_⟩ (fun hH2 => ?_)
      clear hH
      have hH := hH2
      obtain ⟨hBW, hQ2, hS, hfar, hsz⟩ := hH2
      clear hK K
      try simp only [Act.put, sa, List.set_cons_zero, List.set_cons_succ]
      refine tk 9 hH (y := yp) (k := ?_)
      refine wpAnyH_ready (rs := [10]) (by kernel_rfl) (by simp) ?_
      refine rc (h := fun K hK => ?_) (r := AllReadyH.nil)
      refine wp_st 29 rfl w_State rfl rfl bk_ zz_ zz_ one_ ?_
      refine hK.out _ _ ⟨bk_, sl_, bk_, bl_, sz_⟩ (fun hH2 => ?_)
      clear hH
      have hH := hH2
      obtain ⟨hBW, hQ2, hS, hfar, hsz⟩ := hH2
      clear hK K
      try simp only [Act.put]
      refine wpAnyH_done (by kernel_rfl) ?_ _
      go_wp2_with fail
      go_ret2
      exact ⟨pa, ca, lo5, hi5, rfl, by exact sl_, by (try rw [hB]); exact sz_, (by (try rw [hB]); exact bl_)⟩
    refine rc (h := fun K hK => ?_) (r := AllReadyH.nil)
    go_simp
    refine hK.out _ _ ⟨bk_, sl_, bk_, bl_, sz_⟩ (fun hH2 => ?_)
    clear hH
    have hH := hH2
    obtain ⟨hBW, hQ2, hS, hfar, hsz⟩ := hH2
    clear hK K
    try simp only [Act.put, sa, List.set_cons_zero, List.set_cons_succ]
    refine wpAnyH_ready (rs := [4]) (by kernel_rfl) (by simp) ?_
    refine rc (h := fun K hK => ?_) (r := AllReadyH.nil)
    go_simp
    refine (HF2.out _ hBW hQ2).mono ?_
    rintro r wq ⟨v5, rfl, hv5, hb⟩
    have hbs := hb.size
    try simp only [World.size_alloc, World.size_setCell, World.size_drew, size_setRow] at hbs
    obtain ⟨pa, ca, lo5, hi5, rfl, hsa, hlo5, hhi5⟩ := own_ex hv5
    try simp only [World.size_alloc, World.size_setCell, World.size_drew, size_setRow] at hlo5
    go_wp2_with fail
    refine hK.out _ _ ⟨bk_, sl_, bk_, bl_, Nat.le_trans (sz_) hb.size⟩ (fun hH2 => ?_)
    clear hH
    have hH := hH2
    obtain ⟨hBW, hQ2, hS, hfar, hsz⟩ := hH2
    clear hK K
    try simp only [Act.put, sa, List.set_cons_zero, List.set_cons_succ]
    refine tk 5 hH (y := yp) (k := ?_)
    refine tk 6 hH (y := yp) (k := ?_)
    refine tk 7 hH (y := yp) (k := ?_)
    refine tk 9 hH (y := yp) (k := ?_)
    refine wpAnyH_ready (rs := [10]) (by kernel_rfl) (by simp) ?_
    refine rc (h := fun K hK => ?_) (r := AllReadyH.nil)
    refine wp_st 29 rfl w_State rfl rfl bk_ zz_ zz_ one_ ?_
    refine hK.out _ _ ⟨bk_, sl_, bk_, bl_, sz_⟩ (fun hH2 => ?_)
    clear hH
    have hH := hH2
    obtain ⟨hBW, hQ2, hS, hfar, hsz⟩ := hH2
    clear hK K
    try simp only [Act.put]
    refine wpAnyH_done (by kernel_rfl) ?_ _
    go_wp2_with fail
    go_ret2
    exact ⟨pa, ca, lo5, hi5, rfl, by exact sl_, by (try rw [hB]); exact sz_, (by (try rw [hB]); exact bl_)⟩
theorem From_out (p : Option Addr) (n cap : Nat) (i : Int) (hi : mayE n i = false) (w : World) : Calls Tryz.prog 80 #[.slice p n cap, .int .i64 i] w fun r w' => r = .returned (.tuple #[.slice none 0 0, .int .i64 1]) ∧ Below w.heap.size w w' := by
  obtain ⟨B, hB⟩ : ∃ B, w.heap.size = B := ⟨_, rfl⟩
  have hfar := Below.refl B w
  have hsz : B ≤ w.heap.size := by omega
  go_enter Tryz.func80, Tryz.ntmps80
  go_wp2_with fail
  refine (may_any _ _ _ _ _).mono ?_
  rintro e w' ⟨rfl, rfl⟩
  rw [hi]
  go_wp2_with fail
  go_ret2
  exact ⟨rfl, (by (try rw [hB]); exact bl_)⟩
end Go.Proofs.YtkoljgmapclhkaaGreatDoor
