/- The plain words of entries that are heard from the middle. -/
import Derived.Test.YtmfihaaiddolmaaGreatDoorSpecBack
set_option linter.unusedSimpArgs false
set_option linter.unusedVariables false
namespace Go.Proofs.YtmfihaaiddolmaaGreatDoor

def isChk (e : Ent) : Bool := decide (e.kind = 3) && rightE e
/-- How many entries stand behind the last check. -/
def trail (l : List Ent) : Nat := l.foldl (fun t e => if isChk e then 0 else t + 1) 0
theorem trail_app1 (l : List Ent) (e : Ent) : trail (l ++ [e]) = if isChk e then 0 else trail l + 1 := by unfold trail; rw [List.foldl_append]; rfl
theorem trail_le (l : List Ent) : trail l ≤ l.length := by
  have h : ∀ (l : List Ent) (t : Nat), l.foldl (fun t e => if isChk e then 0 else t + 1) t ≤ t + l.length := by
    intro l
    induction l with
    | nil => intro t; exact Nat.le_refl _
    | cons e r ih =>
      intro t
      rw [List.foldl_cons, List.length_cons]
      split
      · have := ih 0; omega
      · have := ih (t + 1); omega
  have := h l 0
  unfold trail; omega
/-- The nearest check's place ahead of the first i. -/
def nearE (l : List Ent) (i : Nat) : Option Nat := if trail (l.take i) < i then some (i - 1 - trail (l.take i)) else none
def begK (l : List Ent) (i : Nat) : Nat := i - trail (l.take i)
def begS (l : List Ent) (i : Nat) : List Int := match nearE l i with
  | some k => match l[k]? with
    | some e => readSt e.data
    | none => zs 38
  | none => zs 38
def fromO (l : List Ent) (i : Nat) : List (List Int) := foldO (foldS (begS l i) ((l.take i).drop (begK l i))) (l.drop i)
theorem begS_len (l : List Ent) (i : Nat) : (begS l i).length = 38 := by
  unfold begS
  split
  · split
    · exact readSt_len _
    · simp [zs]
  · simp [zs]
theorem begK_le (l : List Ent) (i : Nat) : begK l i ≤ i := by unfold begK; omega
theorem fromO_len (l : List Ent) (i : Nat) : ∀ b ∈ fromO l i, b.length = 16 := foldO_len _ _
theorem fromO_le (l : List Ent) (i : Nat) : (fromO l i).length ≤ l.length := by
  have := foldO_le (foldS (begS l i) ((l.take i).drop (begK l i))) (l.drop i)
  rw [List.length_drop] at this
  unfold fromO; omega
theorem near_zero (l : List Ent) : nearE l 0 = none := rfl
theorem near_succ {l : List Ent} {i : Nat} {e : Ent} (h : l[i]? = some e) : nearE l (i + 1) = if isChk e then some i else nearE l i := by
  unfold nearE
  rw [List.take_add_one, h, Option.toList_some, trail_app1]
  by_cases hc : isChk e = true
  · rw [if_pos hc, if_pos hc, if_pos (by omega)]; rfl
  · rw [if_neg hc, if_neg hc]
    by_cases ht : trail (l.take i) < i
    · rw [if_pos ht, if_pos (by omega)]; congr 1; omega
    · rw [if_neg ht, if_neg (by omega)]
theorem near_some {l : List Ent} {i k : Nat} (hi : i ≤ l.length) (h : nearE l i = some k) : k < i ∧ begK l i = k + 1 ∧ ∃ e, l[k]? = some e ∧ isChk e = true := by
  induction i with
  | zero => cases h
  | succ i ih =>
    have he : l[i]? = some l[i] := List.getElem?_eq_getElem (by omega)
    rw [near_succ he] at h
    have hb : begK l (i + 1) = if isChk l[i] then i + 1 else begK l i := by
      unfold begK
      rw [List.take_add_one, he, Option.toList_some, trail_app1]
      split
      · rfl
      · omega
    rw [hb]
    by_cases hc : isChk l[i] = true
    · rw [if_pos hc] at h ⊢
      cases h
      exact ⟨by omega, rfl, _, he, hc⟩
    · rw [if_neg hc] at h ⊢
      obtain ⟨h1, h2, h3⟩ := ih (by omega) h
      exact ⟨by omega, h2, h3⟩
theorem near_none {l : List Ent} {i : Nat} (h : nearE l i = none) : begK l i = 0 ∧ begS l i = zs 38 := by
  constructor
  · unfold nearE at h
    unfold begK
    split at h
    · cases h
    · omega
  · unfold begS; rw [h]
theorem begS_some {l : List Ent} {i k : Nat} {e : Ent} (h : nearE l i = some k) (he : l[k]? = some e) : begS l i = readSt e.data := by
  unfold begS; rw [h]; simp only [he]
/-- What a check's step leaves. -/
theorem chk_step {L : List Int} {e : Ent} (h : e.kind = 3) : stepO L e = [] ∧ stepS L e = L := by
  unfold stepO stepS
  rw [h]
  split <;> simp
theorem chk_heard {e : Ent} (h : e.kind = 3) : heardE e = false := by unfold heardE; rw [h]; simp
/-- All of them true. -/
def AllTrue (L : List Int) (l : List Ent) : Prop := truthsE L l = l.length
theorem truths_le (L : List Int) (l : List Ent) : truthsE L l ≤ l.length := by
  induction l generalizing L with
  | nil => exact Nat.le_refl _
  | cons e r ih => have := ih (stepS L e); rw [truthsE, List.length_cons]; split <;> omega
theorem truths_take (L : List Int) (l : List Ent) : AllTrue L (l.take (truthsE L l)) := by
  unfold AllTrue
  induction l generalizing L with
  | nil => rfl
  | cons e r ih =>
    have h := ih (stepS L e)
    rw [truthsE]
    by_cases ht : trueE L e = true
    · rw [if_pos ht, List.take_succ_cons, truthsE, if_pos ht, List.length_cons, h]
    · rw [if_neg ht]; rfl
theorem truths_app (L : List Int) (a b : List Ent) (h : AllTrue L a) : truthsE L (a ++ b) = a.length + truthsE (foldS L a) b := by
  unfold AllTrue at h
  induction a generalizing L with
  | nil => simp [foldS]
  | cons e r ih =>
    rw [truthsE, List.length_cons] at h
    by_cases ht : trueE L e = true
    · rw [if_pos ht] at h
      rw [List.cons_append, truthsE, if_pos ht, ih _ (by omega), foldS_cons, List.length_cons]; omega
    · rw [if_neg ht] at h; omega
theorem true_at {L : List Int} {l : List Ent} {k : Nat} {e : Ent} (he : l[k]? = some e) (hk : k < truthsE L l) : trueE (foldS L (l.take k)) e = true := by
  induction l generalizing L k with
  | nil => simp at he
  | cons x r ih =>
    rw [truthsE] at hk
    by_cases ht : trueE L x = true
    · rw [if_pos ht] at hk
      cases k with
      | zero => simp at he; subst he; exact ht
      | succ k =>
        rw [List.take_succ_cons, foldS_cons]
        exact ih (by simpa using he) (by omega)
    · rw [if_neg ht] at hk; omega
theorem true_stop {L : List Int} {l : List Ent} {e : Ent} (he : l[truthsE L l]? = some e) : trueE (foldS L (l.take (truthsE L l))) e = false := by
  induction l generalizing L with
  | nil => simp at he
  | cons x r ih =>
    rw [truthsE] at he ⊢
    by_cases ht : trueE L x = true
    · rw [if_pos ht] at he ⊢
      rw [List.take_succ_cons, foldS_cons]
      exact ih (by simpa using he)
    · rw [if_neg ht] at he ⊢
      simp at he; subst he
      simpa [foldS] using ht
theorem zs_len38 : (zs 38).length = 38 := by simp [zs]
theorem zs_right38 : rightS (zs 38) = true := rightS_zero
/-- Of true entries: what is begun with is the state there. -/
theorem beg_true {l : List Ent} (h : AllTrue (zs 38) l) {i : Nat} (hi : i ≤ l.length) : begS l i = foldS (zs 38) (l.take (begK l i)) := by
  cases hn : nearE l i with
  | none => rw [(near_none hn).1, (near_none hn).2]; rfl
  | some k =>
    obtain ⟨h1, h2, e, he, hc⟩ := near_some hi hn
    have ht := true_at (L := zs 38) he (by unfold AllTrue at h; omega)
    unfold isChk at hc
    simp only [Bool.and_eq_true, decide_eq_true_eq] at hc
    have hs : readSt e.data = foldS (zs 38) (l.take k) := by
      unfold trueE at ht
      rw [hc.1] at ht
      simp at ht
      exact ht.2
    rw [begS_some hn he, h2, List.take_add_one, he, Option.toList_some, foldS_app, foldS_cons, foldS_nil, (chk_step hc.1).2, hs]
theorem from_true {l : List Ent} (h : AllTrue (zs 38) l) {i : Nat} (hi : i ≤ l.length) : fromO l i = foldO (foldS (zs 38) (l.take i)) (l.drop i) := by
  unfold fromO
  rw [beg_true h hi, ← foldS_app]
  congr 2
  have : l.take (begK l i) = (l.take i).take (begK l i) := by rw [List.take_take, Nat.min_eq_left (begK_le l i)]
  rw [this, List.take_append_drop]
theorem from_rest {l : List Ent} (h : AllTrue (zs 38) l) {i : Nat} (hi : i ≤ l.length) : fromO l i = (foldO (zs 38) l).drop (soundsE (l.take i)) := by
  have e : foldO (zs 38) l = foldO (zs 38) (l.take i) ++ fromO l i := by
    rw [from_true h hi, ← foldO_app, List.take_append_drop]
  rw [e, ← foldO_count zs_len38 zs_right38 (l.take i), List.drop_left]
theorem from_all {l : List Ent} (h : AllTrue (zs 38) l) {i : Nat} (hi : i ≤ l.length) : foldO (zs 38) l = foldO (zs 38) (l.take i) ++ fromO l i := by
  rw [from_true h hi, ← foldO_app, List.take_append_drop]
theorem from_step {l : List Ent} (h : AllTrue (zs 38) l) {i : Nat} {e : Ent} (he : l[i]? = some e) : ∃ a, fromO l i = a ++ fromO l (i + 1) ∧ a.length = soundsE [e] := by
  have hi : i < l.length := (List.getElem?_eq_some_iff.1 he).1
  refine ⟨stepO (foldS (zs 38) (l.take i)) e, ?_, ?_⟩
  · rw [from_true h (by omega), from_true h (by omega)]
    have hd : l.drop i = e :: l.drop (i + 1) := by
      rw [List.drop_eq_getElem_cons hi]; congr 1
      exact Option.some.inj ((List.getElem?_eq_getElem hi).symm.trans he)
    rw [hd, foldO, List.take_add_one, he, Option.toList_some, foldS_app]
    rfl
  · rw [stepO_count (foldS_right zs_len38 zs_right38 _), soundsE_cons]; simp [soundsE]
/-- A check of a state. -/
def chkE (sp : Int) (L : List Int) : Ent := ⟨3, sp, bytesS L⟩
theorem chk_true {L : List Int} (hl : L.length = 38) (hr : rightS L = true) (sp : Int) : isChk (chkE sp L) = true ∧ ∀ M, rightS M = true → trueE M (chkE sp L) = (L == M) := by
  have h := bytes_back hl hr
  have h1 : rightE (chkE sp L) = true := by unfold rightE chkE; simp [h.1]
  refine ⟨by unfold isChk; rw [h1]; rfl, fun M hm => ?_⟩
  unfold trueE
  rw [hm, h1]
  show (true && true && (!decide ((3 : Int) = 3) || readSt (bytesS L) == M)) = _
  rw [h.2]
  simp
end Go.Proofs.YtmfihaaiddolmaaGreatDoor
