/- Plain laws of frames encoded: their levels, and that silence is heard as silence. -/
import Derived.Test.YthpjkgpngbdhbaaGreatDoorSpecEnc3
set_option linter.unusedSimpArgs false
set_option linter.unusedVariables false
namespace Go.Proofs.YthpjkgpngbdhbaaGreatDoor

theorem packE_good {size : Nat} (h0 : 10 ≤ size) (h1 : size ≤ 32) {e : ESt} (h : e.Ok) (b : List Int) : decE e.L (packE size e b) = 0 := by
  have hs := packE_size h0 h b
  exact (dec_good e.L (packE size e b) (by rw [hs]; exact ⟨h0, h1⟩) (right_st h)).1
theorem next_levL {L ls wv : List Int} (h : ls.length = 4) : levL (nextSt L ls wv 0) = ls := by
  have e : nextSt L ls wv 0 = (((backL wv).drop 16).map (Sp.cut 32) ++ [nextN L wv]) ++ (ls ++ (wv ++ [0])) := by unfold nextSt; simp only [List.append_assoc]
  have hl : (((backL wv).drop 16).map (Sp.cut 32) ++ [nextN L wv]).length = 17 := by simp [backL_len]
  unfold levL
  rw [e, List.drop_left' hl, List.take_left' h]
theorem nextE_L (size : Nat) (e : ESt) (b : List Int) : (nextE size e b).L = decSt e.L (packE size e b) := by simp only [nextE]
theorem nextE_P (size : Nat) (e : ESt) (b : List Int) : (nextE size e b).P = liftL e.last b := by simp only [nextE]
theorem nextE_last (size : Nat) (e : ESt) (b : List Int) : (nextE size e b).last = liftN e.last b := by simp only [nextE]
theorem packE_eq (size : Nat) (e : ESt) (b : List Int) : packE size e b = packS size (levL e.L) (wavesL e.P (liftL e.last b)) := by rw [packE]
theorem pack_levsE {size : Nat} (h0 : 10 ≤ size) {e : ESt} (h : e.Ok) (b : List Int) : levsS (packE size e b) (levL e.L) = levelsL (wavesL e.P (liftL e.last b)) := by
  rw [packE_eq]; exact pack_levs (right_levs4 (right_st h) h.2.1) h0
theorem decSt_good {L : List Int} {s : ByteArray} (h : decE L s = 0) : decSt L s = nextSt L (levsS s (levL L)) (wavS s (levL L)) 0 := by unfold decSt; rw [if_pos h]
theorem decO_good {L : List Int} {s : ByteArray} (h : decE L s = 0) : decO L s = soundL (nextO L (wavS s (levL L))) := by unfold decO; rw [if_pos h]
/-- Behind a frame the levels are those of its waves. -/
theorem nextE_levs {size : Nat} (h0 : 10 ≤ size) (h1 : size ≤ 32) {e : ESt} (h : e.Ok) (b : List Int) : levL (nextE size e b).L = levelsL (wavesL e.P (liftL e.last b)) := by
  have hg := packE_good h0 h1 h b
  have hl := pack_levsE h0 h b
  rw [nextE_L, decSt_good hg, hl, next_levL (levelsL_ok _).1]
def outE (size : Nat) (e : ESt) (b : List Int) : List Int := decO e.L (packE size e b)
/-- Where a packet stands. -/
theorem allE_get {size : Nat} : ∀ (l : List (List Int)) (e : ESt) (i : Nat) (b : List Int), l[i]? = some b → (allE size e l).1[i]? = some (packE size (allE size e (l.take i)).2 b) ∧ (allE size e (l.take (i + 1))).2 = nextE size (allE size e (l.take i)).2 b := by
  intro l
  induction l with
  | nil => intro e i b h; simp at h
  | cons c r ih =>
    intro e i b h
    cases i with
    | zero =>
      simp only [List.getElem?_cons_zero, Option.some.injEq] at h
      subst h
      exact ⟨rfl, by simp [allE]⟩
    | succ i =>
      rw [List.getElem?_cons_succ] at h
      obtain ⟨i1, i2⟩ := ih (nextE size e c) i b h
      rw [allE_cons, List.take_succ_cons, List.take_succ_cons, allE_cons, allE_cons]
      exact ⟨by rw [List.getElem?_cons_succ]; exact i1, i2⟩
theorem allE_take {size : Nat} : ∀ (l : List (List Int)) (e : ESt) (i : Nat), (allE size e (l.take i)).1 = (allE size e l).1.take i := by
  intro l
  induction l with
  | nil => intro e i; simp [allE]
  | cons c r ih =>
    intro e i
    cases i with
    | zero => simp [allE]
    | succ i => rw [List.take_succ_cons, allE_cons, allE_cons, List.take_succ_cons, ih]
/-- The encoder at first. -/
def e0 : ESt := ⟨List.replicate 16 0, 0, List.replicate 38 0⟩
def z16 : List Int := List.replicate 16 0
theorem z16_s16 : S16 z16 := ⟨rfl, fun x hx => by have := (List.mem_replicate.1 hx).2; omega⟩
theorem e0_ok : e0.Ok := ⟨rfl, rfl, by decide +kernel⟩
theorem wavesL_zero : wavesL z16 z16 = z16 := by
  unfold wavesL
  rw [if_neg (by decide)]
  have hg : ∀ n, (z16 ++ z16).getD n 0 = 0 := fun n => by
    show (List.replicate 16 0 ++ List.replicate 16 0 : List Int).getD n 0 = 0
    rw [List.replicate_append_replicate]; exact rep_getD _ n
  have e : ∀ k, wave1 z16 z16 k = 0 := fun k => by
    unfold wave1
    rw [sumF_zero (fun n => by unfold waveT; rw [hg, Int.zero_mul, show Sp.shiftN 15 0 = 0 from by decide, Int.zero_mul])]
    decide
  have hm : (List.range 16).map (wave1 z16 z16) = (List.range 16).map (fun _ => 0) := List.map_congr_left fun k _ => e k
  rw [hm]; rfl
theorem levels_zero : levelsL z16 = [0, 0, 0, 0] := by decide +kernel
theorem wav_zero {s : ByteArray} {ls : List Int} (h : levsS s ls = [0, 0, 0, 0]) : wavS s ls = List.replicate 16 0 := by
  have hp : pulS s ls = [0, 0, 0, 0] := by
    unfold pulS
    rw [h]
    unfold pulses
    rw [pbest_none, if_pos (by decide)]
  unfold wavS
  rw [h, hp]
  exact zero_bands _ 4 (Nat.le_refl _)
/-- An encoder that has heard two frames of noughts. -/
def Still (e : ESt) : Prop := e.P = z16 ∧ e.last = 0
theorem liftN_zero (x : Int) : liftN x z16 = 0 := rfl
theorem liftL_zero : liftL 0 z16 = z16 := by decide +kernel
theorem next_last {size : Nat} (e : ESt) : (nextE size e z16).last = 0 := by rw [nextE_last]; exact liftN_zero _
theorem next_still {size : Nat} {e : ESt} (h : e.last = 0) : Still (nextE size e z16) := ⟨by rw [nextE_P, h]; exact liftL_zero, next_last e⟩
/-- A state of which nothing is left but the last sample. -/
def quiet (n : Int) : List Int := List.replicate 16 0 ++ n :: List.replicate 21 0
theorem z16_eq : List.replicate 16 (0 : Int) = z16 := rfl
theorem quiet_mk (L : List Int) : nextSt L [0, 0, 0, 0] z16 0 = quiet (nextN L z16) := by
  have e : backL z16 = List.replicate 32 0 := back_zero
  unfold nextSt
  rw [e]
  generalize nextN L z16 = n
  have h1 : ((List.replicate 32 (0 : Int)).drop 16).map (Sp.cut 32) = List.replicate 16 0 := by decide +kernel
  rw [h1]
  rfl
theorem still_dec {size : Nat} (h0 : 10 ≤ size) (h1 : size ≤ 32) {e : ESt} (h : e.Ok) (hs : Still e) :
    (nextE size e z16).L = quiet (nextN e.L z16) ∧ outE size e z16 = soundL (nextO e.L z16) := by
  have hg := packE_good h0 h1 h z16
  have hw : wavesL e.P (liftL e.last z16) = z16 := by rw [hs.1, hs.2, liftL_zero, wavesL_zero]
  have hl : levsS (packE size e z16) (levL e.L) = [0, 0, 0, 0] := by
    rw [pack_levsE h0 h z16, hw, levels_zero]
  have hz := wav_zero hl
  constructor
  · rw [nextE_L, decSt_good hg, hl, hz, z16_eq]
    exact quiet_mk e.L
  · unfold outE
    rw [decO_good hg, hz, z16_eq]
theorem quiet_mem (n : Int) : memL (quiet n) = z16 := rfl
theorem quiet_last (n : Int) : lastL (quiet n) = n := rfl
theorem quiet_next (n : Int) : nextN (quiet n) z16 = layN n z16 ∧ nextO (quiet n) z16 = layL n z16 := by
  have e : overL z16 ((List.replicate 32 (0 : Int)).take 16) = z16 := by decide +kernel
  constructor
  · unfold nextN z16; rw [back_zero]; exact congrArg (layN n) e
  · unfold nextO z16; rw [back_zero]; exact congrArg (layL n) e
/-- How great what is left can be. -/
def fade (B : Nat) : Nat := 27853 * B / 32768
def fades : Nat → Nat → Nat
  | 0, B => B
  | m + 1, B => fades m (fade B)
theorem fade_le (B : Nat) : fade B ≤ B := by unfold fade; omega
theorem tdiv_fade {x : Int} {B : Nat} (h : -(B : Int) ≤ x ∧ x ≤ B) : -(fade B : Int) ≤ (27853 * x).tdiv 32768 ∧ (27853 * x).tdiv 32768 ≤ fade B := by
  have key : ∀ y : Int, 0 ≤ y → y ≤ B → 0 ≤ (27853 * y).tdiv 32768 ∧ (27853 * y).tdiv 32768 ≤ fade B := fun y y0 y1 => by
    rw [Int.tdiv_eq_ediv_of_nonneg (by omega)]
    unfold fade
    omega
  by_cases h0 : 0 ≤ x
  · have := key x h0 h.2; omega
  · have h2 := key (-x) (by omega) (by omega)
    have e : (27853 * x).tdiv 32768 = -((27853 * -x).tdiv 32768) := by
      rw [← Int.neg_tdiv]; congr 1; omega
    omega
theorem lay_fade {x : Int} {B : Nat} (h : -(B : Int) ≤ x ∧ x ≤ B) : -(fade B : Int) ≤ lay1 x 0 ∧ lay1 x 0 ≤ fade B := by
  have h2 := tdiv_fade h
  have e : ∀ x, Sp.cut 22 x = max (min x 2097151) (-2097152) := fun _ => rfl
  unfold lay1
  rw [show Sp.cut 22 0 = 0 from by decide, Int.zero_add, e]
  omega
theorem layE_fade : ∀ (m : Nat) (x : Int) (B : Nat), -(B : Int) ≤ x ∧ x ≤ B → -(fades m B : Int) ≤ layE x (List.replicate m 0) ∧ layE x (List.replicate m 0) ≤ fades m B := by
  intro m
  induction m with
  | zero => intro x B h; exact h
  | succ m ih => intro x B h; exact ih _ _ (lay_fade h)
theorem cut22_in {x : Int} {B : Nat} (h : -(B : Int) ≤ x ∧ x ≤ B) : -(B : Int) ≤ Sp.cut 22 x ∧ Sp.cut 22 x ≤ B := by
  have e : Sp.cut 22 x = max (min x 2097151) (-2097152) := rfl
  omega
theorem layG_zero : ∀ m : Nat, layG 0 (List.replicate m 0) = List.replicate m 0 := by
  intro m
  induction m with
  | zero => rfl
  | succ m ih =>
    show lay1 0 0 :: layG (lay1 0 0) (List.replicate m 0) = _
    rw [show lay1 0 0 = 0 from by decide, ih]; rfl
/-- So many frames of noughts behind a quiet state. -/
theorem quiet_all {size : Nat} (h0 : 10 ≤ size) (h1 : size ≤ 32) : ∀ (k : Nat) (e : ESt) (n : Int) (B : Nat), e.Ok → Still e → e.L = quiet n → (-(B : Int) ≤ n ∧ n ≤ B) →
    ∃ n', (allE size e (List.replicate k z16)).2.Ok ∧ Still (allE size e (List.replicate k z16)).2 ∧ (allE size e (List.replicate k z16)).2.L = quiet n' ∧ -(fades (16 * k) B : Int) ≤ n' ∧ n' ≤ fades (16 * k) B := by
  intro k
  induction k with
  | zero => intro e n B h hs hq hB; exact ⟨n, h, hs, hq, hB⟩
  | succ k ih =>
    intro e n B h hs hq hB
    have hd := (still_dec h0 h1 h hs).1
    rw [hq, (quiet_next n).1] at hd
    have hf := layE_fade 16 _ B (cut22_in hB)
    obtain ⟨n', i1, i2, i3, i4⟩ := ih (nextE size e z16) (layN n z16) (fades 16 B) (nextE_ok h0 h1 h z16_s16) (next_still hs.2) hd hf
    have ef : fades (16 * k) (fades 16 B) = fades (16 * (k + 1)) B := by
      rw [show 16 * (k + 1) = 16 + 16 * k by omega]
      generalize 16 * k = m
      show fades m (fades 16 B) = fades (16 + m) B
      have : ∀ a B, fades m (fades a B) = fades (a + m) B := by
        intro a
        induction a with
        | zero => intro B; rw [Nat.zero_add]; rfl
        | succ a ih => intro B; rw [show a + 1 + m = (a + m) + 1 by omega]; exact ih _
      exact this 16 B
    rw [ef] at i4
    exact ⟨n', i1, i2, i3, i4⟩
theorem fades_end : fades 800 4194304 = 0 := by decide +kernel
theorem nextN_bd (L wv : List Int) : -4194304 ≤ nextN L wv ∧ nextN L wv ≤ 4194304 := by
  have h : Sp.cut 22 (nextN L wv) = nextN L wv := layN_fix _ _
  have e : Sp.cut 22 (nextN L wv) = max (min (nextN L wv) 2097151) (-2097152) := rfl
  omega
theorem allE_two (size : Nat) (e : ESt) (b : List Int) (r : List (List Int)) : (allE size e (b :: r)).2 = (allE size (nextE size e b) r).2 := by rw [allE_cons]
theorem allE_rep (size : Nat) (e : ESt) (k : Nat) : (allE size e (List.replicate (k + 1) z16)).2 = (allE size (nextE size e z16) (List.replicate k z16)).2 := by rw [List.replicate_succ, allE_cons]
theorem sound_zero : soundL (layL 0 z16) = z16 := by decide +kernel
/-- Frames of noughts behind sound: in the end nothing is heard. -/
theorem silent_end' {size : Nat} (h0 : 10 ≤ size) (h1 : size ≤ 32) {b : List Int} (hb : S16 b) : outE size (allE size e0 (b :: List.replicate (56 + 1 + 1 + 1) z16)).2 z16 = z16 := by
  have k1 := nextE_ok h0 h1 e0_ok hb
  have k2 := nextE_ok h0 h1 k1 z16_s16
  have k3 := nextE_ok h0 h1 k2 z16_s16
  have k4 := nextE_ok h0 h1 k3 z16_s16
  rw [allE_two, allE_rep, allE_rep, allE_rep]
  have s2 : (nextE size (nextE size e0 b) z16).last = 0 := next_last _
  have s3 := next_still (size := size) s2
  have s4 := next_still (size := size) s3.2
  have q4 := (still_dec h0 h1 k3 s3).1
  have hbd := nextN_bd (nextE size (nextE size (nextE size e0 b) z16) z16).L z16
  obtain ⟨E, hE⟩ : ∃ E, nextE size (nextE size (nextE size (nextE size e0 b) z16) z16) z16 = E := ⟨_, rfl⟩
  rw [hE] at k4 s4 q4 ⊢
  obtain ⟨n', i1, i2, i3, i4, i5⟩ := quiet_all h0 h1 56 E _ 4194304 k4 s4 q4 hbd
  have hf : fades (16 * 56) 4194304 = 0 := by decide +kernel
  rw [hf] at i4 i5
  have hn : n' = 0 := by omega
  rw [hn] at i3
  rw [(still_dec h0 h1 i1 i2).2, i3, (quiet_next 0).2]
  exact sound_zero
theorem silent_end {size : Nat} (h0 : 10 ≤ size) (h1 : size ≤ 32) {b : List Int} (hb : S16 b) : outE size (allE size e0 (b :: List.replicate 59 z16)).2 z16 = z16 := silent_end' h0 h1 hb
/-- Frames of noughts from the first on. -/
theorem silent_next {size : Nat} (h0 : 10 ≤ size) (h1 : size ≤ 32) : nextE size e0 z16 = e0 ∧ outE size e0 z16 = z16 := by
  have hs : Still e0 := ⟨rfl, rfl⟩
  have hd := still_dec h0 h1 e0_ok hs
  have eq0 : e0.L = quiet 0 := by decide +kernel
  have hln : layN 0 z16 = 0 := by decide +kernel
  rw [eq0, (quiet_next 0).1, (quiet_next 0).2, hln] at hd
  constructor
  · have e1 : (nextE size e0 z16).L = e0.L := by rw [hd.1, eq0]
    have e2 := next_still (size := size) hs.2
    have e3 : ∀ a b : ESt, a.P = b.P → a.last = b.last → a.L = b.L → a = b := by
      intro a b h1 h2 h3
      cases a; cases b
      simp only at h1 h2 h3
      subst h1 h2 h3; rfl
    exact e3 _ _ e2.1 e2.2 e1
  · rw [hd.2]; exact sound_zero
theorem silent_all {size : Nat} (h0 : 10 ≤ size) (h1 : size ≤ 32) (k : Nat) : (allE size e0 (List.replicate k z16)).2 = e0 := by
  induction k with
  | zero => rfl
  | succ k ih => rw [allE_rep, (silent_next h0 h1).1, ih]
end Go.Proofs.YthpjkgpngbdhbaaGreatDoor
