/- The plain words of frames encoded one behind the other. Plain laws of frames encoded: their levels, and that silence is heard as silence. Slices of blocks that are read; wholes compared. The walk of enc.All. -/
import Derived.Test.YtkoljgmapclhkaaGreatDoorLot10
import Derived.Test.YtkoljgmapclhkaaGreatDoorLot6
import Derived.Deep.RegionHeldLaw
import Derived.Laws.StructEq
set_option linter.unusedSimpArgs false
set_option linter.unusedVariables false
namespace Go.Proofs.YtkoljgmapclhkaaGreatDoor

/-- Samples of sixteen digits. -/
def S16 (b : List Int) : Prop := b.length = 16 ∧ ∀ x ∈ b, -32768 ≤ x ∧ x ≤ 32767
theorem cut16_iff (x : Int) : sound16 x = true ↔ -32768 ≤ x ∧ x ≤ 32767 := by
  have e : Sp.cut 16 x = max (min x 32767) (-32768) := rfl
  unfold sound16
  rw [decide_eq_true_iff, e]
  omega
theorem s16_all {b : List Int} (h : S16 b) : b.all sound16 = true := List.all_eq_true.2 fun x hx => (cut16_iff x).2 (h.2 x hx)
/-- An encoder's memory. -/
structure ESt where
  P : List Int
  last : Int
  L : List Int
def ESt.Ok (e : ESt) : Prop := e.P.length = 16 ∧ e.L.length = 38 ∧ rightN e.P e.last e.L = true
def ESt.l (e : ESt) : List Int := encL e.P e.last e.L
def packE (size : Nat) (e : ESt) (b : List Int) : ByteArray := packS size (levL e.L) (wavesL e.P (liftL e.last b))
def nextE (size : Nat) (e : ESt) (b : List Int) : ESt := ⟨liftL e.last b, liftN e.last b, decSt e.L (packE size e b)⟩
theorem liftN_bd : ∀ (l : List Int) (s : Int), (∀ x ∈ l, -32768 ≤ x ∧ x ≤ 32767) → (-32768 ≤ s ∧ s ≤ 32767) → -32768 ≤ l.foldl (fun _ x => Sp.cut 22 x) s ∧ l.foldl (fun _ x => Sp.cut 22 x) s ≤ 32767 := by
  intro l
  induction l with
  | nil => intro s _ h; exact h
  | cons y r ih =>
    intro s hl _
    have hy := hl y List.mem_cons_self
    refine ih _ (fun z hz => hl z (List.mem_cons_of_mem _ hz)) ?_
    show -32768 ≤ Sp.cut 22 y ∧ Sp.cut 22 y ≤ 32767
    rw [cut22_id hy]; exact hy
theorem right_last {e : ESt} (h : e.Ok) : -32768 ≤ e.last ∧ e.last ≤ 32767 := by
  have hr := h.2.2
  unfold rightN at hr
  simp only [Bool.and_eq_true] at hr
  exact (cut16_iff _).1 hr.1.2
theorem right_st {e : ESt} (h : e.Ok) : rightS e.L = true := by
  have hr := h.2.2
  unfold rightN at hr
  simp only [Bool.and_eq_true] at hr
  exact hr.2
theorem packE_size {size : Nat} (h0 : 10 ≤ size) {e : ESt} (h : e.Ok) (b : List Int) : (packE size e b).size = size := packS_size (right_levs4 (right_st h) h.2.1) h0
theorem nextE_ok {size : Nat} (h0 : 10 ≤ size) (h1 : size ≤ 32) {e : ESt} (h : e.Ok) {b : List Int} (hb : S16 b) : (nextE size e b).Ok := by
  have hl := right_last h
  have hs := packE_size h0 h b
  have hg := dec_good e.L (packE size e b) (by rw [hs]; exact ⟨h0, h1⟩) (right_st h)
  obtain ⟨_, _, _, g1, _, g2⟩ := hg
  unfold nextE
  obtain ⟨D, hD⟩ : ∃ D, decSt e.L (packE size e b) = D := ⟨_, rfl⟩
  rw [hD] at g1 g2 ⊢
  refine ⟨(liftL_len e.last b).trans hb.1, g2, ?_⟩
  unfold rightN
  dsimp only
  rw [Bool.and_eq_true, Bool.and_eq_true]
  refine ⟨⟨List.all_eq_true.2 fun x hx => ?_, (cut16_iff _).2 ?_⟩, g1⟩
  · have := liftG_bd b (Sp.cut 22 e.last) hb.2 (by rw [cut22_id hl]; exact hl) x hx
    unfold lifted17
    simp; omega
  · exact liftN_bd b _ hb.2 (by rw [cut22_id hl]; exact hl)
/-- All packets, and the encoder then. -/
def allE (size : Nat) : ESt → List (List Int) → List ByteArray × ESt
  | e, [] => ([], e)
  | e, b :: r => (packE size e b :: (allE size (nextE size e b) r).1, (allE size (nextE size e b) r).2)
theorem allE_cons (size : Nat) (e : ESt) (b : List Int) (r : List (List Int)) : allE size e (b :: r) = (packE size e b :: (allE size (nextE size e b) r).1, (allE size (nextE size e b) r).2) := rfl
theorem allE_ok {size : Nat} (h0 : 10 ≤ size) (h1 : size ≤ 32) : ∀ (l : List (List Int)) (e : ESt), e.Ok → (∀ b ∈ l, S16 b) → (allE size e l).2.Ok ∧ (allE size e l).1.length = l.length ∧ ∀ p ∈ (allE size e l).1, p.size = size := by
  intro l
  induction l with
  | nil => intro e h _; exact ⟨h, rfl, fun p hp => by cases hp⟩
  | cons b r ih =>
    intro e h hl
    obtain ⟨i1, i2, i3⟩ := ih (nextE size e b) (nextE_ok h0 h1 h (hl b List.mem_cons_self)) fun c hc => hl c (List.mem_cons_of_mem _ hc)
    have hps := packE_size h0 h b
    rw [allE_cons]
    obtain ⟨N, hN⟩ : ∃ N, nextE size e b = N := ⟨_, rfl⟩
    rw [hN] at i1 i2 i3 ⊢
    obtain ⟨K, hK⟩ : ∃ K, packE size e b = K := ⟨_, rfl⟩
    rw [hK] at hps ⊢
    clear hK hN
    refine ⟨i1, by simp [i2], fun p hp => ?_⟩
    rcases List.mem_cons.1 hp with rfl | hp
    · exact hps
    · exact i3 p hp
theorem allE_app (size : Nat) : ∀ (l m : List (List Int)) (e : ESt), allE size e (l ++ m) = ((allE size e l).1 ++ (allE size (allE size e l).2 m).1, (allE size (allE size e l).2 m).2) := by
  intro l
  induction l with
  | nil => intro m e; rfl
  | cons b r ih => intro m e; simp only [List.cons_append, allE_cons, ih]
end Go.Proofs.YtkoljgmapclhkaaGreatDoor

namespace Go.Proofs.YtkoljgmapclhkaaGreatDoor

theorem packE_good {size : Nat} (h0 : 10 ≤ size) (h1 : size ≤ 32) {e : ESt} (h : e.Ok) (b : List Int) : decE e.L (packE size e b) = 0 := by
  have hs := packE_size h0 h b
  exact (dec_good e.L (packE size e b) (by rw [hs]; exact ⟨h0, h1⟩) (right_st h)).1
theorem next_levL {L ls wv : List Int} (h : ls.length = 4) : levL (nextSt L ls wv 0) = ls := by
  have e : nextSt L ls wv 0 = (((backL wv).drop 16).map (Sp.cut 32) ++ [nextN L wv]) ++ (ls ++ (wv ++ [0])) := by unfold nextSt; simp only [List.append_assoc]
  have hl : (((backL wv).drop 16).map (Sp.cut 32) ++ [nextN L wv]).length = 17 := by simp [backL_len]
  unfold levL
  rw [e, List.drop_left' hl, List.take_left' h]
theorem nextE_L (size : Nat) (e : ESt) (b : List Int) : (nextE size e b).L = decSt e.L (packE size e b) := by simp only [nextE]
theorem nextE_P (size : Nat) (e : ESt) (b : List Int) : (nextE size e b).P = liftL e.last b := by simp only [nextE]
theorem nextE_last (size : Nat) (e : ESt) (b : List Int) : (nextE size e b).last = liftN e.last b := by simp only [nextE]
theorem packE_eq (size : Nat) (e : ESt) (b : List Int) : packE size e b = packS size (levL e.L) (wavesL e.P (liftL e.last b)) := by rw [packE]
theorem pack_levsE {size : Nat} (h0 : 10 ≤ size) {e : ESt} (h : e.Ok) (b : List Int) : levsS (packE size e b) (levL e.L) = levelsL (wavesL e.P (liftL e.last b)) := by
  rw [packE_eq]; exact pack_levs (right_levs4 (right_st h) h.2.1) h0
theorem decSt_good {L : List Int} {s : ByteArray} (h : decE L s = 0) : decSt L s = nextSt L (levsS s (levL L)) (wavS s (levL L)) 0 := by unfold decSt; rw [if_pos h]
theorem decO_good {L : List Int} {s : ByteArray} (h : decE L s = 0) : decO L s = soundL (nextO L (wavS s (levL L))) := by unfold decO; rw [if_pos h]
/-- Behind a frame the levels are those of its waves. -/
theorem nextE_levs {size : Nat} (h0 : 10 ≤ size) (h1 : size ≤ 32) {e : ESt} (h : e.Ok) (b : List Int) : levL (nextE size e b).L = levelsL (wavesL e.P (liftL e.last b)) := by
  have hg := packE_good h0 h1 h b
  have hl := pack_levsE h0 h b
  rw [nextE_L, decSt_good hg, hl, next_levL (levelsL_ok _).1]
def outE (size : Nat) (e : ESt) (b : List Int) : List Int := decO e.L (packE size e b)
/-- Where a packet stands. -/
theorem allE_get {size : Nat} : ∀ (l : List (List Int)) (e : ESt) (i : Nat) (b : List Int), l[i]? = some b → (allE size e l).1[i]? = some (packE size (allE size e (l.take i)).2 b) ∧ (allE size e (l.take (i + 1))).2 = nextE size (allE size e (l.take i)).2 b := by
  intro l
  induction l with
  | nil => intro e i b h; simp at h
  | cons c r ih =>
    intro e i b h
    cases i with
    | zero =>
      simp only [List.getElem?_cons_zero, Option.some.injEq] at h
      subst h
      exact ⟨rfl, by simp [allE]⟩
    | succ i =>
      rw [List.getElem?_cons_succ] at h
      obtain ⟨i1, i2⟩ := ih (nextE size e c) i b h
      rw [allE_cons, List.take_succ_cons, List.take_succ_cons, allE_cons, allE_cons]
      exact ⟨by rw [List.getElem?_cons_succ]; exact i1, i2⟩
theorem allE_take {size : Nat} : ∀ (l : List (List Int)) (e : ESt) (i : Nat), (allE size e (l.take i)).1 = (allE size e l).1.take i := by
  intro l
  induction l with
  | nil => intro e i; simp [allE]
  | cons c r ih =>
    intro e i
    cases i with
    | zero => simp [allE]
    | succ i => rw [List.take_succ_cons, allE_cons, allE_cons, List.take_succ_cons, ih]
/-- The encoder at first. -/
def e0 : ESt := ⟨List.replicate 16 0, 0, List.replicate 38 0⟩
def z16 : List Int := List.replicate 16 0
theorem z16_s16 : S16 z16 := ⟨rfl, fun x hx => by have := (List.mem_replicate.1 hx).2; omega⟩
theorem e0_ok : e0.Ok := ⟨rfl, rfl, by decide +kernel⟩
theorem wavesL_zero : wavesL z16 z16 = z16 := by
  unfold wavesL
  rw [if_neg (by decide)]
  have hg : ∀ n, (z16 ++ z16).getD n 0 = 0 := fun n => by
    show (List.replicate 16 0 ++ List.replicate 16 0 : List Int).getD n 0 = 0
    rw [List.replicate_append_replicate]; exact rep_getD _ n
  have e : ∀ k, wave1 z16 z16 k = 0 := fun k => by
    unfold wave1
    rw [sumF_zero (fun n => by unfold waveT; rw [hg, Int.zero_mul, show Sp.shiftN 15 0 = 0 from by decide, Int.zero_mul])]
    decide
  have hm : (List.range 16).map (wave1 z16 z16) = (List.range 16).map (fun _ => 0) := List.map_congr_left fun k _ => e k
  rw [hm]; rfl
theorem levels_zero : levelsL z16 = [0, 0, 0, 0] := by decide +kernel
theorem wav_zero {s : ByteArray} {ls : List Int} (h : levsS s ls = [0, 0, 0, 0]) : wavS s ls = List.replicate 16 0 := by
  have hp : pulS s ls = [0, 0, 0, 0] := by
    unfold pulS
    rw [h]
    unfold pulses
    rw [pbest_none, if_pos (by decide)]
  unfold wavS
  rw [h, hp]
  exact zero_bands _ 4 (Nat.le_refl _)
/-- An encoder that has heard two frames of noughts. -/
def Still (e : ESt) : Prop := e.P = z16 ∧ e.last = 0
theorem liftN_zero (x : Int) : liftN x z16 = 0 := rfl
theorem liftL_zero : liftL 0 z16 = z16 := by decide +kernel
theorem next_last {size : Nat} (e : ESt) : (nextE size e z16).last = 0 := by rw [nextE_last]; exact liftN_zero _
theorem next_still {size : Nat} {e : ESt} (h : e.last = 0) : Still (nextE size e z16) := ⟨by rw [nextE_P, h]; exact liftL_zero, next_last e⟩
/-- A state of which nothing is left but the last sample. -/
def quiet (n : Int) : List Int := List.replicate 16 0 ++ n :: List.replicate 21 0
theorem z16_eq : List.replicate 16 (0 : Int) = z16 := rfl
theorem quiet_mk (L : List Int) : nextSt L [0, 0, 0, 0] z16 0 = quiet (nextN L z16) := by
  have e : backL z16 = List.replicate 32 0 := back_zero
  unfold nextSt
  rw [e]
  generalize nextN L z16 = n
  have h1 : ((List.replicate 32 (0 : Int)).drop 16).map (Sp.cut 32) = List.replicate 16 0 := by decide +kernel
  rw [h1]
  rfl
theorem still_dec {size : Nat} (h0 : 10 ≤ size) (h1 : size ≤ 32) {e : ESt} (h : e.Ok) (hs : Still e) :
    (nextE size e z16).L = quiet (nextN e.L z16) ∧ outE size e z16 = soundL (nextO e.L z16) := by
  have hg := packE_good h0 h1 h z16
  have hw : wavesL e.P (liftL e.last z16) = z16 := by rw [hs.1, hs.2, liftL_zero, wavesL_zero]
  have hl : levsS (packE size e z16) (levL e.L) = [0, 0, 0, 0] := by
    rw [pack_levsE h0 h z16, hw, levels_zero]
  have hz := wav_zero hl
  constructor
  · rw [nextE_L, decSt_good hg, hl, hz, z16_eq]
    exact quiet_mk e.L
  · unfold outE
    rw [decO_good hg, hz, z16_eq]
theorem quiet_mem (n : Int) : memL (quiet n) = z16 := rfl
theorem quiet_last (n : Int) : lastL (quiet n) = n := rfl
theorem quiet_next (n : Int) : nextN (quiet n) z16 = layN n z16 ∧ nextO (quiet n) z16 = layL n z16 := by
  have e : overL z16 ((List.replicate 32 (0 : Int)).take 16) = z16 := by decide +kernel
  constructor
  · unfold nextN z16; rw [back_zero]; exact congrArg (layN n) e
  · unfold nextO z16; rw [back_zero]; exact congrArg (layL n) e
/-- How great what is left can be. -/
def fade (B : Nat) : Nat := 27853 * B / 32768
def fades : Nat → Nat → Nat
  | 0, B => B
  | m + 1, B => fades m (fade B)
theorem fade_le (B : Nat) : fade B ≤ B := by unfold fade; omega
theorem tdiv_fade {x : Int} {B : Nat} (h : -(B : Int) ≤ x ∧ x ≤ B) : -(fade B : Int) ≤ (27853 * x).tdiv 32768 ∧ (27853 * x).tdiv 32768 ≤ fade B := by
  have key : ∀ y : Int, 0 ≤ y → y ≤ B → 0 ≤ (27853 * y).tdiv 32768 ∧ (27853 * y).tdiv 32768 ≤ fade B := fun y y0 y1 => by
    rw [Int.tdiv_eq_ediv_of_nonneg (by omega)]
    unfold fade
    omega
  by_cases h0 : 0 ≤ x
  · have := key x h0 h.2; omega
  · have h2 := key (-x) (by omega) (by omega)
    have e : (27853 * x).tdiv 32768 = -((27853 * -x).tdiv 32768) := by
      rw [← Int.neg_tdiv]; congr 1; omega
    omega
theorem lay_fade {x : Int} {B : Nat} (h : -(B : Int) ≤ x ∧ x ≤ B) : -(fade B : Int) ≤ lay1 x 0 ∧ lay1 x 0 ≤ fade B := by
  have h2 := tdiv_fade h
  have e : ∀ x, Sp.cut 22 x = max (min x 2097151) (-2097152) := fun _ => rfl
  unfold lay1
  rw [show Sp.cut 22 0 = 0 from by decide, Int.zero_add, e]
  omega
theorem layE_fade : ∀ (m : Nat) (x : Int) (B : Nat), -(B : Int) ≤ x ∧ x ≤ B → -(fades m B : Int) ≤ layE x (List.replicate m 0) ∧ layE x (List.replicate m 0) ≤ fades m B := by
  intro m
  induction m with
  | zero => intro x B h; exact h
  | succ m ih => intro x B h; exact ih _ _ (lay_fade h)
theorem cut22_in {x : Int} {B : Nat} (h : -(B : Int) ≤ x ∧ x ≤ B) : -(B : Int) ≤ Sp.cut 22 x ∧ Sp.cut 22 x ≤ B := by
  have e : Sp.cut 22 x = max (min x 2097151) (-2097152) := rfl
  omega
theorem layG_zero : ∀ m : Nat, layG 0 (List.replicate m 0) = List.replicate m 0 := by
  intro m
  induction m with
  | zero => rfl
  | succ m ih =>
    show lay1 0 0 :: layG (lay1 0 0) (List.replicate m 0) = _
    rw [show lay1 0 0 = 0 from by decide, ih]; rfl
/-- So many frames of noughts behind a quiet state. -/
theorem quiet_all {size : Nat} (h0 : 10 ≤ size) (h1 : size ≤ 32) : ∀ (k : Nat) (e : ESt) (n : Int) (B : Nat), e.Ok → Still e → e.L = quiet n → (-(B : Int) ≤ n ∧ n ≤ B) →
    ∃ n', (allE size e (List.replicate k z16)).2.Ok ∧ Still (allE size e (List.replicate k z16)).2 ∧ (allE size e (List.replicate k z16)).2.L = quiet n' ∧ -(fades (16 * k) B : Int) ≤ n' ∧ n' ≤ fades (16 * k) B := by
  intro k
  induction k with
  | zero => intro e n B h hs hq hB; exact ⟨n, h, hs, hq, hB⟩
  | succ k ih =>
    intro e n B h hs hq hB
    have hd := (still_dec h0 h1 h hs).1
    rw [hq, (quiet_next n).1] at hd
    have hf := layE_fade 16 _ B (cut22_in hB)
    obtain ⟨n', i1, i2, i3, i4⟩ := ih (nextE size e z16) (layN n z16) (fades 16 B) (nextE_ok h0 h1 h z16_s16) (next_still hs.2) hd hf
    have ef : fades (16 * k) (fades 16 B) = fades (16 * (k + 1)) B := by
      rw [show 16 * (k + 1) = 16 + 16 * k by omega]
      generalize 16 * k = m
      show fades m (fades 16 B) = fades (16 + m) B
      have : ∀ a B, fades m (fades a B) = fades (a + m) B := by
        intro a
        induction a with
        | zero => intro B; rw [Nat.zero_add]; rfl
        | succ a ih => intro B; rw [show a + 1 + m = (a + m) + 1 by omega]; exact ih _
      exact this 16 B
    rw [ef] at i4
    exact ⟨n', i1, i2, i3, i4⟩
theorem fades_end : fades 800 4194304 = 0 := by decide +kernel
theorem nextN_bd (L wv : List Int) : -4194304 ≤ nextN L wv ∧ nextN L wv ≤ 4194304 := by
  have h : Sp.cut 22 (nextN L wv) = nextN L wv := layN_fix _ _
  have e : Sp.cut 22 (nextN L wv) = max (min (nextN L wv) 2097151) (-2097152) := rfl
  omega
theorem allE_two (size : Nat) (e : ESt) (b : List Int) (r : List (List Int)) : (allE size e (b :: r)).2 = (allE size (nextE size e b) r).2 := by rw [allE_cons]
theorem allE_rep (size : Nat) (e : ESt) (k : Nat) : (allE size e (List.replicate (k + 1) z16)).2 = (allE size (nextE size e z16) (List.replicate k z16)).2 := by rw [List.replicate_succ, allE_cons]
theorem sound_zero : soundL (layL 0 z16) = z16 := by decide +kernel
/-- Frames of noughts behind sound: in the end nothing is heard. -/
theorem silent_end' {size : Nat} (h0 : 10 ≤ size) (h1 : size ≤ 32) {b : List Int} (hb : S16 b) : outE size (allE size e0 (b :: List.replicate (56 + 1 + 1 + 1) z16)).2 z16 = z16 := by
  have k1 := nextE_ok h0 h1 e0_ok hb
  have k2 := nextE_ok h0 h1 k1 z16_s16
  have k3 := nextE_ok h0 h1 k2 z16_s16
  have k4 := nextE_ok h0 h1 k3 z16_s16
  rw [allE_two, allE_rep, allE_rep, allE_rep]
  have s2 : (nextE size (nextE size e0 b) z16).last = 0 := next_last _
  have s3 := next_still (size := size) s2
  have s4 := next_still (size := size) s3.2
  have q4 := (still_dec h0 h1 k3 s3).1
  have hbd := nextN_bd (nextE size (nextE size (nextE size e0 b) z16) z16).L z16
  obtain ⟨E, hE⟩ : ∃ E, nextE size (nextE size (nextE size (nextE size e0 b) z16) z16) z16 = E := ⟨_, rfl⟩
  rw [hE] at k4 s4 q4 ⊢
  obtain ⟨n', i1, i2, i3, i4, i5⟩ := quiet_all h0 h1 56 E _ 4194304 k4 s4 q4 hbd
  have hf : fades (16 * 56) 4194304 = 0 := by decide +kernel
  rw [hf] at i4 i5
  have hn : n' = 0 := by omega
  rw [hn] at i3
  rw [(still_dec h0 h1 i1 i2).2, i3, (quiet_next 0).2]
  exact sound_zero
theorem silent_end {size : Nat} (h0 : 10 ≤ size) (h1 : size ≤ 32) {b : List Int} (hb : S16 b) : outE size (allE size e0 (b :: List.replicate 59 z16)).2 z16 = z16 := silent_end' h0 h1 hb
/-- Frames of noughts from the first on. -/
theorem silent_next {size : Nat} (h0 : 10 ≤ size) (h1 : size ≤ 32) : nextE size e0 z16 = e0 ∧ outE size e0 z16 = z16 := by
  have hs : Still e0 := ⟨rfl, rfl⟩
  have hd := still_dec h0 h1 e0_ok hs
  have eq0 : e0.L = quiet 0 := by decide +kernel
  have hln : layN 0 z16 = 0 := by decide +kernel
  rw [eq0, (quiet_next 0).1, (quiet_next 0).2, hln] at hd
  constructor
  · have e1 : (nextE size e0 z16).L = e0.L := by rw [hd.1, eq0]
    have e2 := next_still (size := size) hs.2
    have e3 : ∀ a b : ESt, a.P = b.P → a.last = b.last → a.L = b.L → a = b := by
      intro a b h1 h2 h3
      cases a; cases b
      simp only at h1 h2 h3
      subst h1 h2 h3; rfl
    exact e3 _ _ e2.1 e2.2 e1
  · rw [hd.2]; exact sound_zero
theorem silent_all {size : Nat} (h0 : 10 ≤ size) (h1 : size ≤ 32) (k : Nat) : (allE size e0 (List.replicate k z16)).2 = e0 := by
  induction k with
  | zero => rfl
  | succ k ih => rw [allE_rep, (silent_next h0 h1).1, ih]
end Go.Proofs.YtkoljgmapclhkaaGreatDoor

namespace Go.Proofs.YtkoljgmapclhkaaGreatDoor
open Go.RowKit

theorem info_Block : (Tryz.prog.info? 26).map (fun i => (i.zero, i.size, i.bytes)) = some (some (.agg #[.int .i64 0, .int .i64 0, .int .i64 0, .int .i64 0, .int .i64 0, .int .i64 0, .int .i64 0, .int .i64 0, .int .i64 0, .int .i64 0, .int .i64 0, .int .i64 0, .int .i64 0, .int .i64 0, .int .i64 0, .int .i64 0]), 16, 128) := by kernel_rfl
theorem flatB_one (l : List (List Int)) : ∀ u ∈ l.flatMap intsV, u.oneCell' = true := by
  intro u hu
  obtain ⟨b, _, hb⟩ := List.mem_flatMap.1 hu
  exact ints_one b u hb
/-- A load of what lies in the midst of a block. -/
theorem ldr {ops : Array Oper} {rest : List Oper} {op : Oper} {a : Act} {w : World} {Q : Exit → Act → World → Prop} (ty : TypeId) {x : Operand} (ho : op.op = .load ty x) (hwd : Region.wanted op (yielded ops a.tmps) = true) {n : Nat} (hW : Whole ty n)
    {b o : Nat} (hx : a.eval x = .pointer (some ⟨b, o, none⟩)) {cs : Array Value} (hb : w.rangeAt b o cs.toList) (hs : cs.size = n) (h : wpList Tryz.prog ops Q rest (a.put op.dst (.agg cs)) w) : wpList Tryz.prog ops Q (op :: rest) a w :=
  wpList_step fun _ hK => by
    rw [if_pos hwd]
    obtain ⟨d, hu, hd, hi⟩ := hW
    exact wp_load_mid ty x ho b o hx cs.toList d hb hu hd (by rw [hi, Array.length_toList, hs]) (by simpa using hK _ _ h)
theorem yieldsIf_neq {ops : Array Oper} {S : World → Prop} {op : Oper} {a : Act} (hw : Region.wanted op (yielded ops a.tmps) = true) (t : TypeId) {t2 : TypeId} {x y : Operand} (ho : op.op = .binOp .neq t x y t2)
    {xs ys : Array Value} (hx : a.eval x = .agg xs) (hy : a.eval y = .agg ys) (hg : Tryz.prog.eqGuardType Tryz.prog.depth t = false) {b : Bool} (he : ∀ w, (Op.equalIn 10000 t (.agg xs) (.agg ys)).run Tryz.prog w = .ok b w) : YieldsIf Tryz.prog ops S op (.bool (!b)) a :=
  .inl ⟨hw, fun w _ => by
    unfold execOp
    simp only [ho, hx, hy, Sem.run_bind, run_eqGuard_agg w .neq t x y xs ys hg, Result.andThen_ok, run_neq_struct, he]
    rfl⟩
theorem yieldsIf_eql {ops : Array Oper} {S : World → Prop} {op : Oper} {a : Act} (hw : Region.wanted op (yielded ops a.tmps) = true) (t : TypeId) {t2 : TypeId} {x y : Operand} (ho : op.op = .binOp .eql t x y t2)
    {xs ys : Array Value} (hx : a.eval x = .agg xs) (hy : a.eval y = .agg ys) (hg : Tryz.prog.eqGuardType Tryz.prog.depth t = false) {b : Bool} (he : ∀ w, (Op.equalIn 10000 t (.agg xs) (.agg ys)).run Tryz.prog w = .ok b w) : YieldsIf Tryz.prog ops S op (.bool b) a :=
  .inl ⟨hw, fun w _ => by
    unfold execOp
    simp only [ho, hx, hy, Sem.run_bind, run_eqGuard_agg w .eql t x y xs ys hg, Result.andThen_ok, run_eql_struct, he]
    rfl⟩
theorem eg_Block : Tryz.prog.eqGuardType Tryz.prog.depth 26 = false := by kernel_rfl
theorem eg_State : Tryz.prog.eqGuardType Tryz.prog.depth 29 = false := by kernel_rfl
theorem eq_block_self {b : List Int} (h : b.length = 16) (w : World) : (Op.equalIn 10000 26 (.agg (arrV b)) (.agg (arrV b))).run Tryz.prog w = .ok true w := by
  have := eq_block b b h h w
  rwa [beq_self_eq_true] at this
/-- A slice of blocks that is read. -/
def BS (W : World) (lo hi : Nat) (p : Option Addr) (cap : Nat) (A : List (List Int)) : Prop := SL W lo hi 16 p A.length cap (A.flatMap intsV)
theorem BS.get {W : World} {lo hi : Nat} {p : Option Addr} {cap : Nat} {A : List (List Int)} (h : BS W lo hi p cap A) (hA : ∀ b ∈ A, b.length = 16) {i : Nat} {b : List Int} (he : A[i]? = some b) : ∃ g o, p = some ⟨g, o, none⟩ ∧ lo ≤ g ∧ g < hi ∧ W.rangeAt g (o + i * 16) (intsV b) := by
  have hi : i < A.length := (List.getElem?_eq_some_iff.1 he).1
  obtain ⟨g, o, hp, h1, h2, h3⟩ := h.form (by omega)
  refine ⟨g, o, hp, h1, h2, fun j u hu => ?_⟩
  have hb := hA b (List.mem_of_getElem? he)
  have hj : j < 16 := by have := (List.getElem?_eq_some_iff.1 hu).1; rw [List.length_map, hb] at this; exact this
  rw [Nat.add_assoc]
  exact h3 _ u ((flat_get _ A (fun b hb => by rw [List.length_map]; exact hA b hb) he hj).trans hu)
theorem range_below {W W' : World} {g o n : Nat} {cs : List Value} (h : W.rangeAt g o cs) (hb : Below n W W') (hg : g < n) : W'.rangeAt g o cs := fun j v hv => (hb.cell (p := ⟨g, o + j, none⟩) hg).trans (h j v hv)
/-- A block that lies apart from a row is kept by an append to that row. -/
theorem Blk.apart {W W' : World} {base hi size n b : Nat} {e t : TypeId} {v : Value} {xs : List Value} {cs : Array Value} (h : Blk W b cs t) (ho : OW W base hi e size v n xs) (hg : W.grownBy W' v.ownBlock) (hb : b < base ∨ hi ≤ b) : Blk W' b cs t :=
  h.kept hg (fun e => by have h1 := (World.ownsRow.lt ho.1 b e.symm).1; have h2 := ho.2.1 b e.symm; omega)
/-- A load of what lies in the midst of a block. -/
theorem wp_ldr {op : Oper} {a : Act} {w : World} {K : Act → World → Prop} {Q : Exit → Act → World → Prop} (ty : TypeId) {x : Operand} (ho : op.op = .load ty x) {n : Nat} (hW : Whole ty n)
    {b o : Nat} (hx : a.eval x = .pointer (some ⟨b, o, none⟩)) {cs : Array Value} (hb : w.rangeAt b o cs.toList) (hs : cs.size = n) (h : K (a.put op.dst (.agg cs)) w) : op.wp Tryz.prog a w K Q := by
  obtain ⟨d, hu, hd, hi⟩ := hW
  exact wp_load_mid ty x ho b o hx cs.toList d hb hu hd (by rw [hi, Array.length_toList, hs]) (by simpa using h)
theorem yieldsIf_ldr {ops : Array Oper} {S : World → Prop} {op : Oper} {a : Act} (hw : Region.wanted op (yielded ops a.tmps) = true) (ty : TypeId) {x : Operand} (ho : op.op = .load ty x) {n : Nat} (hW : Whole ty n)
    {b o : Nat} (hx : a.eval x = .pointer (some ⟨b, o, none⟩)) {cs : Array Value} (hb : ∀ w, S w → w.rangeAt b o cs.toList) (hs : cs.size = n) : YieldsIf Tryz.prog ops S op (.agg cs) a := by
  obtain ⟨d, hu, hd, hi⟩ := hW
  have h := yieldsIf_load_mid (P := Tryz.prog) (ops := ops) (S := S) hw ty x ho b o hx cs.toList d hb hu hd (by rw [hi, Array.length_toList, hs])
  simpa using h
end Go.Proofs.YtkoljgmapclhkaaGreatDoor

namespace Go.Proofs.YtkoljgmapclhkaaGreatDoor
open Go.RowKit

abbrev bandE : Array Value := #[.int .i64 0, .int .i64 2, .int .i64 4, .int .i64 8, .int .i64 16]
def strsV (l : List ByteArray) : List Value := l.map Value.string
theorem strs_one (l : List ByteArray) : ∀ u ∈ strsV l, u.oneCell' = true := by
  intro u hu
  obtain ⟨s, _, rfl⟩ := List.mem_map.1 hu
  rfl
theorem strs_app (a b : List ByteArray) : strsV (a ++ b) = strsV a ++ strsV b := by unfold strsV; exact List.map_append
theorem info_string : (Tryz.prog.info? 9).map (fun i => (i.zero, i.size, i.bytes)) = some (some (.string ⟨#[]⟩), 1, 16) := by kernel_rfl
theorem el_string : ElemT 9 1 := ⟨fun _ => by kernel_rfl, .string ⟨#[]⟩, fun _ => by kernel_rfl, by kernel_rfl⟩
theorem z55_eq : ((List.toArray (Value.int .i64 0 :: Value.int .i64 0 :: Value.int .i64 0 :: Value.int .i64 0 :: Value.int .i64 0 :: Value.int .i64 0 :: Value.int .i64 0 :: Value.int .i64 0 :: Value.int .i64 0 :: Value.int .i64 0 :: Value.int .i64 0 :: Value.int .i64 0 :: Value.int .i64 0 :: Value.int .i64 0 :: Value.int .i64 0 :: Value.int .i64 0 :: Value.int .i64 0 :: Value.int .i64 0 :: Value.int .i64 0 :: Value.int .i64 0 :: Value.int .i64 0 :: Value.int .i64 0 :: Value.int .i64 0 :: Value.int .i64 0 :: Value.int .i64 0 :: Value.int .i64 0 :: Value.int .i64 0 :: Value.int .i64 0 :: Value.int .i64 0 :: Value.int .i64 0 :: Value.int .i64 0 :: Value.int .i64 0 :: Value.int .i64 0 :: Value.int .i64 0 :: Value.int .i64 0 :: Value.int .i64 0 :: Value.int .i64 0 :: Value.int .i64 0 :: Value.int .i64 0 :: Value.int .i64 0 :: Value.int .i64 0 :: Value.int .i64 0 :: Value.int .i64 0 :: Value.int .i64 0 :: Value.int .i64 0 :: Value.int .i64 0 :: Value.int .i64 0 :: Value.int .i64 0 :: Value.int .i64 0 :: Value.int .i64 0 :: Value.int .i64 0 :: Value.int .i64 0 :: Value.int .i64 0 :: Value.int .i64 0 :: Value.int .i64 0 :: [])) : Array Value) = arrV e0.l := by kernel_rfl
theorem e0_zs : arrV e0.l = arrV (zs 55) := by kernel_rfl
theorem est_len {e : ESt} (h : e.Ok) : e.l.length = 55 := encL_len e.last h.1 h.2.1
theorem nextE_l (size : Nat) (e : ESt) (b : List Int) : (nextE size e b).l = encL (liftL e.last b) (liftN e.last b) (decSt e.L (packE size e b)) := by unfold ESt.l; rw [nextE_L, nextE_P, nextE_last]
/-- A frame encoded. -/
theorem EncodeE_any {size : Nat} (h0 : 10 ≤ size) (h1 : size ≤ 32) {e : ESt} (he : e.Ok) {b : List Int} (hb : S16 b) (w : World) (hW : BandsW w) :
    Calls Tryz.prog 31 #[.agg (arrV e.l), .agg (arrV b), .int .i64 size] w fun r w' => r = .returned (.tuple #[.string (packE size e b), .agg (arrV (nextE size e b).l), .int .i64 0]) ∧ Below w.heap.size w w' := by
  rw [nextE_l, packE_eq]
  exact Encode_good e.P e.L b e.last he.1 he.2.1 hb.1 size h0 h1 he.2.2 (s16_all hb) w hW
/-- A slice of one element of one cell made. -/
theorem fill_one {place : Nat → Option (Nat × Nat)} {u v : Value} (hp : place 0 = some (0, 1)) (hv : v.cells = #[v]) : Instr.fill place #[u] [(0, v)] = some #[v] := by
  simp [Instr.fill, hp, hv]
theorem run_bs1v {t e : TypeId} (ht : Tryz.prog.underlying t = some (.slice e)) (he : ElemT e 1) {v : Value} (hv : v.cells = #[v]) (w : World) :
    (Instr.buildSlice t 1 #[(0, v)]).run Tryz.prog w = .ok (.slice (some ⟨w.heap.size, 0, none⟩) 1 1) (w.alloc (.cells #[v] e)) := by
  obtain ⟨hs, z, hz, hzs⟩ := he
  have hf : ∀ l : Array Value, l.size = 1 → Instr.fill (fun i => some (i, 1)) l [(0, v)] = some #[v] := by
    intro l hl
    obtain ⟨l⟩ := l
    match l, hl with
    | [u], _ => exact fill_one rfl hv
  unfold Instr.buildSlice
  simp only [Sem.run_bind, run_underlying ht, Result.andThen_ok, hs, hz, if_neg (show ¬ 1 * 1 > 2 ^ 24 by omega), if_neg (show ¬ 1 * 1 = 0 by omega)]
  simp [hz, hf, newRow, Result.andThen]
theorem wp_bs1v {op : Oper} {a : Act} {w : World} {K : Act → World → Prop} {Q : Exit → Act → World → Prop} (t : TypeId) {x : Operand} (ho : op.op = .buildSlice t 1 #[(0, x)]) {v : Value} (hx : a.eval x = v) (hv : v.cells = #[v])
    {e : TypeId} (ht : Tryz.prog.underlying t = some (.slice e)) (he : ElemT e 1)
    (h : ∀ b w', b = w.heap.size → Blk w' b #[v] e → Below w.heap.size w w' → b < w'.heap.size → K (a.put op.dst (.slice (some ⟨b, 0, none⟩) 1 1)) w') : op.wp Tryz.prog a w K Q := by
  have hr := run_bs1v ht he hv w
  have hh := h _ _ rfl (Blk.newAt rfl) ((Below.refl _ _).alloc (Nat.le_refl _) (.cells #[v] e)) (by rw [World.size_alloc]; omega)
  unfold Oper.wp execOp
  simp only [ho, List.map_toArray, List.map_cons, List.map_nil, hx, Sem.run_bind, hr, Result.andThen_ok]
  exact hh
/-- What All answers. -/
def RetSS (w : World) (r : List ByteArray × ESt) (e : Ending) (w' : World) : Prop :=
  ∃ v, e = .returned (.tuple #[v, .agg (arrV r.2.l), .int .i64 0]) ∧ OW w' w.heap.size w'.heap.size 9 1 v r.1.length (strsV r.1) ∧ Below w.heap.size w w'
set_option maxRecDepth 100000 in
set_option maxHeartbeats 4000000 in
theorem All_any {size : Nat} (h0 : 10 ≤ size) (h1 : size ≤ 32) (l : List (List Int)) (hl : l.length ≤ 1000) (hS : ∀ b ∈ l, S16 b) (p : Option Addr) (lo hi cap : Nat) (w : World) (hW : BandsW w) (hB : SL w lo hi 16 p l.length cap (l.flatMap intsV)) :
    Calls Tryz.prog 10 #[.slice p l.length cap, .int .i64 size] w (RetSS w (allE size e0 l)) := by
  obtain ⟨i0, hif, hz0, hz1, hz2⟩ := info_parts info_string
  have hz55 : ((List.toArray (Value.int .i64 0 :: Value.int .i64 0 :: Value.int .i64 0 :: Value.int .i64 0 :: Value.int .i64 0 :: Value.int .i64 0 :: Value.int .i64 0 :: Value.int .i64 0 :: Value.int .i64 0 :: Value.int .i64 0 :: Value.int .i64 0 :: Value.int .i64 0 :: Value.int .i64 0 :: Value.int .i64 0 :: Value.int .i64 0 :: Value.int .i64 0 :: Value.int .i64 0 :: Value.int .i64 0 :: Value.int .i64 0 :: Value.int .i64 0 :: Value.int .i64 0 :: Value.int .i64 0 :: Value.int .i64 0 :: Value.int .i64 0 :: Value.int .i64 0 :: Value.int .i64 0 :: Value.int .i64 0 :: Value.int .i64 0 :: Value.int .i64 0 :: Value.int .i64 0 :: Value.int .i64 0 :: Value.int .i64 0 :: Value.int .i64 0 :: Value.int .i64 0 :: Value.int .i64 0 :: Value.int .i64 0 :: Value.int .i64 0 :: Value.int .i64 0 :: Value.int .i64 0 :: Value.int .i64 0 :: Value.int .i64 0 :: Value.int .i64 0 :: Value.int .i64 0 :: Value.int .i64 0 :: Value.int .i64 0 :: Value.int .i64 0 :: Value.int .i64 0 :: Value.int .i64 0 :: Value.int .i64 0 :: Value.int .i64 0 :: Value.int .i64 0 :: Value.int .i64 0 :: Value.int .i64 0 :: Value.int .i64 0 :: Value.int .i64 0 :: [])) : Array Value).size = 55 := by rfl
  have hBW : Blk w 0 bandE 164 := hW
  have hB0 := hW.lt
  have hhi := hB.2.2.2.1
  have hcap := hB.2.1
  have hcm := hB.2.2.1
  unfold maxLen at hcm
  have hQ := hB
  obtain ⟨n, hn⟩ : ∃ n, l.length = n := ⟨_, rfl⟩
  rw [hn] at hl hcap hQ ⊢
  have HN := Lib.hid hn
  have HS := Lib.hid hS
  have hen := fun e he b hb w hW => @EncodeE_any size h0 h1 e he b hb w hW
  have HEN := Lib.hid hen
  have hok := fun k => allE_ok h0 h1 (l.take k) e0 e0_ok (fun b hb => hS b (List.mem_of_mem_take hb))
  have HOK := Lib.hid hok
  clear hW hn hB hS hen hok
  obtain ⟨B, hB⟩ : ∃ B, w.heap.size = B := ⟨_, rfl⟩
  rw [hB] at hB0 hhi
  have hfar := Below.refl B w
  have hsz : B ≤ w.heap.size := by omega
  go_enter Tryz.func10, Tryz.ntmps10
  go_upto_region 3 with (fail)
  refine wp_gen (fun W => Blk W (0) (bandE) 164 ∧ SL W (lo) (hi) (16) (p) (n) (cap) (l.flatMap intsV) ∧ Blk W (B) ((List.toArray (Value.int .i64 0 :: Value.int .i64 0 :: Value.int .i64 0 :: Value.int .i64 0 :: Value.int .i64 0 :: Value.int .i64 0 :: Value.int .i64 0 :: Value.int .i64 0 :: Value.int .i64 0 :: Value.int .i64 0 :: Value.int .i64 0 :: Value.int .i64 0 :: Value.int .i64 0 :: Value.int .i64 0 :: Value.int .i64 0 :: Value.int .i64 0 :: Value.int .i64 0 :: Value.int .i64 0 :: Value.int .i64 0 :: Value.int .i64 0 :: Value.int .i64 0 :: Value.int .i64 0 :: Value.int .i64 0 :: Value.int .i64 0 :: Value.int .i64 0 :: Value.int .i64 0 :: Value.int .i64 0 :: Value.int .i64 0 :: Value.int .i64 0 :: Value.int .i64 0 :: Value.int .i64 0 :: Value.int .i64 0 :: Value.int .i64 0 :: Value.int .i64 0 :: Value.int .i64 0 :: Value.int .i64 0 :: Value.int .i64 0 :: Value.int .i64 0 :: Value.int .i64 0 :: Value.int .i64 0 :: Value.int .i64 0 :: Value.int .i64 0 :: Value.int .i64 0 :: Value.int .i64 0 :: Value.int .i64 0 :: Value.int .i64 0 :: Value.int .i64 0 :: Value.int .i64 0 :: Value.int .i64 0 :: Value.int .i64 0 :: Value.int .i64 0 :: Value.int .i64 0 :: Value.int .i64 0 :: Value.int .i64 0 :: Value.int .i64 0 :: []))) 31 ∧ Blk W (B + 1) ((List.toArray (Value.int .i64 0 :: Value.int .i64 0 :: Value.int .i64 0 :: Value.int .i64 0 :: Value.int .i64 0 :: Value.int .i64 0 :: Value.int .i64 0 :: Value.int .i64 0 :: Value.int .i64 0 :: Value.int .i64 0 :: Value.int .i64 0 :: Value.int .i64 0 :: Value.int .i64 0 :: Value.int .i64 0 :: Value.int .i64 0 :: Value.int .i64 0 :: Value.int .i64 0 :: Value.int .i64 0 :: Value.int .i64 0 :: Value.int .i64 0 :: Value.int .i64 0 :: Value.int .i64 0 :: Value.int .i64 0 :: Value.int .i64 0 :: Value.int .i64 0 :: Value.int .i64 0 :: Value.int .i64 0 :: Value.int .i64 0 :: Value.int .i64 0 :: Value.int .i64 0 :: Value.int .i64 0 :: Value.int .i64 0 :: Value.int .i64 0 :: Value.int .i64 0 :: Value.int .i64 0 :: Value.int .i64 0 :: Value.int .i64 0 :: Value.int .i64 0 :: Value.int .i64 0 :: Value.int .i64 0 :: Value.int .i64 0 :: Value.int .i64 0 :: Value.int .i64 0 :: Value.int .i64 0 :: Value.int .i64 0 :: Value.int .i64 0 :: Value.int .i64 0 :: Value.int .i64 0 :: Value.int .i64 0 :: Value.int .i64 0 :: Value.int .i64 0 :: Value.int .i64 0 :: Value.int .i64 0 :: Value.int .i64 0 :: Value.int .i64 0 :: []))) 31 ∧ Below (B) w W ∧ B + 2 ≤ W.heap.size) ⟨bk_, sl_, bk_, bk_, bl_, sz_⟩ ?_
  clear hBW hQ hfar hsz
  rintro w1 ⟨hBW, hQ, hO, hE, hfar, hsz⟩
  rw [z55_eq] at hE
  go_wp2_with fail
  go_loopw [7, 16] (fun v i wr => ∃ (k : Nat), k ≤ n ∧ i = .int .i64 k ∧ Blk wr 0 bandE 164 ∧ SL wr lo hi 16 p n cap (l.flatMap intsV) ∧ Blk wr B (List.toArray (Value.int .i64 0 :: Value.int .i64 0 :: Value.int .i64 0 :: Value.int .i64 0 :: Value.int .i64 0 :: Value.int .i64 0 :: Value.int .i64 0 :: Value.int .i64 0 :: Value.int .i64 0 :: Value.int .i64 0 :: Value.int .i64 0 :: Value.int .i64 0 :: Value.int .i64 0 :: Value.int .i64 0 :: Value.int .i64 0 :: Value.int .i64 0 :: Value.int .i64 0 :: Value.int .i64 0 :: Value.int .i64 0 :: Value.int .i64 0 :: Value.int .i64 0 :: Value.int .i64 0 :: Value.int .i64 0 :: Value.int .i64 0 :: Value.int .i64 0 :: Value.int .i64 0 :: Value.int .i64 0 :: Value.int .i64 0 :: Value.int .i64 0 :: Value.int .i64 0 :: Value.int .i64 0 :: Value.int .i64 0 :: Value.int .i64 0 :: Value.int .i64 0 :: Value.int .i64 0 :: Value.int .i64 0 :: Value.int .i64 0 :: Value.int .i64 0 :: Value.int .i64 0 :: Value.int .i64 0 :: Value.int .i64 0 :: Value.int .i64 0 :: Value.int .i64 0 :: Value.int .i64 0 :: Value.int .i64 0 :: Value.int .i64 0 :: Value.int .i64 0 :: Value.int .i64 0 :: Value.int .i64 0 :: Value.int .i64 0 :: Value.int .i64 0 :: Value.int .i64 0 :: Value.int .i64 0 :: Value.int .i64 0 :: Value.int .i64 0 :: [])) 31 ∧ Blk wr (B + 1) (arrV (allE size e0 (l.take k)).2.l) 31 ∧ OW wr (B + 2) wr.heap.size 9 1 v k (strsV (allE size e0 (l.take k)).1) ∧ Below B w wr ∧ B + 2 ≤ wr.heap.size) (fun _ i _ => n - (intOf i).toNat)
  case atStart => exact ⟨0, by omega, rfl, hBW, hQ, hO, hE, OW.nil _ _ _ _ _ (Nat.le_refl _), hfar, hsz⟩
  case round =>
    clear hBW hQ hO hE hfar hsz
    obtain ⟨k, hk, rfl, hBW, hQ, hO, hE, hOW, hfar, hsz⟩ := hrel
    by_cases hlt : k < n
    · have hkl : k < l.length := by rw [HN.out]; exact hlt
      obtain ⟨b, he⟩ : ∃ b, l[k]? = some b := ⟨_, List.getElem?_eq_getElem hkl⟩
      have hb := HS.out b (List.mem_of_getElem? he)
      have LB := Len.mk hb.1
      have hES : BS wr lo hi p cap l := by unfold BS; rw [HN.out]; exact hQ
      obtain ⟨g, o, rfl, hb1, hb2, hr⟩ := hES.get (fun b hb => (HS.out b hb).1) he
      obtain ⟨hp1, hp2⟩ := @allE_get size l e0 k b he
      have hq1 : (allE size e0 (l.take (k + 1))).1 = (allE size e0 (l.take k)).1 ++ [packE size (allE size e0 (l.take k)).2 b] := by
        rw [List.take_add_one, he, Option.toList_some, allE_app]; rfl
      have hokk := (HOK.out k).1
      have hcall := fun w hW => HEN.out _ hokk b hb w hW
      have hnx := (HOK.out (k + 1)).1
      rw [hp2] at hnx
      have LE := Len.mk (est_len hokk)
      have LX := Len.mk (est_len hnx)
      obtain ⟨P, hP⟩ : ∃ P, packE size (allE size e0 (l.take k)).2 b = P := ⟨_, rfl⟩
      obtain ⟨X, hX⟩ : ∃ X, nextE size (allE size e0 (l.take k)).2 b = X := ⟨_, rfl⟩
      rw [hX] at hp2 LX
      rw [hP] at hq1
      simp only [hP, hX] at hcall
      rw [← hp2] at LX hcall
      obtain ⟨XL, hXL⟩ : ∃ X, (allE size e0 (l.take (k + 1))).2.l = X := ⟨_, rfl⟩
      obtain ⟨EL, hEL⟩ : ∃ X, (allE size e0 (l.take k)).2.l = X := ⟨_, rfl⟩
      obtain ⟨Z, hZ⟩ : ∃ X, (allE size e0 (l.take k)).1 = X := ⟨_, rfl⟩
      simp only [hXL, hEL] at hcall
      rw [hXL] at LX
      rw [hEL] at LE hE
      rw [hZ] at hq1 hOW
      have HXL := Lib.hid hXL
      have HQ1 := Lib.hid hq1
      have HC := Lib.hid hcall
      have hra : wr.rangeAt g (o + k * 16) (arrV b).toList := by simpa using hr
      clear hXL hEL hZ hq1 hcall hP hX hp1 hp2 hES he hb hr hkl hokk hnx
      obtain ⟨N, hN⟩ : ∃ N, wr.heap.size = N := ⟨_, rfl⟩
      rw [hN] at hOW
      have hBN : B + 2 ≤ N := by omega
      have hvb : ∀ j, u7.ownBlock = some j → B + 2 ≤ j ∧ j < N := fun j hj => ⟨(World.ownsRow.lt hOW.1 j hj).1, hOW.2.1 j hj⟩
      have HVB := Lib.hid hvb
      clear hvb
      go_upto_region 6 with (first | (refine ldr 26 rfl (by rfl) w_Block rfl hra LB.sz ?_) | (first | (refine bd 29 rfl (by rfl) rfl state_zs ?_) | (refine bd 26 rfl (by rfl) rfl block_zs ?_) | (refine ld 29 rfl (by rfl) w_State rfl bk_ lz_ ?_) | (refine ld 26 rfl (by rfl) w_Block rfl bk_ lz_ ?_) | (refine ldp 26 rfl (by rfl) w_Block rfl bk_ ln_ (by omega) ?_) | (refine ld 27 rfl (by rfl) w_Four rfl bk_ lz_ ?_) | (refine ldp 27 rfl (by rfl) w_Four rfl bk_ ln_ (by omega) ?_) | (refine st 29 rfl (by rfl) w_State rfl rfl bk_ lz_ lz_ one_ ?_) | (refine st 26 rfl (by rfl) w_Block rfl rfl bk_ lz_ lz_ one_ ?_) | (refine st 27 rfl (by rfl) w_Four rfl rfl bk_ lz_ lz_ one_ ?_)))
      refine wp_gen (fun W => Blk W (0) (bandE) 164 ∧ SL W (lo) (hi) (16) (some ⟨g, o, none⟩) (n) (cap) (l.flatMap intsV) ∧ Blk W (B) ((List.toArray (Value.int .i64 0 :: Value.int .i64 0 :: Value.int .i64 0 :: Value.int .i64 0 :: Value.int .i64 0 :: Value.int .i64 0 :: Value.int .i64 0 :: Value.int .i64 0 :: Value.int .i64 0 :: Value.int .i64 0 :: Value.int .i64 0 :: Value.int .i64 0 :: Value.int .i64 0 :: Value.int .i64 0 :: Value.int .i64 0 :: Value.int .i64 0 :: Value.int .i64 0 :: Value.int .i64 0 :: Value.int .i64 0 :: Value.int .i64 0 :: Value.int .i64 0 :: Value.int .i64 0 :: Value.int .i64 0 :: Value.int .i64 0 :: Value.int .i64 0 :: Value.int .i64 0 :: Value.int .i64 0 :: Value.int .i64 0 :: Value.int .i64 0 :: Value.int .i64 0 :: Value.int .i64 0 :: Value.int .i64 0 :: Value.int .i64 0 :: Value.int .i64 0 :: Value.int .i64 0 :: Value.int .i64 0 :: Value.int .i64 0 :: Value.int .i64 0 :: Value.int .i64 0 :: Value.int .i64 0 :: Value.int .i64 0 :: Value.int .i64 0 :: Value.int .i64 0 :: Value.int .i64 0 :: Value.int .i64 0 :: Value.int .i64 0 :: Value.int .i64 0 :: Value.int .i64 0 :: Value.int .i64 0 :: Value.int .i64 0 :: Value.int .i64 0 :: Value.int .i64 0 :: Value.int .i64 0 :: Value.int .i64 0 :: Value.int .i64 0 :: []))) 31 ∧ Blk W (B + 1) (arrV EL) 31 ∧ OW W (B + 2) (N) (9) (1) (u7) (k) (strsV Z) ∧ Blk W (N) (arrV b) 26 ∧ Below (B) w W ∧ N + 1 ≤ W.heap.size) ⟨bk_, sl_, bk_, bk_, ow_, bk_, bl_, sz_⟩ ?_
      clear hBW hQ hO hE hOW hfar hsz
      rintro w2 ⟨hBW, hQ, hO, hE, hOW, hb, hfar, hsz⟩
      go_wp2_with (first | (refine ld 31 rfl (by rfl) w_EEnc rfl hE LE.sz ?_) | (first | (refine bd 29 rfl (by rfl) rfl state_zs ?_) | (refine bd 26 rfl (by rfl) rfl block_zs ?_) | (refine ld 29 rfl (by rfl) w_State rfl bk_ lz_ ?_) | (refine ld 26 rfl (by rfl) w_Block rfl bk_ lz_ ?_) | (refine ldp 26 rfl (by rfl) w_Block rfl bk_ ln_ (by omega) ?_) | (refine ld 27 rfl (by rfl) w_Four rfl bk_ lz_ ?_) | (refine ldp 27 rfl (by rfl) w_Four rfl bk_ ln_ (by omega) ?_) | (refine st 29 rfl (by rfl) w_State rfl rfl bk_ lz_ lz_ one_ ?_) | (refine st 26 rfl (by rfl) w_Block rfl rfl bk_ lz_ lz_ one_ ?_) | (refine st 27 rfl (by rfl) w_Four rfl rfl bk_ lz_ lz_ one_ ?_)))
      refine (HC.out _ hBW).mono ?_
      rintro e w3 ⟨rfl, hb3⟩
      replace hBW := hBW.newB hb3
      replace hQ := hQ.newB hb3
      replace hO := hO.newB hb3
      replace hE := hE.newB hb3
      replace hOW := hOW.newB hb3
      replace hb := hb.newB hb3
      replace hfar := hfar.trans (hb3.mono (by omega))
      replace hsz := Nat.le_trans hsz hb3.size
      obtain ⟨M, hM⟩ : ∃ M, w3.heap.size = M := ⟨_, rfl⟩
      have hNM : N + 1 ≤ M := by omega
      go_upto_region 9 with (refine st 31 rfl (by rfl) w_EEnc rfl rfl bk_ hz55 LX.sz one_ ?_)
      refine wp_gen (fun W => Blk W (0) (bandE) 164 ∧ SL W (lo) (hi) (16) (some ⟨g, o, none⟩) (n) (cap) (l.flatMap intsV) ∧ Blk W (B) ((List.toArray (Value.int .i64 0 :: Value.int .i64 0 :: Value.int .i64 0 :: Value.int .i64 0 :: Value.int .i64 0 :: Value.int .i64 0 :: Value.int .i64 0 :: Value.int .i64 0 :: Value.int .i64 0 :: Value.int .i64 0 :: Value.int .i64 0 :: Value.int .i64 0 :: Value.int .i64 0 :: Value.int .i64 0 :: Value.int .i64 0 :: Value.int .i64 0 :: Value.int .i64 0 :: Value.int .i64 0 :: Value.int .i64 0 :: Value.int .i64 0 :: Value.int .i64 0 :: Value.int .i64 0 :: Value.int .i64 0 :: Value.int .i64 0 :: Value.int .i64 0 :: Value.int .i64 0 :: Value.int .i64 0 :: Value.int .i64 0 :: Value.int .i64 0 :: Value.int .i64 0 :: Value.int .i64 0 :: Value.int .i64 0 :: Value.int .i64 0 :: Value.int .i64 0 :: Value.int .i64 0 :: Value.int .i64 0 :: Value.int .i64 0 :: Value.int .i64 0 :: Value.int .i64 0 :: Value.int .i64 0 :: Value.int .i64 0 :: Value.int .i64 0 :: Value.int .i64 0 :: Value.int .i64 0 :: Value.int .i64 0 :: Value.int .i64 0 :: Value.int .i64 0 :: Value.int .i64 0 :: Value.int .i64 0 :: Value.int .i64 0 :: Value.int .i64 0 :: Value.int .i64 0 :: Value.int .i64 0 :: Value.int .i64 0 :: Value.int .i64 0 :: []))) 31 ∧ Blk W (B + 1) (arrV EL) 31 ∧ OW W (B + 2) (N) (9) (1) (u7) (k) (strsV Z) ∧ Blk W (N) (arrV b) 26 ∧ Blk W (M) (arrV XL) 31 ∧ Below (B) w W ∧ M + 1 ≤ W.heap.size) ⟨bk_, sl_, bk_, bk_, ow_, bk_, bk_, bl_, sz_⟩ ?_
      clear hBW hQ hO hE hOW hb hfar hsz
      rintro w4 ⟨hBW, hQ, hO, hE, hOW, hb, hX, hfar, hsz⟩
      refine wp_region_held_drew (S := fun W => Blk W (M) (arrV XL) 31) (by kernel_rfl) (hX.drew) (fun hH => ?_)
      refine tk 0 hH (y := yp) (k := ?_)
      refine tk 1 hH (y := yp) (k := ?_)
      refine tk 4 hH (v := .agg (arrV XL)) (y := (yieldsIf_ld (by rfl) 31 rfl w_EEnc rfl (fun _ hS => hS) zz_)) (k := ?_)
      refine wpAnyH_ready (rs := [2]) (by kernel_rfl) (by simp) ?_
      refine rc (h := fun K hK => ?_) (r := AllReadyH.nil)
      refine wp_bs1v 25 rfl rfl rfl Tryz.underlying25 el_string (fun g5 w5 hg5 hn5 hb5 hs5 => ?_)
      try simp only [World.size_drew] at hg5
      have hX5 := hX.drew.newB hb5
      have hBW5 := hBW.drew.newB hb5
      have hQ5 := hQ.drew.newB hb5
      have hO5 := hO.drew.newB hb5
      have hE5 := hE.drew.newB hb5
      have hOW5 := hOW.drew.newB hb5
      have hfar5 : Below B w w5 := hfar.drew.trans (hb5.mono (by simp only [World.size_drew]; omega))
      have hsl5 := SL.blk hn5 (n := 1) (size := 1) rfl (by unfold maxLen; omega)
      have hsz5 := hb5.size
      simp only [World.size_drew] at hsz5
      refine hK.out _ _ hX5 (fun hH => ?_)
      clear hK K
      try simp only [Act.put, sa, List.set_cons_zero, List.set_cons_succ]
      refine wpAnyH_ready (rs := [3]) (by kernel_rfl) (by simp) ?_
      refine rc (h := fun K hK => ?_) (r := AllReadyH.nil)
      refine wp_append_sl 25 rfl rfl (B + 2) 9 i0 (.string ⟨#[]⟩) 1 16 Tryz.underlying25 hif hz0 hz1 hz2 rfl (by omega) rfl hOW5.1 rfl hsl5 (strs_one [P]) (by unfold maxLen; omega) (by omega) (by omega) (fun v' w6 hown hgr _ => ?_)
      have hX6 := hX5.kept hgr (fun e => by have := HVB.out _ e.symm; omega)
      have hBW6 := hBW5.kept hgr (fun e => by have := HVB.out _ e.symm; omega)
      have hQ6 := hQ5.grown hgr (fun j hj => by have := HVB.out _ hj; omega)
      have hO6 := hO5.kept hgr (fun e => by have := HVB.out _ e.symm; omega)
      have hE6 := hE5.kept hgr (fun e => by have := HVB.out _ e.symm; omega)
      have hfar6 : Below B w w6 := hfar5.grown hgr (by omega) (fun j hj => by have := HVB.out j hj; omega)
      have hs6 := hgr.size
      refine hK.out _ _ hX6 (fun hH => ?_)
      clear hK K
      try simp only [Act.put, sa, List.set_cons_zero, List.set_cons_succ]
      refine tk 5 hH (y := yp) (k := ?_)
      refine wpAnyH_ready (rs := [6]) (by kernel_rfl) (by simp) ?_
      refine rc (h := fun K hK => ?_) (r := AllReadyH.nil)
      refine wp_st 31 rfl w_EEnc rfl rfl hE6 LE.sz LX.sz one_ ?_
      refine hK.out _ _ bk_ (fun hH => ?_)
      clear hK K
      try simp only [Act.put]
      refine wpAnyH_done (by kernel_rfl) ?_ _
      go_wp2_with fail
      go_roundw
      case rel => exact ⟨k + 1, hlt, by go_num, by exact bk_, by exact sl_, by exact bk_, by rw [HXL.out]; exact Blk.setRow hE6, OW.mk0 (own_setRow (by rw [HQ1.out, strs_app]; exact hown) (by omega) _), by exact bl_, by exact sz_⟩
      case measure => simp [intOf]; omega
    · obtain rfl : k = n := by omega
      have ht : l.take k = l := by rw [← HN.out]; exact List.take_length
      have hokk := (HOK.out k)
      rw [ht] at hE hOW hokk
      have LE := Len.mk (est_len hokk.1)
      have hln : (allE size e0 l).1.length = k := by rw [hokk.2.1]; exact HN.out
      obtain ⟨R, hR⟩ : ∃ R, allE size e0 l = R := ⟨_, rfl⟩
      rw [hR] at hE hOW LE hln
      have HR := Lib.hid hR
      have HLN := Lib.hid hln
      clear hR ht hokk hln
      go_upto_region 11 with (fail)
      refine wp_region_held_drew (S := fun W => Blk W (B + 1) (arrV R.2.l) 31) (by kernel_rfl) (hE.drew) (fun hH => ?_)
      refine tk 0 hH (y := yp) (k := ?_)
      refine tk 1 hH (v := .agg (arrV R.2.l)) (y := (yieldsIf_ld (by rfl) 31 rfl w_EEnc rfl (fun _ hS => hS) zz_)) (k := ?_)
      refine tk 2 hH (y := yp) (k := ?_)
      refine wpAnyH_ready (rs := [3]) (by kernel_rfl) (by simp) ?_
      refine rc (h := fun K hK => ?_) (r := AllReadyH.nil)
      refine wp_st 31 rfl w_EEnc rfl rfl hO.drew hz55 LE.sz one_ ?_
      refine hK.out _ _ bk_ (fun hH => ?_)
      clear hK K
      try simp only [Act.put]
      refine tk 4 hH (y := yp) (k := ?_)
      refine wpAnyH_done (by kernel_rfl) ?_ _
      go_wp2_with fail
      exact bodyPost_ret (v := .tuple #[u7, .agg (arrV R.2.l), .int .i64 0]) (res_tct Tryz.results10 rfl rfl w_EEnc (by exact bk_) LE.sz rfl) rfl ⟨u7, by rw [HR.out], by rw [HR.out, HLN.out]; exact OW.mk0 (own_up (own_setRow (own_drew hOW.1) (by omega) _) (by omega)), (by (try rw [hB]); exact bl_)⟩
end Go.Proofs.YtkoljgmapclhkaaGreatDoor
