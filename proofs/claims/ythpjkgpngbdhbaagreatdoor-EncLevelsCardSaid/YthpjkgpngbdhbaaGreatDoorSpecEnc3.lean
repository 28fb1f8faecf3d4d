/- The plain words of frames encoded one behind the other. -/
import Derived.Test.YthpjkgpngbdhbaaGreatDoorEncC
set_option linter.unusedSimpArgs false
set_option linter.unusedVariables false
namespace Go.Proofs.YthpjkgpngbdhbaaGreatDoor

/-- Samples of sixteen digits. -/
def S16 (b : List Int) : Prop := b.length = 16 ∧ ∀ x ∈ b, -32768 ≤ x ∧ x ≤ 32767
theorem cut16_iff (x : Int) : sound16 x = true ↔ -32768 ≤ x ∧ x ≤ 32767 := by
  have e : Sp.cut 16 x = max (min x 32767) (-32768) := rfl
  unfold sound16
  rw [decide_eq_true_iff, e]
  omega
theorem s16_all {b : List Int} (h : S16 b) : b.all sound16 = true := List.all_eq_true.2 fun x hx => (cut16_iff x).2 (h.2 x hx)
/-- An encoder's memory. -/
structure ESt where
  P : List Int
  last : Int
  L : List Int
def ESt.Ok (e : ESt) : Prop := e.P.length = 16 ∧ e.L.length = 38 ∧ rightE e.P e.last e.L = true
def ESt.l (e : ESt) : List Int := encL e.P e.last e.L
def packE (size : Nat) (e : ESt) (b : List Int) : ByteArray := packS size (levL e.L) (wavesL e.P (liftL e.last b))
def nextE (size : Nat) (e : ESt) (b : List Int) : ESt := ⟨liftL e.last b, liftN e.last b, decSt e.L (packE size e b)⟩
theorem liftN_bd : ∀ (l : List Int) (s : Int), (∀ x ∈ l, -32768 ≤ x ∧ x ≤ 32767) → (-32768 ≤ s ∧ s ≤ 32767) → -32768 ≤ l.foldl (fun _ x => Sp.cut 22 x) s ∧ l.foldl (fun _ x => Sp.cut 22 x) s ≤ 32767 := by
  intro l
  induction l with
  | nil => intro s _ h; exact h
  | cons y r ih =>
    intro s hl _
    have hy := hl y List.mem_cons_self
    refine ih _ (fun z hz => hl z (List.mem_cons_of_mem _ hz)) ?_
    show -32768 ≤ Sp.cut 22 y ∧ Sp.cut 22 y ≤ 32767
    rw [cut22_id hy]; exact hy
theorem right_last {e : ESt} (h : e.Ok) : -32768 ≤ e.last ∧ e.last ≤ 32767 := by
  have hr := h.2.2
  unfold rightE at hr
  simp only [Bool.and_eq_true] at hr
  exact (cut16_iff _).1 hr.1.2
theorem right_st {e : ESt} (h : e.Ok) : rightS e.L = true := by
  have hr := h.2.2
  unfold rightE at hr
  simp only [Bool.and_eq_true] at hr
  exact hr.2
theorem packE_size {size : Nat} (h0 : 10 ≤ size) {e : ESt} (h : e.Ok) (b : List Int) : (packE size e b).size = size := packS_size (right_levs4 (right_st h) h.2.1) h0
theorem nextE_ok {size : Nat} (h0 : 10 ≤ size) (h1 : size ≤ 32) {e : ESt} (h : e.Ok) {b : List Int} (hb : S16 b) : (nextE size e b).Ok := by
  have hl := right_last h
  have hs := packE_size h0 h b
  have hg := dec_good e.L (packE size e b) (by rw [hs]; exact ⟨h0, h1⟩) (right_st h)
  obtain ⟨_, _, _, g1, _, g2⟩ := hg
  unfold nextE
  obtain ⟨D, hD⟩ : ∃ D, decSt e.L (packE size e b) = D := ⟨_, rfl⟩
  rw [hD] at g1 g2 ⊢
  refine ⟨(liftL_len e.last b).trans hb.1, g2, ?_⟩
  unfold rightE
  dsimp only
  rw [Bool.and_eq_true, Bool.and_eq_true]
  refine ⟨⟨List.all_eq_true.2 fun x hx => ?_, (cut16_iff _).2 ?_⟩, g1⟩
  · have := liftG_bd b (Sp.cut 22 e.last) hb.2 (by rw [cut22_id hl]; exact hl) x hx
    unfold lifted17
    simp; omega
  · exact liftN_bd b _ hb.2 (by rw [cut22_id hl]; exact hl)
/-- All packets, and the encoder then. -/
def allE (size : Nat) : ESt → List (List Int) → List ByteArray × ESt
  | e, [] => ([], e)
  | e, b :: r => (packE size e b :: (allE size (nextE size e b) r).1, (allE size (nextE size e b) r).2)
theorem allE_cons (size : Nat) (e : ESt) (b : List Int) (r : List (List Int)) : allE size e (b :: r) = (packE size e b :: (allE size (nextE size e b) r).1, (allE size (nextE size e b) r).2) := rfl
theorem allE_ok {size : Nat} (h0 : 10 ≤ size) (h1 : size ≤ 32) : ∀ (l : List (List Int)) (e : ESt), e.Ok → (∀ b ∈ l, S16 b) → (allE size e l).2.Ok ∧ (allE size e l).1.length = l.length ∧ ∀ p ∈ (allE size e l).1, p.size = size := by
  intro l
  induction l with
  | nil => intro e h _; exact ⟨h, rfl, fun p hp => by cases hp⟩
  | cons b r ih =>
    intro e h hl
    obtain ⟨i1, i2, i3⟩ := ih (nextE size e b) (nextE_ok h0 h1 h (hl b List.mem_cons_self)) fun c hc => hl c (List.mem_cons_of_mem _ hc)
    have hps := packE_size h0 h b
    rw [allE_cons]
    obtain ⟨N, hN⟩ : ∃ N, nextE size e b = N := ⟨_, rfl⟩
    rw [hN] at i1 i2 i3 ⊢
    obtain ⟨K, hK⟩ : ∃ K, packE size e b = K := ⟨_, rfl⟩
    rw [hK] at hps ⊢
    clear hK hN
    refine ⟨i1, by simp [i2], fun p hp => ?_⟩
    rcases List.mem_cons.1 hp with rfl | hp
    · exact hps
    · exact i3 p hp
theorem allE_app (size : Nat) : ∀ (l m : List (List Int)) (e : ESt), allE size e (l ++ m) = ((allE size e l).1 ++ (allE size (allE size e l).2 m).1, (allE size (allE size e l).2 m).2) := by
  intro l
  induction l with
  | nil => intro m e; rfl
  | cons b r ih => intro m e; simp only [List.cons_append, allE_cons, ih]
end Go.Proofs.YthpjkgpngbdhbaaGreatDoor
