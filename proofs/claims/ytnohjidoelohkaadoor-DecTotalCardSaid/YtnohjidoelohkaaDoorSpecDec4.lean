/- Plain laws of what is decoded: the sound has 16 bits, the state behind is right. -/
import Derived.Test.YtnohjidoelohkaaDoorSpecDec3
namespace Go.Proofs.YtnohjidoelohkaaDoor

theorem cut_idem16 (x : Int) : -32768 ≤ Sp.cut 16 x ∧ Sp.cut 16 x ≤ 32767 := by
  have e : Sp.cut 16 x = max (min x 32767) (-32768) := rfl
  rw [e]; omega
theorem fit_cut (x : Int) : fitP (Sp.cut 32 x) = true := by
  have e : ∀ x, Sp.cut 32 x = max (min x 2147483647) (-2147483648) := fun _ => rfl
  unfold fitP
  rw [beq_iff_eq, e, e]; omega
theorem cut22_idem (x : Int) : Sp.cut 22 (Sp.cut 22 x) = Sp.cut 22 x := by
  have e : ∀ x, Sp.cut 22 x = max (min x 2097151) (-2097152) := fun _ => rfl
  rw [e, e]; omega
theorem layE_fix (l : List Int) : ∀ a, Sp.cut 22 a = a → Sp.cut 22 (layE a l) = layE a l := by
  induction l with
  | nil => intro a h; exact h
  | cons x l ih => intro a _; exact ih _ (cut22_idem _)
theorem layN_fix (a : Int) (l : List Int) : Sp.cut 22 (layN a l) = layN a l := layE_fix l _ (cut22_idem a)
theorem right_all {m ls wv : List Int} {n lost : Int} (h0 : m.length = 16) (h1 : ls.length = 4) (h2 : wv.length = 16) :
    rightS (m ++ [n] ++ ls ++ wv ++ [lost]) = (m.all fitP && ls.all levP && (Sp.cut 22 n == n) && !wv.any wideP && decide (0 ≤ lost) && decide (lost ≤ 255)) ∧ lostL (m ++ [n] ++ ls ++ wv ++ [lost]) = lost ∧ (m ++ [n] ++ ls ++ wv ++ [lost]).length = 38 := by
  match m, h0 with
  | [y0, y1, y2, y3, y4, y5, y6, y7, y8, y9, y10, y11, y12, y13, y14, y15], _ =>
    match ls, h1 with
    | [a, b, c, d], _ =>
      match wv, h2 with
      | [x0, x1, x2, x3, x4, x5, x6, x7, x8, x9, x10, x11, x12, x13, x14, x15], _ => exact ⟨rfl, rfl, rfl⟩
theorem next_right (L : List Int) {ls wv : List Int} (h1 : LevelsOk ls) (h2 : wv.length = 16) (h3 : wv.any wideP = false) : rightS (nextSt L ls wv 0) = true ∧ lostL (nextSt L ls wv 0) = 0 ∧ (nextSt L ls wv 0).length = 38 := by
  have hm : (((backL wv).drop 16).map (Sp.cut 32)).length = 16 := by rw [List.length_map, List.length_drop, backL_len]
  have hall : ls.all levP = true := List.all_eq_true.2 (fun x hx => by have := h1.2 x hx; simp [levP]; omega)
  have hfit : (((backL wv).drop 16).map (Sp.cut 32)).all fitP = true := List.all_eq_true.2 (fun x hx => by
    obtain ⟨y, _, rfl⟩ := List.mem_map.1 hx
    exact fit_cut y)
  have hn : (Sp.cut 22 (nextN L wv) == nextN L wv) = true := by rw [beq_iff_eq]; exact layN_fix _ _
  obtain ⟨e1, e2, e3⟩ := right_all (n := nextN L wv) (lost := 0) hm h1.1 h2
  refine ⟨?_, e2, e3⟩
  show rightS (_ ++ _ ++ _ ++ _ ++ _) = true
  rw [e1, hfit, hall, hn, h3]
  rfl
/-- Whatever is decoded. -/
theorem dec_good (L : List Int) (s : ByteArray) (h0 : 10 ≤ s.size ∧ s.size ≤ 32) (hr : rightS L = true) :
    decE L s = 0 ∧ (decO L s).length = 16 ∧ (∀ x ∈ decO L s, -32768 ≤ x ∧ x ≤ 32767) ∧ rightS (decSt L s) = true ∧ lostL (decSt L s) = 0 ∧ (decSt L s).length = 38 := by
  have he : decE L s = 0 := by unfold decE; rw [if_pos h0, hr]; rfl
  have hLO := levsS_ok s (levL L)
  have hWO := wavS_ok s (levL L)
  have e1 : decO L s = soundL (nextO L (wavS s (levL L))) := by unfold decO; rw [he]; rfl
  have e2 : decSt L s = nextSt L (levsS s (levL L)) (wavS s (levL L)) 0 := by unfold decSt; rw [he]; rfl
  obtain ⟨r1, r2, r3⟩ := next_right L hLO hWO.1 hWO.2
  rw [e1, e2]
  refine ⟨he, ?_, ?_, r1, r2, r3⟩
  · unfold soundL nextO layL; rw [List.length_map, layG_len, overL_len]
  · intro x hx
    obtain ⟨y, _, rfl⟩ := List.mem_map.1 hx
    exact cut_idem16 y
theorem dec_bad (L : List Int) (s : ByteArray) (h : decE L s ≠ 0) : decO L s = List.replicate 16 0 ∧ decSt L s = List.replicate 38 0 := by
  unfold decO decSt
  rw [if_neg h, if_neg h]
  exact ⟨rfl, rfl⟩
end Go.Proofs.YtnohjidoelohkaaDoor
