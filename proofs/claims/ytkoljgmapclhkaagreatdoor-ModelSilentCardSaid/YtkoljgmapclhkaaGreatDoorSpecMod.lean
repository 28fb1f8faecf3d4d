/- The plain words of a recorder without a disk. -/
import Derived.Test.YtkoljgmapclhkaaGreatDoorLot15
import Derived.Test.YtkoljgmapclhkaaGreatDoorLot11
import Derived.Test.YtkoljgmapclhkaaGreatDoorSpecNeed
set_option linter.unusedSimpArgs false
set_option linter.unusedVariables false
namespace Go.Proofs.YtkoljgmapclhkaaGreatDoor

/-- How many bytes an entry's record has. -/
def recN (e : Ent) : Nat := if rightE e then 5 + e.data.size else 0
theorem right_size {e : Ent} (h : rightE e = true) : e.data.size ≤ 137 := by
  unfold rightE at h
  split at h
  · simp only [Bool.and_eq_true, decide_eq_true_eq] at h; omega
  · split at h
    · simp only [decide_eq_true_eq] at h; omega
    · split at h
      · rw [beq_iff_eq] at h
        unfold readE at h
        split at h
        · omega
        · cases h
      · cases h
theorem rec_le (e : Ent) : recN e ≤ 142 := by
  unfold recN
  split
  · next h => have := right_size h; omega
  · omega
theorem need_le {e : Ent} (n : Nat) : needE n (recN e) ≤ 6 := by
  unfold needE recN
  split
  · next h =>
    have h1 := right_size h
    have h2 : piecesP (5 + e.data.size) ≤ 3 := by unfold piecesP; split <;> omega
    have := needP_le (piecesP (5 + e.data.size)) n
    omega
  · exact Nat.zero_le _
/-- What a recorder without a disk remembers. -/
structure Mst where
  sz : Int
  sy : Int
  ck : Int
  pages : Nat
  next : Nat
  ents : List Ent
  st : List Int
  e : ESt
  run : Bool
  fro : Bool
  now : Int
  syn : Int
  sin : Int
  fuse : Int
/-- An act. -/
structure Mact where
  what : Int
  frame : List Int
  n : Int
def iceM (M : Mst) : Mst := { M with run := false, fro := true }
def addM (M : Mst) (x : Ent) : Mst × Int :=
  if M.fro = true then (M, 8)
  else if M.pages < M.next + needE M.next (recN x) then (iceM M, 5)
  else if 0 ≤ M.fuse ∧ M.fuse < needE M.next (recN x) then (iceM { M with fuse := 0 }, 6)
  else ({ M with next := M.next + needE M.next (recN x), ents := M.ents ++ [x], st := stepS M.st x, fuse := if 0 ≤ M.fuse then M.fuse - needE M.next (recN x) else M.fuse }, 0)
def begM (M : Mst) : Mst := { M with e := e0, sin := 0, syn := M.now, run := true }
def gapM (M : Mst) : Ent := ⟨2, M.now, ⟨#[]⟩⟩
def startM (M : Mst) : Mst × Int :=
  if M.run = true ∨ M.fro = true then (M, 8)
  else if M.ents.length = 0 then (begM M, 0)
  else if (addM M (gapM M)).2 = 0 then (begM (addM M (gapM M)).1, 0) else addM M (gapM M)
def checkM (M : Mst) : Mst × Int := if M.run = true then addM { M with sin := 0 } (chkE M.now M.st) else (M, 8)
def packM (M : Mst) (b : List Int) : Ent := ⟨1, M.now, packE M.sz.toNat M.e b⟩
def nextM (M N : Mst) (b : List Int) : Mst := { N with e := nextE M.sz.toNat M.e b, sin := M.sin + 1 }
def fedM (M N : Mst) (b : List Int) : Mst × Int := if M.ck ≤ M.sin + 1 then checkM (nextM M N b) else (nextM M N b, 0)
def feedM (M : Mst) (b : List Int) : Mst × Int :=
  if M.run = false then (M, 8)
  else if b.length ≠ 16 then (M, 10)
  else if b.all sound16 = false then (M, 1)
  else if (addM M (packM M b)).2 = 0 then fedM M (addM M (packM M b)).1 b else addM M (packM M b)
def syncM (M : Mst) : Mst × Int :=
  if M.run = false then (M, 8)
  else if M.fuse = 0 then (iceM M, 6)
  else ({ M with syn := M.now, fuse := if 0 < M.fuse then M.fuse - 1 else M.fuse }, 0)
def tickM (M : Mst) : Mst × Int :=
  if M.run = true ∧ M.sy ≤ M.now + 1 - M.syn then syncM { M with now := M.now + 1 } else ({ M with now := M.now + 1 }, 0)
def stopM (M : Mst) : Mst × Int := ({ (syncM M).1 with run := false }, (syncM M).2)
/-- An act done: what is remembered then, the error, the sounds. -/
def doM (M : Mst) (a : Mact) : Mst × Int × List (List Int) :=
  if a.what = 0 then ((startM M).1, (startM M).2, [])
  else if a.what = 1 then ((feedM M a.frame).1, (feedM M a.frame).2, [])
  else if a.what = 2 then ((tickM M).1, (tickM M).2, [])
  else if a.what = 3 then ((syncM M).1, (syncM M).2, [])
  else if a.what = 4 then ((checkM M).1, (checkM M).2, [])
  else if a.what = 5 then ((stopM M).1, (stopM M).2, [])
  else if a.what = 6 then (M, 0, foldO (zs 38) M.ents)
  else if a.what = 7 then (if mayE M.ents.length a.n then (M, 0, fromO M.ents a.n.toNat) else (M, 1, []))
  else if a.what = 8 then ({ M with fuse := max a.n (-1) }, 0, [])
  else (M, 1, [])
/-- What always holds, behind so many acts, of so many entries. -/
structure Mst.Ok (M : Mst) (k n : Nat) : Prop where
  sz : 10 ≤ M.sz ∧ M.sz ≤ 32
  sy : 1 ≤ M.sy ∧ M.sy ≤ 1000
  ck : 1 ≤ M.ck ∧ M.ck ≤ 1000
  pages : M.pages ≤ 1024
  next : M.next ≤ M.pages
  ents : M.ents.length ≤ n
  each : ∀ x ∈ M.ents, rightE x = true
  st : M.st = foldS (zs 38) M.ents
  e : M.e.Ok
  now : 0 ≤ M.now ∧ M.now ≤ k
  syn : 0 ≤ M.syn ∧ M.syn ≤ M.now
  sin : 0 ≤ M.sin ∧ M.sin ≤ k
  fuse : -1 ≤ M.fuse ∧ M.fuse ≤ 9223372036854775807
  tru : AllTrue (zs 38) M.ents
namespace Mst.Ok
variable {M : Mst} {k n : Nat}
theorem st_len (h : M.Ok k n) : M.st.length = 38 := by rw [h.st]; exact foldS_len zs_len38 _
theorem st_right (h : M.Ok k n) : rightS M.st = true := by rw [h.st]; exact foldS_right zs_len38 zs_right38 _
theorem more (h : M.Ok k n) {k' n' : Nat} (hk : k ≤ k') (hn : n ≤ n') : M.Ok k' n' :=
  { h with ents := Nat.le_trans h.ents hn, now := ⟨h.now.1, by have := h.now.2; omega⟩, sin := ⟨h.sin.1, by have := h.sin.2; omega⟩ }
theorem ice (h : M.Ok k n) : (iceM M).Ok k n := { h with }
theorem beg (h : M.Ok k n) : (begM M).Ok k n := { h with e := e0_ok, syn := ⟨h.now.1, Int.le_refl _⟩, sin := ⟨Int.le_refl _, by show (0 : Int) ≤ k; omega⟩ }
theorem add (h : M.Ok k n) {x : Ent} (hx : rightE x = true) (ht : trueE M.st x = true) : (addM M x).1.Ok k (n + 1) := by
  unfold addM
  split
  · exact h.more (Nat.le_refl _) (Nat.le_succ _)
  · split
    · exact h.ice.more (Nat.le_refl _) (Nat.le_succ _)
    · split
      · have h0 : Mst.Ok { M with fuse := 0 } k n := { h with fuse := ⟨by show (-1 : Int) ≤ 0; omega, by show (0 : Int) ≤ _; omega⟩ }
        exact h0.ice.more (Nat.le_refl _) (Nat.le_succ _)
      · next h1 h2 =>
        have hnd : 0 ≤ (needE M.next (recN x) : Int) := Int.natCast_nonneg _
        exact { h with
          next := by show M.next + _ ≤ M.pages; omega
          ents := by show (M.ents ++ [x]).length ≤ n + 1; have := h.ents; simp; omega
          each := fun y hy => by
            rcases List.mem_append.1 hy with hy | hy
            · exact h.each y hy
            · rw [List.mem_singleton.1 hy]; exact hx
          st := by show stepS M.st x = foldS (zs 38) (M.ents ++ [x]); rw [foldS_app, ← h.st, foldS_cons, foldS_nil]
          fuse := by
            show -1 ≤ (if 0 ≤ M.fuse then _ else _) ∧ (if 0 ≤ M.fuse then _ else _) ≤ _
            have := h.fuse
            split <;> omega
          tru := by
            show truthsE (zs 38) (M.ents ++ [x]) = (M.ents ++ [x]).length
            rw [truths_app _ _ _ h.tru, ← h.st, List.length_append, truthsE, if_pos ht]
            rfl }
theorem chk_right (h : M.Ok k n) (sp : Int) : rightE (chkE sp M.st) = true ∧ trueE M.st (chkE sp M.st) = true := by
  obtain ⟨h1, h2⟩ := chk_true h.st_len h.st_right sp
  have h3 := h2 M.st h.st_right
  rw [beq_self_eq_true] at h3
  unfold isChk at h1
  simp only [Bool.and_eq_true] at h1
  exact ⟨h1.2, h3⟩
theorem gap_right (h : M.Ok k n) : rightE (gapM M) = true ∧ trueE M.st (gapM M) = true := by
  have h1 : rightE (gapM M) = true := rfl
  refine ⟨h1, ?_⟩
  unfold trueE
  rw [h.st_right, h1]; rfl
theorem pack_right (h : M.Ok k n) (b : List Int) : rightE (packM M b) = true ∧ trueE M.st (packM M b) = true := by
  have hs := h.sz
  have h1 : rightE (packM M b) = true := by
    have hp : (packE M.sz.toNat M.e b).size = M.sz.toNat := packE_size (by omega) h.e b
    unfold rightE packM
    simp [hp]
    omega
  refine ⟨h1, ?_⟩
  unfold trueE
  rw [h.st_right, h1]; rfl
theorem start (h : M.Ok k n) : (startM M).1.Ok k (n + 1) := by
  have ha := h.add h.gap_right.1 h.gap_right.2
  unfold startM
  split
  · exact h.more (Nat.le_refl _) (Nat.le_succ _)
  · split
    · exact h.beg.more (Nat.le_refl _) (Nat.le_succ _)
    · split
      · exact ha.beg
      · exact ha
theorem check (h : M.Ok k n) : (checkM M).1.Ok k (n + 1) := by
  unfold checkM
  split
  · have h0 : Mst.Ok { M with sin := 0 } k n := { h with sin := ⟨by show (0 : Int) ≤ 0; omega, by show (0 : Int) ≤ k; omega⟩ }
    exact h0.add (h.chk_right _).1 (h.chk_right _).2
  · exact h.more (Nat.le_refl _) (Nat.le_succ _)
theorem add_sz (M : Mst) (x : Ent) : (addM M x).1.sz = M.sz ∧ (addM M x).1.e = M.e ∧ (addM M x).1.ck = M.ck ∧ (addM M x).1.sin = M.sin := by
  unfold addM
  split
  · exact ⟨rfl, rfl, rfl, rfl⟩
  · split
    · exact ⟨rfl, rfl, rfl, rfl⟩
    · split <;> exact ⟨rfl, rfl, rfl, rfl⟩
theorem feed_next (h : M.Ok k n) {N : Mst} {m : Nat} (hN : N.Ok k m) {b : List Int} (hb : S16 b) : (nextM M N b).Ok (k + 1) m := by
  have hs := h.sz
  exact { hN.more (Nat.le_succ k) (Nat.le_refl m) with
    e := nextE_ok (by omega) (by omega) h.e hb
    sin := by show 0 ≤ M.sin + 1 ∧ M.sin + 1 ≤ ((k + 1 : Nat) : Int); have := h.sin; omega }
theorem feed (h : M.Ok k n) (b : List Int) : (feedM M b).1.Ok (k + 1) (n + 2) := by
  unfold feedM
  have h2 := h.more (Nat.le_succ k) (Nat.le_add_right n 2)
  split
  · exact h2
  · split
    · exact h2
    · split
      · exact h2
      · next hl hs =>
        have hb : S16 b := ⟨by omega, fun x hx => (cut16_iff x).1 (List.all_eq_true.1 (by simpa using hs) x hx)⟩
        have ha := h.add (h.pack_right b).1 (h.pack_right b).2
        split
        · have hn := h.feed_next ha hb
          unfold fedM
          split
          · exact hn.check
          · exact hn.more (Nat.le_refl _) (Nat.le_succ _)
        · exact ha.more (Nat.le_succ k) (Nat.le_succ _)
theorem sync (h : M.Ok k n) : (syncM M).1.Ok k n := by
  unfold syncM
  split
  · exact h
  · split
    · exact h.ice
    · exact { h with
        syn := ⟨h.now.1, Int.le_refl _⟩
        fuse := by
          show -1 ≤ (if 0 < M.fuse then _ else _) ∧ (if 0 < M.fuse then _ else _) ≤ _
          have := h.fuse
          split <;> omega }
theorem tick (h : M.Ok k n) : (tickM M).1.Ok (k + 1) n := by
  have h1 : Mst.Ok { M with now := M.now + 1 } (k + 1) n :=
    { h.more (Nat.le_succ k) (Nat.le_refl n) with
      now := by show 0 ≤ M.now + 1 ∧ M.now + 1 ≤ ((k + 1 : Nat) : Int); have := h.now; omega
      syn := by show 0 ≤ M.syn ∧ M.syn ≤ M.now + 1; have := h.syn; omega }
  unfold tickM
  split
  · exact h1.sync
  · exact h1
theorem stop (h : M.Ok k n) : (stopM M).1.Ok k n := { h.sync with }
theorem act (h : M.Ok k n) {a : Mact} (ha : a.n ≤ 9223372036854775807) : (doM M a).1.Ok (k + 1) (n + 2) := by
  unfold doM
  have hm := fun {N : Mst} {k' n' : Nat} (hN : N.Ok k' n') (h1 : k' ≤ k + 1) (h2 : n' ≤ n + 2) => hN.more h1 h2
  split
  · exact hm h.start (by omega) (by omega)
  · split
    · exact h.feed _
    · split
      · exact hm h.tick (by omega) (by omega)
      · split
        · exact hm h.sync (by omega) (by omega)
        · split
          · exact hm h.check (by omega) (by omega)
          · split
            · exact hm h.stop (by omega) (by omega)
            · split
              · exact hm h (by omega) (by omega)
              · split
                · split <;> exact hm h (by omega) (by omega)
                · split
                  · exact hm { h with fuse := by show -1 ≤ max a.n (-1) ∧ max a.n (-1) ≤ _; omega } (by omega) (by omega)
                  · exact hm h (by omega) (by omega)
end Mst.Ok
end Go.Proofs.YtkoljgmapclhkaaGreatDoor
