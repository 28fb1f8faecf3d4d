/- The plain words of a recorder without a disk: silence, and how much fits. -/
import Derived.Test.YtkoljgmapclhkaaGreatDoorSpecMod
set_option linter.unusedSimpArgs false
set_option linter.unusedVariables false
namespace Go.Proofs.YtkoljgmapclhkaaGreatDoor

theorem zs38_e0 : e0.L = zs 38 := rfl
theorem zs16_z16 : zs 16 = z16 := rfl
theorem quiet_zs : quiet 0 = zs 38 := rfl
theorem lose_zero : loseO (zs 38) = z16 := by
  unfold loseO
  rw [if_pos zs_right38]
  have h : loseW (zs 38) = z16 := by decide +kernel
  rw [h, ← quiet_zs, (quiet_next 0).2]
  exact sound_zero
theorem pack_zero {sz : Nat} (h0 : 10 ≤ sz) (h1 : sz ≤ 32) : decO (zs 38) (packE sz e0 z16) = z16 ∧ decSt (zs 38) (packE sz e0 z16) = zs 38 := by
  obtain ⟨a, b⟩ := silent_next h0 h1
  refine ⟨b, ?_⟩
  have h : (nextE sz e0 z16).L = e0.L := by rw [a]
  rw [nextE_L] at h
  exact h
/-- A recorder that has heard nothing but silence, and has room. -/
structure Sil (M : Mst) (k : Nat) : Prop where
  e : M.e = e0
  st : M.st = zs 38
  out : ∀ b ∈ foldO (zs 38) M.ents, b = z16
  fro : M.fro = false
  fuse : M.fuse = -1
  next : M.next ≤ 6 * k
  pages : M.pages = 1024
namespace Sil
variable {M : Mst} {k m n : Nat}
theorem more (h : Sil M k) {k' : Nat} (hk : k ≤ k') : Sil M k' := { h with next := by have := h.next; omega }
theorem add (h : Sil M k) (hk : k ≤ 150) (ho : M.Ok m n) {x : Ent} (h1 : stepS (zs 38) x = zs 38) (h2 : ∀ b ∈ stepO (zs 38) x, b = z16) : Sil (addM M x).1 (k + 1) ∧ (addM M x).2 = 0 := by
  have hn := need_le (e := x) M.next
  have hx := h.next
  have hp := h.pages
  unfold addM
  rw [if_neg (by rw [h.fro]; decide), if_neg (by omega), if_neg (by rw [h.fuse]; omega)]
  refine ⟨{ h with
    st := by show stepS M.st x = _; rw [h.st]; exact h1
    out := fun b hb => by
      have hb' : b ∈ foldO (zs 38) (M.ents ++ [x]) := hb
      rw [foldO_app, ← ho.st, h.st] at hb'
      rcases List.mem_append.1 hb' with hb | hb
      · exact h.out b hb
      · rw [foldO, foldO, List.append_nil] at hb; exact h2 b hb
    fuse := by show (if 0 ≤ M.fuse then _ else M.fuse) = -1; rw [h.fuse]; rfl
    next := by show M.next + _ ≤ _; omega }, rfl⟩
theorem beg (h : Sil M k) : Sil (begM M) k := { h with e := rfl }
theorem gap (h : Sil M k) (hk : k ≤ 150) (ho : M.Ok m n) : Sil (addM M (gapM M)).1 (k + 1) ∧ (addM M (gapM M)).2 = 0 := by
  have hr : (rightE (gapM M) && rightS (zs 38)) = true := by rw [zs_right38]; rfl
  refine h.add hk ho ?_ ?_
  · unfold stepS; rw [hr]; rfl
  · unfold stepO
    rw [hr]
    intro b hb
    have hb' : b ∈ [loseO (zs 38)] := hb
    rw [List.mem_singleton.1 hb']; exact lose_zero
theorem chk (h : Sil M k) (hk : k ≤ 150) (ho : M.Ok m n) (sp : Int) : Sil (addM M (chkE sp M.st)).1 (k + 1) ∧ (addM M (chkE sp M.st)).2 = 0 := by
  have h3 : (chkE sp M.st).kind = 3 := rfl
  exact h.add hk ho (chk_step h3).2 (fun b hb => by rw [(chk_step h3).1] at hb; cases hb)
theorem pack (h : Sil M k) (hk : k ≤ 150) (ho : M.Ok m n) : Sil (addM M (packM M z16)).1 (k + 1) ∧ (addM M (packM M z16)).2 = 0 := by
  have hs := ho.sz
  obtain ⟨p1, p2⟩ := pack_zero (sz := M.sz.toNat) (by omega) (by omega)
  have hr : (rightE (packM M z16) && rightS (zs 38)) = true := by rw [zs_right38, (ho.pack_right z16).1]; rfl
  have hd : (packM M z16).data = packE M.sz.toNat e0 z16 := by unfold packM; rw [h.e]
  have hk1 : (packM M z16).kind = 1 := by simp only [packM]
  refine h.add hk ho ?_ ?_
  · unfold stepS; rw [if_pos hr, if_pos hk1, hd]; exact p2
  · unfold stepO
    rw [if_pos hr, if_pos hk1, hd]
    intro b hb
    have hb' : b ∈ [decO (zs 38) (packE M.sz.toNat e0 z16)] := hb
    rw [List.mem_singleton.1 hb']; exact p1
theorem check (h : Sil M k) (hk : k ≤ 150) (ho : M.Ok m n) : Sil (checkM M).1 (k + 1) := by
  unfold checkM
  split
  · exact (Sil.chk (M := { M with sin := 0 }) { h with } hk (m := m) (n := n) { ho with sin := ⟨by show (0 : Int) ≤ 0; omega, by show (0 : Int) ≤ m; omega⟩ } M.now).1
  · exact h.more (by omega)
theorem sync (h : Sil M k) : Sil (syncM M).1 k := by
  unfold syncM
  split
  · exact h
  · rw [if_neg (by rw [h.fuse]; omega)]
    exact { h with fuse := by show (if 0 < M.fuse then _ else M.fuse) = -1; rw [h.fuse]; rfl }
theorem feed (h : Sil M k) (hk : k ≤ 140) (ho : M.Ok m n) : Sil (feedM M z16).1 (k + 2) := by
  have hs := ho.sz
  unfold feedM
  split
  · exact h.more (by omega)
  · rw [if_neg (by decide), if_neg (by decide +kernel)]
    obtain ⟨p1, p2⟩ := h.pack (by omega) ho
    rw [if_pos p2]
    have ha := ho.add (ho.pack_right z16).1 (ho.pack_right z16).2
    have hN : Sil (nextM M (addM M (packM M z16)).1 z16) (k + 1) := { p1 with e := by show nextE M.sz.toNat M.e z16 = e0; rw [h.e]; exact (silent_next (by omega) (by omega)).1 }
    unfold fedM
    split
    · exact hN.check (by omega) (ho.feed_next ha z16_s16)
    · exact hN.more (by omega)
theorem start (h : Sil M k) (hk : k ≤ 150) (ho : M.Ok m n) : Sil (startM M).1 (k + 1) := by
  unfold startM
  split
  · exact h.more (by omega)
  · split
    · exact h.beg.more (by omega)
    · rw [if_pos (h.gap hk ho).2]
      exact (h.gap hk ho).1.beg
theorem tick (h : Sil M k) : Sil (tickM M).1 k := by
  unfold tickM
  split
  · exact Sil.sync { h with }
  · exact { h with }
theorem act (h : Sil M k) (hk : k ≤ 140) (ho : M.Ok m n) {a : Mact} (h0 : 0 ≤ a.what ∧ a.what ≤ 5) (hf : a.frame = z16) : Sil (doM M a).1 (k + 2) := by
  unfold doM
  split
  · exact (h.start (by omega) ho).more (by omega)
  · split
    · rw [hf]; exact h.feed hk ho
    · split
      · exact h.tick.more (by omega)
      · split
        · exact h.sync.more (by omega)
        · split
          · exact (h.check (by omega) ho).more (by omega)
          · split
            · exact (show Sil (stopM M).1 k from { h.sync with }).more (by omega)
            · omega
end Sil
/-- Where the record behind so many of one size goes. -/
def nxF (s : Nat) : Nat → Nat
  | 0 => 0
  | i + 1 => nxF s i + needE (nxF s i) s
theorem need_pos {s : Nat} (h0 : 1 ≤ s) (h1 : s ≤ 4096) (n : Nat) : 0 < needE n s := by
  unfold needE
  exact needP_pos (by unfold piecesP; rw [if_neg (by omega)]; omega)
theorem nxF_grows {s : Nat} (h0 : 1 ≤ s) (h1 : s ≤ 4096) : ∀ i, i ≤ nxF s i := by
  intro i
  induction i with
  | zero => exact Nat.zero_le _
  | succ i ih => have := need_pos h0 h1 (nxF s i); rw [nxF]; omega
/-- Frames of silence fed, so long as there is room. -/
structure Fil (M : Mst) (i sz pages : Nat) (c : Int) : Prop where
  e : M.e = e0
  fro : M.fro = false
  run : M.run = true
  fuse : M.fuse = -1
  next : M.next = nxF (5 + sz) i
  pages : M.pages = pages
  size : M.sz = sz
  sin : M.sin = i
  ck : M.ck = c
  ents : soundsE M.ents = i
  len : M.ents.length = i
theorem pack_rec {M : Mst} {sz : Nat} (hsz : M.sz = sz) (h0 : 10 ≤ sz) (h1 : sz ≤ 32) (he : M.e.Ok) (b : List Int) : recN (packM M b) = 5 + sz ∧ heardE (packM M b) = true := by
  have hp : (packM M b).data.size = sz := by
    have hd : (packM M b).data = packE M.sz.toNat M.e b := by simp only [packM]
    rw [hd, hsz, Int.toNat_natCast]; exact packE_size h0 he b
  have hk : (packM M b).kind = 1 := by simp only [packM]
  have hr : rightE (packM M b) = true := by unfold rightE; rw [hk, hp]; simp; omega
  exact ⟨by unfold recN; rw [if_pos hr, hp], by unfold heardE; rw [hr, hk]; rfl⟩
theorem feed_eq {M : Mst} {b : List Int} (h1 : M.run = true) (h2 : b.length = 16) (h3 : b.all sound16 = true) : feedM M b = if (addM M (packM M b)).2 = 0 then fedM M (addM M (packM M b)).1 b else addM M (packM M b) := by
  unfold feedM
  rw [if_neg (by rw [h1]; decide), if_neg (by omega), if_neg (by rw [h3]; decide)]
theorem fil_step {M : Mst} {i sz pages : Nat} {c : Int} (h : Fil M i sz pages c) (h0 : 10 ≤ sz) (h1 : sz ≤ 32) (hi : i + 1 < c) :
    if pages < nxF (5 + sz) i + needE (nxF (5 + sz) i) (5 + sz) then feedM M z16 = (iceM M, 5) else (feedM M z16).2 = 0 ∧ Fil (feedM M z16).1 (i + 1) sz pages c := by
  have he : M.e.Ok := by rw [h.e]; exact e0_ok
  obtain ⟨p1, p2⟩ := pack_rec h.size h0 h1 he z16
  rw [feed_eq h.run rfl (by decide +kernel)]
  have ha : addM M (packM M z16) = if pages < nxF (5 + sz) i + needE (nxF (5 + sz) i) (5 + sz) then (iceM M, 5) else ({ M with next := nxF (5 + sz) (i + 1), ents := M.ents ++ [packM M z16], st := stepS M.st (packM M z16) }, 0) := by
    unfold addM
    rw [if_neg (by rw [h.fro]; decide), p1, h.pages, h.next]
    split
    · rfl
    · rw [if_neg (by rw [h.fuse]; omega), if_neg (by rw [h.fuse]; omega)]
      rfl
  rw [ha]
  by_cases hc : pages < nxF (5 + sz) i + needE (nxF (5 + sz) i) (5 + sz)
  · rw [if_pos hc, if_pos hc, if_neg (by show ¬ (5 : Int) = 0; decide)]
  · rw [if_neg hc, if_neg hc, if_pos rfl]
    unfold fedM
    have hc : ¬ M.ck ≤ M.sin + 1 := by rw [h.ck, h.sin]; omega
    rw [if_neg hc]
    exact ⟨rfl, { h with
      e := by show nextE M.sz.toNat M.e z16 = e0; rw [h.e, h.size, Int.toNat_natCast]; exact (silent_next h0 h1).1
      next := rfl
      sin := by show M.sin + 1 = ((i + 1 : Nat) : Int); rw [h.sin]; omega
      ents := by show soundsE (M.ents ++ [packM M z16]) = i + 1; rw [soundsE_app, h.ents, soundsE_cons, p2]; rfl
      len := by show (M.ents ++ [packM M z16]).length = i + 1; rw [List.length_append, h.len]; rfl }⟩
/-- A new recorder. -/
def newM (pages : Nat) (sz sy ck : Int) : Mst := { sz := sz, sy := sy, ck := ck, pages := pages, next := 0, ents := [], st := zs 38, e := e0, run := false, fro := false, now := 0, syn := 0, sin := 0, fuse := -1 }
theorem newM_ok {pages : Nat} {sz sy ck : Int} (hp : pages ≤ 1024) (h1 : 10 ≤ sz ∧ sz ≤ 32) (h2 : 1 ≤ sy ∧ sy ≤ 1000) (h3 : 1 ≤ ck ∧ ck ≤ 1000) : (newM pages sz sy ck).Ok 0 0 where
  sz := h1
  sy := h2
  ck := h3
  pages := hp
  next := Nat.zero_le _
  ents := Nat.le_refl _
  each := fun x hx => by cases hx
  st := rfl
  e := e0_ok
  now := ⟨Int.le_refl _, Int.le_refl _⟩
  syn := ⟨Int.le_refl _, Int.le_refl _⟩
  sin := ⟨Int.le_refl _, Int.le_refl _⟩
  fuse := ⟨Int.le_refl _, by show (-1 : Int) ≤ _; omega⟩
  tru := rfl
theorem start_new (pages : Nat) (sz sy ck : Int) : startM (newM pages sz sy ck) = (begM (newM pages sz sy ck), 0) := rfl
theorem beg_fil {pages sz : Nat} {sy ck : Int} : Fil (begM (newM pages sz sy ck)) 0 sz pages ck :=
  { e := rfl, fro := rfl, run := rfl, fuse := rfl, next := rfl, pages := rfl, size := rfl, sin := rfl, ck := rfl, ents := rfl, len := rfl }
theorem new_sil {sz sy ck : Int} : Sil (newM 1024 sz sy ck) 0 :=
  { e := rfl, st := rfl, out := (fun b hb => by cases hb), fro := rfl, fuse := rfl, next := Nat.le_refl _, pages := rfl }
/-- The document's example. -/
theorem awake_mod : (feedM (begM (newM 32 10 1 9)) z16).2 = 0 ∧ (feedM (begM (newM 32 10 1 9)) z16).1.ents.length = 1 ∧ (feedM (begM (newM 32 10 1 9)) z16).1.pages = 32 ∧ (feedM (begM (newM 32 10 1 9)) z16).1.next = 2 := by
  have h := fil_step (c := 9) (i := 0) (sz := 10) (pages := 32) (beg_fil (sy := 1)) (by omega) (by omega) (by omega)
  have e : nxF (5 + 10) 0 + needE (nxF (5 + 10) 0) (5 + 10) = 2 := by decide
  rw [e, if_neg (by omega), show ((10 : Nat) : Int) = 10 from rfl] at h
  have e2 : nxF (5 + 10) (0 + 1) = 2 := by decide
  exact ⟨h.1, h.2.len, h.2.pages, h.2.next.trans e2⟩
end Go.Proofs.YtkoljgmapclhkaaGreatDoor
