/- The plain words of a packet decoded: levels, waves, the way back, the tilt, the state behind. -/
import Derived.Test.YtnohjidoelohkaaDoorSpecAng
import Derived.Test.YtnohjidoelohkaaDoorDecU
import Derived.Test.YtnohjidoelohkaaDoorDecW
namespace Go.Proofs.YtnohjidoelohkaaDoor

/-- The cosines all round, and the window. -/
def cosTab : List Int := (List.range 128).map fun u => Sp.cosV (u : Nat)
def winTab : List Int := (List.range 32).map fun n => Sp.sinV (2 * (n : Nat) + 1)
theorem cosTab_len : cosTab.length = 128 := by simp [cosTab]
theorem winTab_len : winTab.length = 32 := by simp [winTab]
def kerAt (n k : Nat) : Int := cosTab.getD ((2 * n + 17) * (2 * k + 1) % 128) 0
theorem cosTab_bd : ∀ u < 128, -32768 ≤ cosTab.getD u 0 ∧ cosTab.getD u 0 ≤ 32768 := by decide +kernel
theorem winTab_bd : ∀ u < 32, -32768 ≤ winTab.getD u 0 ∧ winTab.getD u 0 ≤ 32768 := by decide +kernel
theorem kerAt_bd (n k : Nat) : -32768 ≤ kerAt n k ∧ kerAt n k ≤ 32768 := cosTab_bd _ (Nat.mod_lt _ (by omega))
/-- The sum of the first m told. -/
def sumF (F : Nat → Int) : Nat → Int
  | 0 => 0
  | m + 1 => sumF F m + F m
theorem sumF_bd {F : Nat → Int} {B : Int} (h : ∀ k, -B ≤ F k ∧ F k ≤ B) (m : Nat) : -(B * m) ≤ sumF F m ∧ sumF F m ≤ B * m := by
  induction m with
  | zero => simp [sumF]
  | succ m ih =>
    have h1 := h m
    rw [show ((m + 1 : Nat) : Int) = (m : Int) + 1 from by omega, Int.mul_add, Int.mul_one]
    show -(B * m + B) ≤ sumF F m + F m ∧ sumF F m + F m ≤ B * m + B
    omega
theorem sumF_zero {F : Nat → Int} (h : ∀ k, F k = 0) (m : Nat) : sumF F m = 0 := by
  induction m with
  | zero => rfl
  | succ m ih => simp [sumF, ih, h]
def back1 (wv : List Int) (n : Nat) : Int := Sp.shiftN 16 (Sp.shiftN 15 (sumF (fun k => wv.getD k 0 * kerAt n k) 16) * winTab.getD n 0)
/-- The way back: 32 numbers. -/
def backL (wv : List Int) : List Int := if wv.any wideP then List.replicate 32 0 else (List.range 32).map (back1 wv)
theorem backL_len (wv : List Int) : (backL wv).length = 32 := by unfold backL; split <;> simp
/-- What was laid over. -/
def overL (a b : List Int) : List Int := (List.range 16).map fun i => Sp.cut 32 (Sp.cut 32 (a.getD i 0) + Sp.cut 32 (b.getD i 0))
theorem overL_len (a b : List Int) : (overL a b).length = 16 := by simp [overL]
/-- One sample laid down. -/
def lay1 (last x : Int) : Int := Sp.cut 22 (Sp.cut 22 x + (27853 * last).tdiv 32768)
def layG : Int → List Int → List Int
  | _, [] => []
  | last, x :: r => lay1 last x :: layG (lay1 last x) r
theorem layG_len : ∀ (l : List Int) (last : Int), (layG last l).length = l.length := by
  intro l
  induction l with
  | nil => intro _; rfl
  | cons x r ih => intro last; simp [layG, ih]
/-- Where the samples' last one stands. -/
def layE (last : Int) (l : List Int) : Int := l.foldl lay1 last
def layL (last : Int) (l : List Int) : List Int := layG (Sp.cut 22 last) l
def layN (last : Int) (l : List Int) : Int := layE (Sp.cut 22 last) l
/-- The state that is asked: no Mem, no Last. -/
def mkSt (ls wv : List Int) (lost : Int) : List Int := List.replicate 17 0 ++ ls ++ wv ++ [lost]
/-- The sound of a frame, and the state then. -/
def nextOk (L ls wv : List Int) (lost : Int) : Bool := rightS L && rightS (mkSt ls wv lost)
def nextO (L wv : List Int) : List Int := layL (lastL L) (overL (memL L) ((backL wv).take 16))
def nextN (L wv : List Int) : Int := layN (lastL L) (overL (memL L) ((backL wv).take 16))
def nextSt (L ls wv : List Int) (lost : Int) : List Int := ((backL wv).drop 16).map (Sp.cut 32) ++ [nextN L wv] ++ ls ++ wv ++ [lost]
def soundL (l : List Int) : List Int := l.map (Sp.cut 16)
/-- A decoder behind so many levels. -/
def decN (s : ByteArray) : Nat → Sp.Dec
  | 0 => Sp.Dec.new s
  | k + 1 => ltakeD (decN s k)
/-- The level of a packet. -/
def levAt (s : ByteArray) (ls : List Int) (b : Nat) : Int := max (min (ls.getD b 0 + ltakeV (decN s b)) 20) 0
def levsS (s : ByteArray) (ls : List Int) : List Int := (List.range 4).map (levAt s ls)
def bitsS (s : ByteArray) : Int := max (8 * (s.size : Int) - 40 - (decN s 4).used) 0
def pulS (s : ByteArray) (ls : List Int) : List Int := pulses (levsS s ls) 33 [0, 0, 0, 0] (bitsS s)
/-- A decoder behind so many bands, and the waves then. -/
def bandsS (d : Sp.Dec) (ls ks : List Int) : Nat → Sp.Dec × List Int
  | 0 => (d, List.replicate 16 0)
  | b + 1 => (bandD (bandsS d ls ks b).1 b (ks.getD b 0).toNat, putL (bandsS d ls ks b).2 (offN b) (bandV (bandsS d ls ks b).1 b (ls.getD b 0).toNat (ks.getD b 0).toNat))
def wavS (s : ByteArray) (ls : List Int) : List Int := (bandsS (decN s 4) (levsS s ls) (pulS s ls) 4).2
end Go.Proofs.YtnohjidoelohkaaDoor
