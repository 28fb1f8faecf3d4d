/- The plain words of the whole-number cosines, cuts and shifts. -/
import Derived.Lib.BitFns
namespace Go.Proofs.YtnohjidoelohkaaDoor.Sp

/-- A number cut to n digits. -/
def cut (n : Nat) (x : Int) : Int := max (min x (2 ^ (n - 1) - 1)) (-(2 ^ (n - 1)))
/-- A number by a power of two, rounded; 0 where it is too great. -/
def shiftN (n : Nat) (x : Int) : Int := if x < -1099511627776 ∨ 1099511627776 < x then 0 else (x + 2 ^ (n - 1)) / 2 ^ n
def byS (a b : Int) : Int := a * b / 1073741824
def cosS (u : Int) : Int :=
  let x := u * 105414357 / 2
  let y := byS x x
  let q := byS y y
  1073741824 - y / 2 + (y * y) / 25769803776 - (q * y) / 773094113280 + (q * q) / 43293270343680
def sinS (u : Int) : Int :=
  let x := u * 105414357 / 2
  let y := byS x x
  let q := byS y y
  x - (x * y) / 6442450944 + (x * q) / 128849018880 - (x * byS q y) / 5411658792960
def cos2 (a : Int) : Int := if 16 < a then shiftN 15 (sinS (32 - a)) else shiftN 15 (cosS a)
def cos1 (a : Int) : Int := if 32 < a then -cos2 (64 - a) else cos2 a
/-- The cosine of an angle, by 2^15. -/
def cosV (u : Int) : Int := if 64 < u % 128 then cos1 (128 - u % 128) else cos1 (u % 128)
def sinV (u : Int) : Int := cosV (u.tmod 128 - 32)
theorem cos_bd : ∀ u < 128, -32768 ≤ cosV (u : Nat) ∧ cosV (u : Nat) ≤ 32768 := by decide +kernel
end Go.Proofs.YtnohjidoelohkaaDoor.Sp
