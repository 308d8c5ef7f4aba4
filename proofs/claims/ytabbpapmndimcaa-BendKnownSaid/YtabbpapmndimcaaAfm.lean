/- Plain arithmetic of affines: what its functions come to, without any program. No conditions of ours. -/
import Derived.Test.YtabbpapmndimcaaAng
namespace Go.Proofs.Ytabbpapmndimcaa.Afm
open Go.RowKit Go.Proofs.YtabbpapmndimcaaW.PrintWords Go.Proofs.Ytabbpapmndimcaa.M

abbrev A6 := Int × Int × Int × Int × Int × Int
theorem mul_cl (a b : Int) : mul (clip a) b = mul a b := by unfold mul; rw [clip_clip]
theorem mul_cr (a b : Int) : mul a (clip b) = mul a b := by unfold mul; rw [clip_clip]
theorem mul_bd' (a b : Int) : -2147483647 ≤ mul a b ∧ mul a b ≤ 2147483647 := clip_bd _
theorem div_bd (a b : Int) : -2147483647 ≤ div a b ∧ div a b ≤ 2147483647 := by
  unfold div
  split
  · split
    · omega
    · split <;> omega
  · exact clip_bd _
theorem div_cl (a b : Int) : div (clip a) b = div a b := by unfold div; rw [clip_clip]
theorem clip_neg_clip (a : Int) : clip (-clip a) = -clip a := by have := clip_bd a; exact clip_id (by omega) (by omega)
def clipped (p : A6) : A6 := (clip p.1, clip p.2.1, clip p.2.2.1, clip p.2.2.2.1, clip p.2.2.2.2.1, clip p.2.2.2.2.2)
def two (a b c d : Int) : Int := clip (mul a b + mul c d)
def apply (p : A6) (x y : Int) : Int × Int := (clip (mul p.1 x + mul p.2.2.1 y + clip p.2.2.2.2.1), clip (mul p.2.1 x + mul p.2.2.2.1 y + clip p.2.2.2.2.2))
def shift (x y : Int) : A6 := (65536, 0, 0, 65536, clip x, clip y)
def scale (x y : Int) : A6 := (clip x, 0, 0, clip y, 0, 0)
def compose (p q : A6) : A6 := (two p.1 q.1 p.2.2.1 q.2.1, two p.2.1 q.1 p.2.2.2.1 q.2.1, two p.1 q.2.2.1 p.2.2.1 q.2.2.2.1, two p.2.1 q.2.2.1 p.2.2.2.1 q.2.2.2.1, apply p q.2.2.2.2.1 q.2.2.2.2.2)
def det (p : A6) : Int := clip (mul p.1 p.2.2.2.1 - mul p.2.2.1 p.2.1)
def inv (p : A6) : A6 :=
  (div p.2.2.2.1 (det p), div (-clip p.2.1) (det p), div (-clip p.2.2.1) (det p), div p.1 (det p),
    -two (div p.2.2.2.1 (det p)) p.2.2.2.2.1 (div (-clip p.2.2.1) (det p)) p.2.2.2.2.2, -two (div (-clip p.2.1) (det p)) p.2.2.2.2.1 (div p.1 (det p)) p.2.2.2.2.2)
def inverse (p : A6) : A6 := if det p = 0 then (0, 0, 0, 0, 0, 0) else inv p
def turns (p : A6) : Bool := !decide (det p = 0)
def rotate (a : Int) : A6 := (cos a, sin a, -sin a, cos a, 0, 0)
def skew (a b : Int) : A6 := (65536, tan b, -tan a, 65536, 0, 0)
def around (p : A6) (x y : Int) : A6 := compose (shift x y) (compose p (shift (-clip x) (-clip y)))
theorem two_bd (a b c d : Int) : -2147483647 ≤ two a b c d ∧ two a b c d ≤ 2147483647 := clip_bd _
theorem apply_clipped (p : A6) (x y : Int) : apply (clipped p) x y = apply p x y := by unfold apply clipped; dsimp only; simp only [mul_cl, clip_clip]
theorem two_cl (a b c d : Int) : two (clip a) (clip b) (clip c) (clip d) = two a b c d := by unfold two; simp only [mul_cl, mul_cr]
theorem apply_cr (p : A6) (x y : Int) : apply p (clip x) (clip y) = apply p x y := by unfold apply; simp only [mul_cr]
end Go.Proofs.Ytabbpapmndimcaa.Afm
