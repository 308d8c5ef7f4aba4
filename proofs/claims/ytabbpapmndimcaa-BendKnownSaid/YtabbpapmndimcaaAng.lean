/- Plain arithmetic of angles: sines, and the angle at which a place is seen. -/
import Derived.Test.YtabbpapmndimcaaMath
namespace Go.Proofs.Ytabbpapmndimcaa.M
open Go.RowKit Go.Proofs.YtabbpapmndimcaaW.PrintWords

def sinp (n : Int) : Int := (16 * (n * (32768 - n)) * 65536) / (5368709120 - 4 * (n * (32768 - n)))
def sin (a : Int) : Int := if a % 65536 ≥ 32768 then -(sinp (a % 65536 - 32768)) else sinp (a % 65536)
def cos (a : Int) : Int := sin (a % 65536 + 16384)
def tan (a : Int) : Int := div (sin a) (cos a)

theorem p_bd {n : Int} (h0 : 0 ≤ n) (h1 : n ≤ 32768) : 0 ≤ n * (32768 - n) ∧ n * (32768 - n) ≤ 268435456 := by
  have h2 : 0 ≤ n * (32768 - n) := Int.mul_nonneg h0 (by omega)
  have h3 : 0 ≤ (n - 16384) * (n - 16384) := by
    by_cases h : 0 ≤ n - 16384
    · exact Int.mul_nonneg h h
    · have := Int.mul_nonneg (show 0 ≤ -(n - 16384) by omega) (show 0 ≤ -(n - 16384) by omega)
      rwa [Int.neg_mul_neg] at this
  have e : (n - 16384) * (n - 16384) = 268435456 - n * (32768 - n) := by grind
  omega

theorem sinp_sym (n : Int) : sinp (32768 - n) = sinp n := by
  unfold sinp
  rw [show (32768 - n) * (32768 - (32768 - n)) = n * (32768 - n) by grind]

theorem sinp_bd {n : Int} (h0 : 0 ≤ n) (h1 : n ≤ 32768) : 0 ≤ sinp n ∧ sinp n ≤ 65536 := by
  have hp := p_bd h0 h1
  unfold sinp
  generalize n * (32768 - n) = p at *
  constructor
  · exact Int.ediv_nonneg (by omega) (by omega)
  · have : 16 * p * 65536 / (5368709120 - 4 * p) < 65537 := by
      apply Int.ediv_lt_of_lt_mul (by omega)
      omega
    omega
theorem sinp_zero : sinp 0 = 0 := by decide +kernel
theorem sinp_pos {n : Int} (h0 : 0 < n) (h1 : n < 32768) : 0 < sinp n := by
  have hp := p_bd (n := n) (by omega) (by omega)
  have hq : 32767 ≤ n * (32768 - n) := by
    have h2 : 0 ≤ (n - 1) * (32767 - n) := Int.mul_nonneg (by omega) (by omega)
    have e : (n - 1) * (32767 - n) = n * (32768 - n) - 32767 := by grind
    omega
  unfold sinp
  generalize n * (32768 - n) = p at *
  have : 1 ≤ 16 * p * 65536 / (5368709120 - 4 * p) := by
    apply Int.le_ediv_of_mul_le (by omega)
    omega
  omega

theorem sin_bd (a : Int) : -65536 ≤ sin a ∧ sin a ≤ 65536 := by
  unfold sin
  have h1 := Int.emod_nonneg a (show (65536 : Int) ≠ 0 by omega)
  have h2 := Int.emod_lt_of_pos a (show (0 : Int) < 65536 by omega)
  split
  · have := sinp_bd (n := a % 65536 - 32768) (by omega) (by omega)
    omega
  · have := sinp_bd (n := a % 65536) (by omega) (by omega)
    omega
theorem sin_mod (a : Int) : sin (a % 65536) = sin a := by
  unfold sin; rw [show a % 65536 % 65536 = a % 65536 by omega]
theorem sin_of {a b : Int} (h : a % 65536 = b % 65536) : sin a = sin b := by rw [← sin_mod a, ← sin_mod b, h]
theorem cos_eq (a : Int) : cos a = sin (a + 16384) := sin_of (by omega)
theorem sin_half (a : Int) : sin (a + 32768) = -sin a := by
  unfold sin
  have h1 := Int.emod_nonneg a (show (65536 : Int) ≠ 0 by omega)
  have h2 := Int.emod_lt_of_pos a (show (0 : Int) < 65536 by omega)
  by_cases h : a % 65536 ≥ 32768
  · rw [if_pos h, show (a + 32768) % 65536 = a % 65536 - 32768 by omega, if_neg (by omega)]; omega
  · rw [if_neg h, show (a + 32768) % 65536 = a % 65536 + 32768 by omega, if_pos (by omega), show a % 65536 + 32768 - 32768 = a % 65536 by omega]
theorem sin_neg (a : Int) : sin (-a) = -sin a := by
  unfold sin
  have h1 := Int.emod_nonneg a (show (65536 : Int) ≠ 0 by omega)
  have h2 := Int.emod_lt_of_pos a (show (0 : Int) < 65536 by omega)
  by_cases h0 : a % 65536 = 0
  · rw [show (-a) % 65536 = 0 by omega, h0]; decide +kernel
  · rw [show (-a) % 65536 = 65536 - a % 65536 by omega]
    by_cases h : a % 65536 ≥ 32768
    · rw [if_pos h]
      by_cases h3 : a % 65536 = 32768
      · rw [h3]; decide +kernel
      · rw [if_neg (by omega), ← sinp_sym, show 32768 - (65536 - a % 65536) = a % 65536 - 32768 by omega]; omega
    · rw [if_neg h, if_pos (by omega), ← sinp_sym, show 32768 - (65536 - a % 65536 - 32768) = a % 65536 by omega]
theorem sin_round (a : Int) : sin (32768 - a) = sin a := by
  rw [show 32768 - a = -a + 32768 by omega, sin_half, sin_neg]; omega
theorem sin_pos (a : Int) : 0 < sin a ↔ 0 < a % 65536 ∧ a % 65536 < 32768 := by
  unfold sin
  have h1 := Int.emod_nonneg a (show (65536 : Int) ≠ 0 by omega)
  have h2 := Int.emod_lt_of_pos a (show (0 : Int) < 65536 by omega)
  by_cases h : a % 65536 ≥ 32768
  · rw [if_pos h]
    have := sinp_bd (n := a % 65536 - 32768) (by omega) (by omega)
    constructor <;> intro _ <;> omega
  · rw [if_neg h]
    by_cases h0 : a % 65536 = 0
    · rw [h0, sinp_zero]; constructor <;> intro _ <;> omega
    · have := sinp_pos (n := a % 65536) (by omega) (by omega)
      constructor <;> intro _ <;> omega

/-- how far from 0 -/
def abs (n : Int) : Int := mx n (-n)
def arc (z : Int) : Int := (8192 * z * 65536 + 2847 * z * (65536 - z)) / 4294967296
def quad (y x q : Int) : Int := if x < 0 then (if y < 0 then (-(32768 - q)) % 65536 else 32768 - q) else (if y < 0 then (-q) % 65536 else q)
def slope (u v : Int) : Int := v * 65536 / u
def atan (y x : Int) : Int :=
  if mx (abs (clip x)) (abs (clip y)) = 0 then 0
  else quad (clip y) (clip x) (if abs (clip y) > abs (clip x) then 16384 - arc (slope (mx (abs (clip x)) (abs (clip y))) (mn (abs (clip x)) (abs (clip y)))) else arc (slope (mx (abs (clip x)) (abs (clip y))) (mn (abs (clip x)) (abs (clip y)))))

theorem slope_bd {u v : Int} (h0 : 0 ≤ v) (h1 : v ≤ u) (hu : 0 < u) : 0 ≤ slope u v ∧ slope u v ≤ 65536 := by
  unfold slope
  constructor
  · exact Int.ediv_nonneg (by omega) (by omega)
  · have : v * 65536 / u < 65537 := by
      apply Int.ediv_lt_of_lt_mul hu
      omega
    omega
theorem arc_in {z : Int} (h0 : 0 ≤ z) (h1 : z ≤ 65536) : 0 ≤ z * (65536 - z) ∧ z * (65536 - z) ≤ 4294967296 := by
  have h2 := mul_bd (a := z) (b := 65536 - z) (A := 65536) (B := 65536) (by omega) (by omega) (by omega) (by omega)
  exact ⟨Int.mul_nonneg h0 (by omega), by omega⟩
theorem arc_bd {z : Int} (h0 : 0 ≤ z) (h1 : z ≤ 65536) : 0 ≤ arc z ∧ arc z ≤ 8192 := by
  have h2 := arc_in h0 h1
  unfold arc
  rw [show 2847 * z * (65536 - z) = 2847 * (z * (65536 - z)) by grind]
  have h3 : 0 ≤ (65536 - z) * (8192 * 65536 - 2847 * z) := Int.mul_nonneg (by omega) (by omega)
  have e : (65536 - z) * (8192 * 65536 - 2847 * z) = 8192 * 4294967296 - 8192 * z * 65536 - 2847 * (z * (65536 - z)) := by grind
  omega
theorem abs_bd (n : Int) : 0 ≤ abs (clip n) ∧ abs (clip n) ≤ 2147483647 := by
  have := clip_bd n
  unfold abs mx; omega

/-- the first quarter's angle, of clipped places -/
theorem first_bd (y x : Int) (h : mx (abs (clip x)) (abs (clip y)) ≠ 0) :
    0 ≤ arc (slope (mx (abs (clip x)) (abs (clip y))) (mn (abs (clip x)) (abs (clip y)))) ∧ arc (slope (mx (abs (clip x)) (abs (clip y))) (mn (abs (clip x)) (abs (clip y)))) ≤ 8192 := by
  have h1 := abs_bd x
  have h2 := abs_bd y
  have h3 := slope_bd (u := mx (abs (clip x)) (abs (clip y))) (v := mn (abs (clip x)) (abs (clip y))) (by unfold mn; omega) (by unfold mx mn; omega) (by unfold mx at *; omega)
  exact arc_bd h3.1 h3.2
theorem quad_bd {y x q : Int} (h0 : 0 ≤ q) (h1 : q ≤ 16384) : 0 ≤ quad y x q ∧ quad y x q < 65536 := by
  unfold quad
  split <;> split <;> omega
theorem atan_bd (y x : Int) : 0 ≤ atan y x ∧ atan y x < 65536 := by
  unfold atan
  by_cases h : mx (abs (clip x)) (abs (clip y)) = 0
  · rw [if_pos h]; omega
  · rw [if_neg h]
    have hb := first_bd y x h
    split
    · exact quad_bd (by omega) (by omega)
    · exact quad_bd (by omega) (by omega)

end Go.Proofs.Ytabbpapmndimcaa.M
