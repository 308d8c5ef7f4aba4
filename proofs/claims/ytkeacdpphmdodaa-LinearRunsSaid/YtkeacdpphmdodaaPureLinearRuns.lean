/- Along a line, t is 0 at the first place and along the third, One at the second and along its like, grows evenly, and does not hang on where all of it stands. No conditions. -/
import Derived.Test.YtkeacdpphmdodaaPLinearRunsx1
import Derived.Test.YtkeacdpphmdodaaMath
namespace Go.Proofs.Ytkeacdpphmdodaa.Pure
open Go.RowKit Go.Proofs.Ytkeacdpphmdodaa.PLinearRuns Go.Proofs.YtkeacdpphmdodaaW.PrintWords Go.Proofs.YtkeacdpphmdodaaW.PrintLast Go.Proofs.Ytkeacdpphmdodaa.M
set_option linter.unusedSimpArgs false
set_option linter.unusedVariables false

theorem pick_f {n m : Int} (h1 : 0 < m) (h2 : m ≤ 9223372036854775807) : versalhand_Pick.f n m = some (n % m) := by
  have ha := Int.lt_tmod_of_pos n h1
  have hb := Int.tmod_lt_of_pos n h1
  rw [← tmod_pick h1]
  unfold versalhand_Pick.f
  rw [if_neg (by omega)]
  by_cases h : n.tmod m < 0
  · rw [if_pos h, if_pos h, w64 (by omega) (by omega)]
  · rw [if_neg h, if_neg h]

theorem clip_f (a : Int) : fixed_Clip.f a = some (clip a) := rfl

theorem floored_f {a b : Int} (hb : b ≠ 0) (h1 : -9000000000000000000 ≤ a) (h2 : a ≤ 9000000000000000000) : fixed_floored.f a b = some (fl a b) := by
  have h3 := tdiv_le (n := a) (d := b)
  rw [← fl_tdiv hb]
  unfold fixed_floored.f
  rw [if_neg hb, w64 (n := a.tdiv b) (by omega) (by omega), w64 (n := a.tdiv b - 1) (by omega) (by omega)]
  split
  · rfl
  · split
    · rfl
    · rfl

theorem ratio_f (a b : Int) : fixed_Ratio.f a b = some (ratio a b) := by
  have h1 := wide_bd a
  have e1 : fixed_brought.f a (-70368744177664) 70368744177664 = some (wide a) := rfl
  have e2 : fixed_brought.f b (-70368744177664) 70368744177664 = some (wide b) := rfl
  unfold fixed_Ratio.f ratio
  simp only [e1, e2, Option.bind_some]
  by_cases h : wide b = 0
  · rw [if_pos h, if_pos h]
  · rw [if_neg h, if_neg h, w64 (by omega) (by omega), floored_f h (by omega) (by omega)]
    simp only [Option.bind_some, clip_f]

def co (n : Int) : Int := clip n / 1024
theorem coarse_f (a : Int) : linear_coarse.f a = some (co a) := rfl
theorem co_bd (n : Int) : -2097152 ≤ co n ∧ co n ≤ 2097151 := by have := clip_bd n; unfold co; omega
def lin (x0 y0 x1 y1 x2 y2 x y : Int) : Int × Bool :=
  if (co x1 - co x0) * (co y2 - co y0) - (co y1 - co y0) * (co x2 - co x0) = 0 then (0, false)
  else (ratio ((co x - co x0) * (co y2 - co y0) - (co y - co y0) * (co x2 - co x0)) ((co x1 - co x0) * (co y2 - co y0) - (co y1 - co y0) * (co x2 - co x0)), true)
theorem T_f (x0 y0 x1 y1 x2 y2 x y : Int) : linear_T.f x0 y0 x1 y1 x2 y2 x y = some (lin x0 y0 x1 y1 x2 y2 x y) := by
  unfold linear_T.f lin
  simp only [coarse_f, Option.bind_some]
  have b0 := co_bd x0; have b1 := co_bd y0; have b2 := co_bd x1; have b3 := co_bd y1
  have b4 := co_bd x2; have b5 := co_bd y2; have b6 := co_bd x; have b7 := co_bd y
  generalize co x0 = X0 at *; generalize co y0 = Y0 at *; generalize co x1 = X1 at *; generalize co y1 = Y1 at *
  generalize co x2 = X2 at *; generalize co y2 = Y2 at *; generalize co x = X at *; generalize co y = Y at *
  have p1 := mul_bd (a := X1 - X0) (b := Y2 - Y0) (A := 4194303) (B := 4194303) (by omega) (by omega) (by omega) (by omega)
  have p2 := mul_bd (a := Y1 - Y0) (b := X2 - X0) (A := 4194303) (B := 4194303) (by omega) (by omega) (by omega) (by omega)
  have p3 := mul_bd (a := X - X0) (b := Y2 - Y0) (A := 4194303) (B := 4194303) (by omega) (by omega) (by omega) (by omega)
  have p4 := mul_bd (a := Y - Y0) (b := X2 - X0) (A := 4194303) (B := 4194303) (by omega) (by omega) (by omega) (by omega)
  rw [w64 (n := X1 - X0) (by omega) (by omega), w64 (n := Y2 - Y0) (by omega) (by omega), w64 (n := Y1 - Y0) (by omega) (by omega), w64 (n := X2 - X0) (by omega) (by omega), w64 (n := X - X0) (by omega) (by omega), w64 (n := Y - Y0) (by omega) (by omega)]
  rw [w64 (n := (X1 - X0) * (Y2 - Y0)) (by omega) (by omega), w64 (n := (Y1 - Y0) * (X2 - X0)) (by omega) (by omega), w64 (n := (X - X0) * (Y2 - Y0)) (by omega) (by omega), w64 (n := (Y - Y0) * (X2 - X0)) (by omega) (by omega)]
  rw [w64 (n := (X1 - X0) * (Y2 - Y0) - (Y1 - Y0) * (X2 - X0)) (by omega) (by omega), w64 (n := (X - X0) * (Y2 - Y0) - (Y - Y0) * (X2 - X0)) (by omega) (by omega)]
  by_cases h : (X1 - X0) * (Y2 - Y0) - (Y1 - Y0) * (X2 - X0) = 0
  · rw [if_pos h, if_pos h]
  · rw [if_neg h, if_neg h, ratio_f]; rfl
theorem co_w {n : Int} (h1 : -30000 ≤ n) (h2 : n ≤ 30000) : co (65536 * n) = 64 * n := by
  unfold co; rw [clip_id (by omega) (by omega)]; omega

theorem known_t : versallaw21_known.f = some true := by decide +kernel

theorem ratio_self {n k : Int} (hn : n ≠ 0) (h1 : -50000000000 ≤ n) (h2 : n ≤ 50000000000) (h3 : -20 ≤ k) (h4 : k ≤ 20) : ratio (k * n) n = k * 65536 := by
  unfold ratio
  have hk := mul_bd (a := k) (b := n) (A := 20) (B := 50000000000) (by omega) (by omega) (by omega) (by omega)
  rw [wide_id (n := n) (by omega) (by omega), wide_id (n := k * n) (by omega) (by omega), if_neg hn]
  rw [show k * n * 65536 = k * 65536 * n by rw [Int.mul_assoc, Int.mul_comm n, Int.mul_assoc], fl_mul hn, clip_id (by omega) (by omega)]

theorem ratio_zero (n : Int) : ratio 0 n = 0 := by
  unfold ratio
  split
  · rfl
  · rename_i h
    rw [show wide 0 * 65536 = 0 * wide n by simp [wide, mx, mn], fl_mul h]; rfl

theorem det (X1 Y1 X2 Y2 : Int) : (64 * X1 - 0) * (64 * Y2 - 0) - (64 * Y1 - 0) * (64 * X2 - 0) = 4096 * (X1 * Y2 - Y1 * X2) := by grind

/-- what a line of whole places, moved by (D, E), comes to at a whole place -/
theorem lin_w {X1 Y1 X2 Y2 U V D E : Int} (h1 : -200 ≤ X1 ∧ X1 ≤ 200) (h2 : -200 ≤ Y1 ∧ Y1 ≤ 200) (h3 : -200 ≤ X2 ∧ X2 ≤ 200) (h4 : -200 ≤ Y2 ∧ Y2 ≤ 200)
    (h5 : -4200 ≤ U ∧ U ≤ 4200) (h6 : -4200 ≤ V ∧ V ≤ 4200) (h7 : -1000 ≤ D ∧ D ≤ 1000) (h8 : -1000 ≤ E ∧ E ≤ 1000) :
    lin (65536 * D) (65536 * E) (65536 * (X1 + D)) (65536 * (Y1 + E)) (65536 * (X2 + D)) (65536 * (Y2 + E)) (65536 * (U + D)) (65536 * (V + E)) =
      if X1 * Y2 - Y1 * X2 = 0 then (0, false) else (ratio (4096 * (U * Y2 - V * X2)) (4096 * (X1 * Y2 - Y1 * X2)), true) := by
  unfold lin
  rw [co_w (n := D) (by omega) (by omega), co_w (n := E) (by omega) (by omega), co_w (n := X1 + D) (by omega) (by omega), co_w (n := Y1 + E) (by omega) (by omega), co_w (n := X2 + D) (by omega) (by omega), co_w (n := Y2 + E) (by omega) (by omega), co_w (n := U + D) (by omega) (by omega), co_w (n := V + E) (by omega) (by omega)]
  rw [show (64 * (X1 + D) - 64 * D) * (64 * (Y2 + E) - 64 * E) - (64 * (Y1 + E) - 64 * E) * (64 * (X2 + D) - 64 * D) = 4096 * (X1 * Y2 - Y1 * X2) by grind]
  rw [show (64 * (U + D) - 64 * D) * (64 * (Y2 + E) - 64 * E) - (64 * (V + E) - 64 * E) * (64 * (X2 + D) - 64 * D) = 4096 * (U * Y2 - V * X2) by grind]
  by_cases h : X1 * Y2 - Y1 * X2 = 0
  · rw [if_pos h, if_pos (by omega)]
  · rw [if_neg h, if_neg (by omega)]

theorem LinearRuns : versallaw21_LinearRuns.Pure := by
  intro a0 a1 a2 a3 a4 a5 a6 _ _ _ _ _ _ _
  unfold versallaw21_LinearRuns.f
  have q1 : (0 : Int) < 401 := by omega
  have q2 : (0 : Int) < 41 := by omega
  have q3 : (0 : Int) < 2001 := by omega
  simp only [pick_f q1 (by omega), pick_f q2 (by omega), pick_f q3 (by omega), Option.bind_some, versallaw21_w.f, T_f, known_t]
  obtain ⟨X1, e1⟩ : ∃ v, v = a0 % 401 - 200 := ⟨_, rfl⟩
  obtain ⟨Y1, e2⟩ : ∃ v, v = a1 % 401 - 200 := ⟨_, rfl⟩
  obtain ⟨X2, e3⟩ : ∃ v, v = a2 % 401 - 200 := ⟨_, rfl⟩
  obtain ⟨Y2, e4⟩ : ∃ v, v = a3 % 401 - 200 := ⟨_, rfl⟩
  obtain ⟨k, e5⟩ : ∃ v, v = a4 % 41 - 20 := ⟨_, rfl⟩
  obtain ⟨D, e6⟩ : ∃ v, v = a5 % 2001 - 1000 := ⟨_, rfl⟩
  obtain ⟨E, e7⟩ : ∃ v, v = a6 % 2001 - 1000 := ⟨_, rfl⟩
  rw [← e1, ← e2, ← e3, ← e4, ← e5, ← e6, ← e7]
  have b1 : -200 ≤ X1 ∧ X1 ≤ 200 := by omega
  have b2 : -200 ≤ Y1 ∧ Y1 ≤ 200 := by omega
  have b3 : -200 ≤ X2 ∧ X2 ≤ 200 := by omega
  have b4 : -200 ≤ Y2 ∧ Y2 ≤ 200 := by omega
  have b5 : -20 ≤ k ∧ k ≤ 20 := by omega
  have b6 : -1000 ≤ D ∧ D ≤ 1000 := by omega
  have b7 : -1000 ≤ E ∧ E ≤ 1000 := by omega
  clear e1 e2 e3 e4 e5 e6 e7
  have m1 := mul_bd (a := k) (b := X1) (A := 20) (B := 200) b5.1 b5.2 b1.1 b1.2
  have m2 := mul_bd (a := k) (b := Y1) (A := 20) (B := 200) b5.1 b5.2 b2.1 b2.2
  have m3 := mul_bd (a := k) (b := X2) (A := 20) (B := 200) b5.1 b5.2 b3.1 b3.2
  have m4 := mul_bd (a := k) (b := Y2) (A := 20) (B := 200) b5.1 b5.2 b4.1 b4.2
  rw [w64 (n := X1) (by omega) (by omega), w64 (n := Y1) (by omega) (by omega), w64 (n := X2) (by omega) (by omega), w64 (n := Y2) (by omega) (by omega), w64 (n := k) (by omega) (by omega), w64 (n := D) (by omega) (by omega), w64 (n := E) (by omega) (by omega)]
  rw [w64 (n := X1 * 65536) (by omega) (by omega), w64 (n := Y1 * 65536) (by omega) (by omega), w64 (n := X2 * 65536) (by omega) (by omega), w64 (n := Y2 * 65536) (by omega) (by omega), w64 (n := k * 65536) (by omega) (by omega), w64 (n := D * 65536) (by omega) (by omega), w64 (n := E * 65536) (by omega) (by omega)]
  rw [show k * (X1 * 65536) = 65536 * (k * X1) by grind, show k * (Y1 * 65536) = 65536 * (k * Y1) by grind, show k * (X2 * 65536) = 65536 * (k * X2) by grind, show k * (Y2 * 65536) = 65536 * (k * Y2) by grind]
  rw [w64 (n := 65536 * (k * X1)) (by omega) (by omega), w64 (n := 65536 * (k * Y1)) (by omega) (by omega), w64 (n := 65536 * (k * X2)) (by omega) (by omega), w64 (n := 65536 * (k * Y2)) (by omega) (by omega)]
  rw [show (X1 * 65536).tdiv 65536 = X1 from Int.mul_tdiv_cancel X1 (by omega), show (Y1 * 65536).tdiv 65536 = Y1 from Int.mul_tdiv_cancel Y1 (by omega), show (X2 * 65536).tdiv 65536 = X2 from Int.mul_tdiv_cancel X2 (by omega), show (Y2 * 65536).tdiv 65536 = Y2 from Int.mul_tdiv_cancel Y2 (by omega)]
  rw [w64 (n := X1) (by omega) (by omega), w64 (n := Y1) (by omega) (by omega), w64 (n := X2) (by omega) (by omega), w64 (n := Y2) (by omega) (by omega)]
  have m5 := mul_bd (a := X1) (b := Y2) (A := 200) (B := 200) b1.1 b1.2 b4.1 b4.2
  have m6 := mul_bd (a := Y1) (b := X2) (A := 200) (B := 200) b2.1 b2.2 b3.1 b3.2
  rw [w64 (n := X1 * Y2) (by omega) (by omega), w64 (n := Y1 * X2) (by omega) (by omega)]
  rw [w64 (n := X1 * 65536 + 65536 * (k * X2)) (by omega) (by omega), w64 (n := Y1 * 65536 + 65536 * (k * Y2)) (by omega) (by omega)]
  rw [w64 (n := X1 * 65536 + D * 65536) (by omega) (by omega), w64 (n := Y1 * 65536 + E * 65536) (by omega) (by omega), w64 (n := X2 * 65536 + D * 65536) (by omega) (by omega), w64 (n := Y2 * 65536 + E * 65536) (by omega) (by omega), w64 (n := 65536 * (k * X1) + D * 65536) (by omega) (by omega), w64 (n := 65536 * (k * Y1) + E * 65536) (by omega) (by omega)]
  have L0 := fun U V (h5 : -4200 ≤ U ∧ U ≤ 4200) (h6 : -4200 ≤ V ∧ V ≤ 4200) => lin_w (U := U) (V := V) (D := 0) (E := 0) b1 b2 b3 b4 h5 h6 (by omega) (by omega)
  simp only [Int.add_zero, Int.mul_zero] at L0
  have A := L0 (k * X2) (k * Y2) (by omega) (by omega)
  have B := L0 (X1 + k * X2) (Y1 + k * Y2) (by omega) (by omega)
  have C := L0 (k * X1) (k * Y1) (by omega) (by omega)
  have F := lin_w (U := k * X1) (V := k * Y1) b1 b2 b3 b4 (by omega) (by omega) b6 b7
  rw [show X1 * 65536 + 65536 * (k * X2) = 65536 * (X1 + k * X2) by grind, show Y1 * 65536 + 65536 * (k * Y2) = 65536 * (Y1 + k * Y2) by grind]
  rw [show X1 * 65536 + D * 65536 = 65536 * (X1 + D) by grind, show Y1 * 65536 + E * 65536 = 65536 * (Y1 + E) by grind, show X2 * 65536 + D * 65536 = 65536 * (X2 + D) by grind, show Y2 * 65536 + E * 65536 = 65536 * (Y2 + E) by grind, show 65536 * (k * X1) + D * 65536 = 65536 * (k * X1 + D) by grind, show 65536 * (k * Y1) + E * 65536 = 65536 * (k * Y1 + E) by grind]
  rw [show X1 * 65536 = 65536 * X1 by omega, show Y1 * 65536 = 65536 * Y1 by omega, show X2 * 65536 = 65536 * X2 by omega, show Y2 * 65536 = 65536 * Y2 by omega, show D * 65536 = 65536 * D by omega, show E * 65536 = 65536 * E by omega]
  rw [A, B, C, F]
  clear A B C F L0
  by_cases h : X1 * Y2 = Y1 * X2
  · have h0 : X1 * Y2 - Y1 * X2 = 0 := by omega
    simp [h, h0]
  · have h0 : ¬ X1 * Y2 - Y1 * X2 = 0 := by omega
    simp only [if_neg h, if_neg h0, if_true]
    have hn : 4096 * (X1 * Y2 - Y1 * X2) ≠ 0 := by omega
    rw [show 4096 * (k * X2 * Y2 - k * Y2 * X2) = 0 by grind, ratio_zero]
    rw [show 4096 * ((X1 + k * X2) * Y2 - (Y1 + k * Y2) * X2) = 1 * (4096 * (X1 * Y2 - Y1 * X2)) by grind, ratio_self hn (by omega) (by omega) (by omega) (by omega)]
    rw [show 4096 * (k * X1 * Y2 - k * Y1 * X2) = k * (4096 * (X1 * Y2 - Y1 * X2)) by grind, ratio_self hn (by omega) (by omega) (by omega) (by omega)]
    simp
end Go.Proofs.Ytkeacdpphmdodaa.Pure
