/- What the functions of affine, and those of its reference, come to in plain arithmetic. -/
import Derived.Test.YtabbpapmndimcaaAfQ
import Derived.Test.YtabbpapmndimcaaAfm
namespace Go.Proofs.Ytabbpapmndimcaa.AfP
open Go.RowKit Go.Proofs.YtabbpapmndimcaaW.PrintWords Go.Proofs.YtabbpapmndimcaaW.PrintLast Go.Proofs.YtabbpapmndimcaaW.PrintMore Go.Proofs.Ytabbpapmndimcaa.PAffineTells Go.Proofs.Ytabbpapmndimcaa.AfQ Go.Proofs.Ytabbpapmndimcaa.M Go.Proofs.Ytabbpapmndimcaa.Afm
attribute [local go_sem] max2_int min2_int max_two min_two max_three min_three max_four min_four
set_option linter.unusedVariables false
set_option linter.unusedSimpArgs false

theorem pick_f {n m : Int} (h1 : 0 < m) (h2 : m ≤ 9223372036854775807) : versalhand_Pick.f n m = some (n % m) := by
  have ha := Int.lt_tmod_of_pos n h1
  have hb := Int.tmod_lt_of_pos n h1
  rw [← tmod_pick h1]
  unfold versalhand_Pick.f
  rw [if_neg (by omega)]
  by_cases h : n.tmod m < 0
  · rw [if_pos h, if_pos h, w64 (by omega) (by omega)]
  · rw [if_neg h, if_neg h]

theorem num_f {a : Int} (ha : (Lit.int .i64 a).wf = true) : ∃ v, versalhand_Num.f a = some v ∧ -9223372036854775808 ≤ v ∧ v ≤ 9223372036854775807 := by
  have hb := bounds_i64 ha
  unfold versalhand_Num.f
  have w : ∀ n : Int, -9223372036854775808 ≤ wrap64 n ∧ wrap64 n ≤ 9223372036854775807 := fun n => by unfold wrap64; omega
  simp only [pick_f (show (0:Int) < 8 by omega) (by omega), pick_f (show (0:Int) < 2001 by omega) (by omega), pick_f (show (0:Int) < 9 by omega) (by omega), pick_f (show (0:Int) < 1310720 by omega) (by omega), Option.bind_some]
  split
  · exact ⟨_, rfl, hb⟩
  · split
    · exact ⟨_, rfl, w _⟩
    · split
      · exact ⟨_, rfl, w _⟩
      · split
        · exact ⟨_, rfl, w _⟩
        · exact ⟨_, rfl, w _⟩

theorem clip_f (a : Int) : fixed_Clip.f a = some (clip a) := rfl

theorem rclip_f (a : Int) : versalref2_Clip.f a = some (clip a) := by
  unfold versalref2_Clip.f versalref2_Within.f clip
  simp only [Option.bind_some, Option.some.injEq]
  unfold mx mn; omega
theorem rfloor_f {a b : Int} (hb : 0 < b) (h1 : -9000000000000000000 ≤ a) (h2 : a ≤ 9000000000000000000) : versalref2_Floor.f a b = some (a / b) := by
  have h3 := tdiv_le (n := a) (d := b)
  rw [← tdiv_floor hb]
  unfold versalref2_Floor.f
  rw [if_neg (by omega), w64 (n := a.tdiv b) (by omega) (by omega), w64 (n := a.tdiv b - 1) (by omega) (by omega)]
  split <;> rfl

theorem mul_f (a b : Int) : fixed_Mul.f a b = some (mul a b) := by
  have h := clip_mul_bd a b
  unfold fixed_Mul.f mul
  simp only [clip_f, Option.bind_some]
  rw [w64 (n := clip a * clip b) (by omega) (by omega), w64 (by omega) (by omega)]

theorem rmul_f (a b : Int) : versalref2_Mul.f a b = some (mul a b) := by
  have h := clip_mul_bd a b
  unfold versalref2_Mul.f mul
  simp only [rclip_f, Option.bind_some]
  rw [w64 (n := clip a * clip b) (by omega) (by omega), w64 (by omega) (by omega), rfloor_f (by omega) (by omega) (by omega)]
  simp only [Option.bind_some]

theorem floored_f {a b : Int} (hb : b ≠ 0) (h1 : -9000000000000000000 ≤ a) (h2 : a ≤ 9000000000000000000) : fixed_floored.f a b = some (fl a b) := by
  have h3 := tdiv_le (n := a) (d := b)
  rw [← fl_tdiv hb]
  unfold fixed_floored.f
  rw [if_neg hb, w64 (n := a.tdiv b) (by omega) (by omega), w64 (n := a.tdiv b - 1) (by omega) (by omega)]
  split
  · rfl
  · split
    · rfl
    · rfl

theorem div_f (a b : Int) : fixed_Div.f a b = some (div a b) := by
  have h := clip_bd a
  unfold fixed_Div.f div
  simp only [clip_f, Option.bind_some]
  by_cases h0 : clip b = 0
  · rw [if_pos h0, if_pos h0]
    by_cases h1 : clip a > 0
    · rw [if_pos h1, if_pos h1]
    · rw [if_neg h1, if_neg h1]
      by_cases h2 : clip a < 0
      · rw [if_pos h2, if_pos h2]
      · rw [if_neg h2, if_neg h2]
  · rw [if_neg h0, if_neg h0, w64 (by omega) (by omega), floored_f h0 (by omega) (by omega)]
    simp only [Option.bind_some]

theorem rdiv_f (k : Nat) (hk : 2 ≤ k) (a b : Int) : versalref2_Div.f k a b = some (div a b) := by
  obtain ⟨k, rfl⟩ : ∃ m, k = m + 2 := ⟨k - 2, by omega⟩
  have h := clip_bd a
  have h' := clip_bd b
  unfold versalref2_Div.f div
  simp only [rclip_f, Option.bind_some]
  by_cases h0 : clip b = 0
  · rw [if_pos h0, if_pos h0]
    by_cases h1 : clip a > 0
    · rw [if_pos h1, decide_eq_true h1]; simp only [versalref2_Div.j0, if_true]
    · rw [if_neg h1, decide_eq_false h1]; simp only [versalref2_Div.j0, versalref2_Div.j1, if_pos h0]
      by_cases h2 : clip a < 0
      · rw [if_pos h2, decide_eq_true h2]; rfl
      · rw [if_neg h2, decide_eq_false h2]; rfl
  · rw [if_neg h0, if_neg h0]; simp only [versalref2_Div.j0, versalref2_Div.j1, if_neg h0]
    unfold fl
    by_cases h3 : clip b < 0
    · rw [if_neg (show ¬ 0 < clip b by omega), if_pos h3, w64 (n := -clip a) (by omega) (by omega), w64 (n := -clip b) (by omega) (by omega), w64 (by omega) (by omega), rfloor_f (by omega) (by omega) (by omega), show -clip a * 65536 = -(clip a * 65536) by omega]
      simp [rclip_f]
    · rw [if_pos (show 0 < clip b by omega), if_neg h3, w64 (by omega) (by omega), rfloor_f (by omega) (by omega) (by omega)]
      simp [rclip_f]

theorem norm_f (a : Int) : angle_Norm.f a = some (a % 65536) := by
  unfold angle_Norm.f
  have h1 := Int.lt_tmod_of_pos a (show (0 : Int) < 65536 by omega)
  have h2 := Int.tmod_lt_of_pos a (show (0 : Int) < 65536 by omega)
  have h3 := tmod_pick (n := a) (m := 65536) (by omega)
  rw [w64 (by omega) (by omega)]
  rw [Int.tmod_eq_emod_of_nonneg (by omega)]
  split at h3 <;> simp only [Option.some.injEq] <;> omega
theorem sin_f : ∀ (k : Nat), 2 ≤ k → ∀ a : Int, angle_Sin.f k a = some (sin a) := by
  intro k hk a
  have low : ∀ (k : Nat) (n : Int), 0 ≤ n → n < 32768 → angle_Sin.f (k + 1) n = some (sinp n) := by
    intro k n h0 h1
    have hp := p_bd h0 (by omega)
    simp only [angle_Sin.f, norm_f, Option.bind_some]
    rw [show n % 65536 = n by omega, if_neg (by omega), w64 (n := 32768 - n) (by omega) (by omega), w64 (n := n * (32768 - n)) (by omega) (by omega)]
    unfold sinp
    generalize n * (32768 - n) = p at *
    rw [w64 (n := 4 * p) (by omega) (by omega), w64 (n := 5368709120 - 4 * p) (by omega) (by omega), if_neg (by omega), w64 (n := 16 * p) (by omega) (by omega), w64 (n := 16 * p * 65536) (by omega) (by omega), Int.tdiv_eq_ediv_of_nonneg (by omega)]
    have hb := ediv_bd (n := 16 * p * 65536) (d := 5368709120 - 4 * p) (by omega)
    rw [w64 (by omega) (by omega)]
  have h1 := Int.emod_nonneg a (show (65536 : Int) ≠ 0 by omega)
  have h2 := Int.emod_lt_of_pos a (show (0 : Int) < 65536 by omega)
  unfold sin
  by_cases h : a % 65536 ≥ 32768
  · obtain ⟨k, rfl⟩ : ∃ m, k = m + 2 := ⟨k - 2, by omega⟩
    rw [if_pos h]
    simp only [angle_Sin.f, norm_f, Option.bind_some]
    rw [if_pos h, w64 (by omega) (by omega)]
    have e := low k (a % 65536 - 32768) (by omega) (by omega)
    simp only [angle_Sin.f, norm_f, Option.bind_some] at e
    rw [e]
    have hb := sinp_bd (n := a % 65536 - 32768) (by omega) (by omega)
    simp only [Option.bind_some]
    rw [w64 (by omega) (by omega)]
  · obtain ⟨k, rfl⟩ : ∃ m, k = m + 1 := ⟨k - 1, by omega⟩
    rw [if_neg h]
    have e := low k (a % 65536) (by omega) (by omega)
    simp only [angle_Sin.f, norm_f, Option.bind_some] at e ⊢
    rw [show a % 65536 % 65536 = a % 65536 by omega] at e
    exact e
theorem cos_f (k : Nat) (hk : 2 ≤ k) (a : Int) : angle_Cos.f k a = some (cos a) := by
  unfold angle_Cos.f cos
  simp only [norm_f, sin_f k hk, Option.bind_some]
  rw [w64 (by omega) (by omega)]

theorem rnorm_f (a : Int) : versalref2_Norm.f a = some (a % 65536) := by
  unfold versalref2_Norm.f
  have h1 := Int.lt_tmod_of_pos a (show (0 : Int) < 65536 by omega)
  have h2 := Int.tmod_lt_of_pos a (show (0 : Int) < 65536 by omega)
  rw [← tmod_pick (n := a) (m := 65536) (by omega)]
  split
  · rw [w64 (by omega) (by omega)]
  · rfl
theorem rsin_f : ∀ (k : Nat), 2 ≤ k → ∀ a : Int, versalref2_Sin.f k a = some (sin a) := by
  intro k hk a
  have low : ∀ (k : Nat) (n : Int), 0 ≤ n → n < 32768 → versalref2_Sin.f (k + 1) n = some (sinp n) := by
    intro k n h0 h1
    have hp := p_bd h0 (by omega)
    simp only [versalref2_Sin.f, rnorm_f, Option.bind_some]
    rw [show n % 65536 = n by omega, if_neg (by omega), w64 (n := 32768 - n) (by omega) (by omega), w64 (n := n * (32768 - n)) (by omega) (by omega)]
    unfold sinp
    generalize n * (32768 - n) = p at *
    rw [w64 (n := 4 * p) (by omega) (by omega), w64 (n := 5368709120 - 4 * p) (by omega) (by omega), w64 (n := 16 * p) (by omega) (by omega), w64 (n := 16 * p * 65536) (by omega) (by omega), rfloor_f (by omega) (by omega) (by omega)]
    rfl
  have h1 := Int.emod_nonneg a (show (65536 : Int) ≠ 0 by omega)
  have h2 := Int.emod_lt_of_pos a (show (0 : Int) < 65536 by omega)
  unfold sin
  by_cases h : a % 65536 ≥ 32768
  · obtain ⟨k, rfl⟩ : ∃ m, k = m + 2 := ⟨k - 2, by omega⟩
    rw [if_pos h]
    simp only [versalref2_Sin.f, rnorm_f, Option.bind_some]
    rw [if_pos h, w64 (by omega) (by omega)]
    have e := low k (a % 65536 - 32768) (by omega) (by omega)
    simp only [versalref2_Sin.f, rnorm_f, Option.bind_some] at e
    rw [e]
    have hb := sinp_bd (n := a % 65536 - 32768) (by omega) (by omega)
    simp only [Option.bind_some]
    rw [w64 (by omega) (by omega)]
  · obtain ⟨k, rfl⟩ : ∃ m, k = m + 1 := ⟨k - 1, by omega⟩
    rw [if_neg h]
    have e := low k (a % 65536) (by omega) (by omega)
    simp only [versalref2_Sin.f, rnorm_f, Option.bind_some] at e ⊢
    rw [show a % 65536 % 65536 = a % 65536 by omega] at e
    exact e
theorem rcos_f (k : Nat) (hk : 2 ≤ k) (a : Int) : versalref2_Cos.f k a = some (cos a) := by
  unfold versalref2_Cos.f cos
  simp only [rnorm_f, rsin_f k hk, Option.bind_some]
  rw [w64 (by omega) (by omega)]

theorem tan_f (k : Nat) (hk : 2 ≤ k) (a : Int) : angle_Tan.f k a = some (tan a) := by
  unfold angle_Tan.f tan
  simp only [sin_f k hk, cos_f k hk, div_f, Option.bind_some]

theorem rtan_f (k : Nat) (hk : 2 ≤ k) (a : Int) : versalref2_Tan.f k a = some (tan a) := by
  unfold versalref2_Tan.f tan
  simp only [rsin_f k hk, rcos_f k hk, rdiv_f k hk, Option.bind_some]

theorem clipped_f (a b c d e f : Int) : affine_clipped.f a b c d e f = some (clipped (a, b, c, d, e, f)) := by
  unfold affine_clipped.f clipped; simp only [clip_f, Option.bind_some]
theorem apply_f (a b c d e f x y : Int) : affine_Apply.f a b c d e f x y = some (apply (a, b, c, d, e, f) x y) := by
  unfold affine_Apply.f
  rw [clipped_f]
  simp only [Option.bind_some, mul_f, clip_f]
  have h1 := mul_bd' a x
  have h2 := mul_bd' c y
  have h3 := clip_bd e
  have h4 := mul_bd' b x
  have h5 := mul_bd' d y
  have h6 := clip_bd f
  unfold clipped apply
  simp only [mul_cl]
  rw [w64 (n := mul a x + mul c y) (by omega) (by omega), w64 (n := mul a x + mul c y + clip e) (by omega) (by omega), w64 (n := mul b x + mul d y) (by omega) (by omega), w64 (n := mul b x + mul d y + clip f) (by omega) (by omega)]
theorem two_f (a b c d : Int) : affine_two.f a b c d = some (two a b c d) := by
  have h1 := mul_bd' a b
  have h2 := mul_bd' c d
  unfold affine_two.f two
  simp only [Option.bind_some, mul_f, clip_f]
  rw [w64 (by omega) (by omega)]
theorem shift_f (x y : Int) : affine_Shift.f x y = some (shift x y) := by
  unfold affine_Shift.f affine_One.f shift; simp only [clip_f, Option.bind_some]
theorem scale_f (x y : Int) : affine_Scale.f x y = some (scale x y) := by
  unfold affine_Scale.f scale; simp only [clip_f, Option.bind_some]
theorem rotate_f (k : Nat) (hk : 2 ≤ k) (a : Int) : affine_Rotate.f k a = some (rotate a) := by
  have h := sin_bd a
  unfold affine_Rotate.f rotate
  rw [sin_f k hk, cos_f k hk]
  simp only [Option.bind_some]
  rw [w64 (n := -sin a) (by omega) (by omega)]
theorem tan_bd (a : Int) : -2147483647 ≤ tan a ∧ tan a ≤ 2147483647 := div_bd _ _
theorem skew_f (k : Nat) (hk : 2 ≤ k) (a b : Int) : affine_Skew.f k a b = some (skew a b) := by
  have h := tan_bd a
  unfold affine_Skew.f affine_One.f skew
  rw [tan_f k hk, tan_f k hk]
  simp only [Option.bind_some]
  rw [w64 (n := -tan a) (by omega) (by omega)]
/-! ### the reference -/
theorem rapply_f (a b c d e f x y : Int) : versalref2_Apply.f a b c d e f x y = some (apply (a, b, c, d, e, f) x y) := by
  unfold versalref2_Apply.f
  simp only [Option.bind_some, rmul_f, rclip_f]
  have h1 := mul_bd' a x
  have h2 := mul_bd' c y
  have h3 := clip_bd e
  have h4 := mul_bd' b x
  have h5 := mul_bd' d y
  have h6 := clip_bd f
  rw [w64 (n := mul a x + mul c y) (by omega) (by omega), w64 (n := mul a x + mul c y + clip e) (by omega) (by omega), w64 (n := mul b x + mul d y) (by omega) (by omega), w64 (n := mul b x + mul d y + clip f) (by omega) (by omega)]
  rfl
theorem rshift_f (x y : Int) : versalref2_Shift.f x y = some (shift x y) := by
  unfold versalref2_Shift.f shift; simp only [rclip_f, Option.bind_some]
theorem rscale_f (x y : Int) : versalref2_Scale.f x y = some (scale x y) := by
  unfold versalref2_Scale.f scale; simp only [rclip_f, Option.bind_some]
theorem rrotate_f (k : Nat) (hk : 2 ≤ k) (a : Int) : versalref2_Rotate.f k a = some (rotate a) := by
  have h := sin_bd a
  unfold versalref2_Rotate.f rotate
  rw [rsin_f k hk, rcos_f k hk]
  simp only [Option.bind_some]
  rw [w64 (n := -sin a) (by omega) (by omega)]
theorem rskew_f (k : Nat) (hk : 2 ≤ k) (a b : Int) : versalref2_Skew.f k a b = some (skew a b) := by
  have h := tan_bd a
  unfold versalref2_Skew.f skew
  rw [rtan_f k hk, rtan_f k hk]
  simp only [Option.bind_some]
  rw [w64 (n := -tan a) (by omega) (by omega)]
theorem known_f : versallaw5_known.f = some true := by
  unfold versallaw5_known.f
  rw [shift_f]
  simp only [Option.bind_some, apply_f]
  decide +kernel

end Go.Proofs.Ytabbpapmndimcaa.AfP
