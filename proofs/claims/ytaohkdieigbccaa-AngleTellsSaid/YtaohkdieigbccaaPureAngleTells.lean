/- Of any numbers sine, cosine, tangent, and the angle of any place, are as the document says. No conditions. -/
import Derived.Test.YtaohkdieigbccaaPAngleTellsx2
import Derived.Test.YtaohkdieigbccaaMath
import Derived.Test.YtaohkdieigbccaaAng
namespace Go.Proofs.Ytaohkdieigbccaa.Pure
open Go.RowKit Go.Proofs.Ytaohkdieigbccaa.PAngleTells Go.Proofs.YtaohkdieigbccaaW.PrintWords Go.Proofs.YtaohkdieigbccaaW.PrintLast Go.Proofs.Ytaohkdieigbccaa.M
set_option linter.unusedSimpArgs false
set_option linter.unusedVariables false

theorem pick_f {n m : Int} (h1 : 0 < m) (h2 : m ≤ 9223372036854775807) : versalhand_Pick.f n m = some (n % m) := by
  have ha := Int.lt_tmod_of_pos n h1
  have hb := Int.tmod_lt_of_pos n h1
  rw [← tmod_pick h1]
  unfold versalhand_Pick.f
  rw [if_neg (by omega)]
  by_cases h : n.tmod m < 0
  · rw [if_pos h, if_pos h, w64 (by omega) (by omega)]
  · rw [if_neg h, if_neg h]

theorem num_f {a : Int} (ha : (Lit.int .i64 a).wf = true) : ∃ v, versalhand_Num.f a = some v ∧ -9223372036854775808 ≤ v ∧ v ≤ 9223372036854775807 := by
  have hb := bounds_i64 ha
  unfold versalhand_Num.f
  have w : ∀ n : Int, -9223372036854775808 ≤ wrap64 n ∧ wrap64 n ≤ 9223372036854775807 := fun n => by unfold wrap64; omega
  simp only [pick_f (show (0:Int) < 8 by omega) (by omega), pick_f (show (0:Int) < 2001 by omega) (by omega), pick_f (show (0:Int) < 9 by omega) (by omega), pick_f (show (0:Int) < 1310720 by omega) (by omega), Option.bind_some]
  split
  · exact ⟨_, rfl, hb⟩
  · split
    · exact ⟨_, rfl, w _⟩
    · split
      · exact ⟨_, rfl, w _⟩
      · split
        · exact ⟨_, rfl, w _⟩
        · exact ⟨_, rfl, w _⟩

theorem clip_f (a : Int) : fixed_Clip.f a = some (clip a) := rfl

theorem floored_f {a b : Int} (hb : b ≠ 0) (h1 : -9000000000000000000 ≤ a) (h2 : a ≤ 9000000000000000000) : fixed_floored.f a b = some (fl a b) := by
  have h3 := tdiv_le (n := a) (d := b)
  rw [← fl_tdiv hb]
  unfold fixed_floored.f
  rw [if_neg hb, w64 (n := a.tdiv b) (by omega) (by omega), w64 (n := a.tdiv b - 1) (by omega) (by omega)]
  split
  · rfl
  · split
    · rfl
    · rfl

theorem div_f (a b : Int) : fixed_Div.f a b = some (div a b) := by
  have h := clip_bd a
  unfold fixed_Div.f div
  simp only [clip_f, Option.bind_some]
  by_cases h0 : clip b = 0
  · rw [if_pos h0, if_pos h0]
    by_cases h1 : clip a > 0
    · rw [if_pos h1, if_pos h1]
    · rw [if_neg h1, if_neg h1]
      by_cases h2 : clip a < 0
      · rw [if_pos h2, if_pos h2]
      · rw [if_neg h2, if_neg h2]
  · rw [if_neg h0, if_neg h0, w64 (by omega) (by omega), floored_f h0 (by omega) (by omega)]
    simp only [Option.bind_some]

theorem norm_f (a : Int) : angle_Norm.f a = some (a % 65536) := by
  unfold angle_Norm.f
  have h1 := Int.lt_tmod_of_pos a (show (0 : Int) < 65536 by omega)
  have h2 := Int.tmod_lt_of_pos a (show (0 : Int) < 65536 by omega)
  have h3 := tmod_pick (n := a) (m := 65536) (by omega)
  rw [w64 (by omega) (by omega)]
  rw [Int.tmod_eq_emod_of_nonneg (by omega)]
  split at h3 <;> simp only [Option.some.injEq] <;> omega

theorem sin_f : ∀ (k : Nat), 2 ≤ k → ∀ a : Int, angle_Sin.f k a = some (sin a) := by
  intro k hk a
  have low : ∀ (k : Nat) (n : Int), 0 ≤ n → n < 32768 → angle_Sin.f (k + 1) n = some (sinp n) := by
    intro k n h0 h1
    have hp := p_bd h0 (by omega)
    simp only [angle_Sin.f, norm_f, Option.bind_some]
    rw [show n % 65536 = n by omega, if_neg (by omega), w64 (n := 32768 - n) (by omega) (by omega), w64 (n := n * (32768 - n)) (by omega) (by omega)]
    unfold sinp
    generalize n * (32768 - n) = p at *
    rw [w64 (n := 4 * p) (by omega) (by omega), w64 (n := 5368709120 - 4 * p) (by omega) (by omega), if_neg (by omega), w64 (n := 16 * p) (by omega) (by omega), w64 (n := 16 * p * 65536) (by omega) (by omega), Int.tdiv_eq_ediv_of_nonneg (by omega)]
    have hb := ediv_bd (n := 16 * p * 65536) (d := 5368709120 - 4 * p) (by omega)
    rw [w64 (by omega) (by omega)]
  have h1 := Int.emod_nonneg a (show (65536 : Int) ≠ 0 by omega)
  have h2 := Int.emod_lt_of_pos a (show (0 : Int) < 65536 by omega)
  unfold sin
  by_cases h : a % 65536 ≥ 32768
  · obtain ⟨k, rfl⟩ : ∃ m, k = m + 2 := ⟨k - 2, by omega⟩
    rw [if_pos h]
    simp only [angle_Sin.f, norm_f, Option.bind_some]
    rw [if_pos h, w64 (by omega) (by omega)]
    have e := low k (a % 65536 - 32768) (by omega) (by omega)
    simp only [angle_Sin.f, norm_f, Option.bind_some] at e
    rw [e]
    have hb := sinp_bd (n := a % 65536 - 32768) (by omega) (by omega)
    simp only [Option.bind_some]
    rw [w64 (by omega) (by omega)]
  · obtain ⟨k, rfl⟩ : ∃ m, k = m + 1 := ⟨k - 1, by omega⟩
    rw [if_neg h]
    have e := low k (a % 65536) (by omega) (by omega)
    simp only [angle_Sin.f, norm_f, Option.bind_some] at e ⊢
    rw [show a % 65536 % 65536 = a % 65536 by omega] at e
    exact e
theorem cos_f (k : Nat) (hk : 2 ≤ k) (a : Int) : angle_Cos.f k a = some (cos a) := by
  unfold angle_Cos.f cos
  simp only [norm_f, sin_f k hk, Option.bind_some]
  rw [w64 (by omega) (by omega)]

theorem tan_f (k : Nat) (hk : 2 ≤ k) (a : Int) : angle_Tan.f k a = some (tan a) := by
  unfold angle_Tan.f tan
  simp only [sin_f k hk, cos_f k hk, div_f, Option.bind_some]

theorem away_f (n : Int) : angle_away.f (clip n) = some (abs (clip n)) := by
  have := clip_bd n
  unfold angle_away.f abs
  rw [w64 (by omega) (by omega)]
theorem quad_f (k : Nat) {y x q : Int} (h0 : 0 ≤ q) (h1 : q ≤ 16384) : angle_Atan.j0 (k + 1) y x q = some (quad y x q) := by
  simp only [angle_Atan.j0, norm_f, Option.bind_some]
  rw [w64 (n := 32768 - q) (by omega) (by omega), w64 (n := -(32768 - q)) (by omega) (by omega), w64 (n := -q) (by omega) (by omega)]
  unfold quad
  split <;> split <;> rfl
theorem atan_f (k : Nat) (hk : 1 ≤ k) (y x : Int) : angle_Atan.f k y x = some (atan y x) := by
  obtain ⟨k, rfl⟩ : ∃ m, k = m + 1 := ⟨k - 1, by omega⟩
  unfold angle_Atan.f atan
  simp only [clip_f, Option.bind_some, away_f]
  by_cases h : mx (abs (clip x)) (abs (clip y)) = 0
  · rw [if_pos h, if_pos h]
  · rw [if_neg h, if_neg h]
    have h1 := abs_bd x
    have h2 := abs_bd y
    have hu : 0 < mx (abs (clip x)) (abs (clip y)) := by unfold mx at *; omega
    have hv0 : 0 ≤ mn (abs (clip x)) (abs (clip y)) := by unfold mn; omega
    have hv1 : mn (abs (clip x)) (abs (clip y)) ≤ mx (abs (clip x)) (abs (clip y)) := by unfold mx mn; omega
    have hv2 : mn (abs (clip x)) (abs (clip y)) ≤ 2147483647 := by unfold mn; omega
    have hs := slope_bd hv0 hv1 hu
    have hb := first_bd y x h
    rw [w64 (n := mn (abs (clip x)) (abs (clip y)) * 65536) (by omega) (by omega), Int.tdiv_eq_ediv_of_nonneg (by omega)]
    have es : mn (abs (clip x)) (abs (clip y)) * 65536 / mx (abs (clip x)) (abs (clip y)) = slope (mx (abs (clip x)) (abs (clip y))) (mn (abs (clip x)) (abs (clip y))) := rfl
    rw [es]
    generalize slope (mx (abs (clip x)) (abs (clip y))) (mn (abs (clip x)) (abs (clip y))) = z at *
    have hz := arc_in hs.1 hs.2
    rw [w64 (n := z) (by omega) (by omega), w64 (n := 8192 * z) (by omega) (by omega), w64 (n := 8192 * z * 65536) (by omega) (by omega), w64 (n := 2847 * z) (by omega) (by omega), w64 (n := 65536 - z) (by omega) (by omega)]
    have e2 : 2847 * z * (65536 - z) = 2847 * (z * (65536 - z)) := by grind
    rw [w64 (n := 2847 * z * (65536 - z)) (by omega) (by omega), w64 (n := 8192 * z * 65536 + 2847 * z * (65536 - z)) (by omega) (by omega)]
    have ea : (8192 * z * 65536 + 2847 * z * (65536 - z)) / 4294967296 = arc z := rfl
    rw [ea, w64 (n := 16384 - arc z) (by omega) (by omega)]
    by_cases hc : abs (clip y) > abs (clip x)
    · rw [if_pos hc, if_pos hc, quad_f k (by omega) (by omega)]
    · rw [if_neg hc, if_neg hc, quad_f k (by omega) (by omega)]

theorem rclip_f (a : Int) : versalref2_Clip.f a = some (clip a) := by
  unfold versalref2_Clip.f versalref2_Within.f clip
  simp only [Option.bind_some, Option.some.injEq]
  unfold mx mn; omega
theorem rfloor_f {a b : Int} (hb : 0 < b) (h1 : -9000000000000000000 ≤ a) (h2 : a ≤ 9000000000000000000) : versalref2_Floor.f a b = some (a / b) := by
  have h3 := tdiv_le (n := a) (d := b)
  rw [← tdiv_floor hb]
  unfold versalref2_Floor.f
  rw [if_neg (by omega), w64 (n := a.tdiv b) (by omega) (by omega), w64 (n := a.tdiv b - 1) (by omega) (by omega)]
  split <;> rfl

theorem rdiv_f (k : Nat) (hk : 2 ≤ k) (a b : Int) : versalref2_Div.f k a b = some (div a b) := by
  obtain ⟨k, rfl⟩ : ∃ m, k = m + 2 := ⟨k - 2, by omega⟩
  have h := clip_bd a
  have h' := clip_bd b
  unfold versalref2_Div.f div
  simp only [rclip_f, Option.bind_some]
  by_cases h0 : clip b = 0
  · rw [if_pos h0, if_pos h0]
    by_cases h1 : clip a > 0
    · rw [if_pos h1, decide_eq_true h1]; simp only [versalref2_Div.j0, if_true]
    · rw [if_neg h1, decide_eq_false h1]; simp only [versalref2_Div.j0, versalref2_Div.j1, if_pos h0]
      by_cases h2 : clip a < 0
      · rw [if_pos h2, decide_eq_true h2]; rfl
      · rw [if_neg h2, decide_eq_false h2]; rfl
  · rw [if_neg h0, if_neg h0]; simp only [versalref2_Div.j0, versalref2_Div.j1, if_neg h0]
    unfold fl
    by_cases h3 : clip b < 0
    · rw [if_neg (show ¬ 0 < clip b by omega), if_pos h3, w64 (n := -clip a) (by omega) (by omega), w64 (n := -clip b) (by omega) (by omega), w64 (by omega) (by omega), rfloor_f (by omega) (by omega) (by omega), show -clip a * 65536 = -(clip a * 65536) by omega]
      simp [rclip_f]
    · rw [if_pos (show 0 < clip b by omega), if_neg h3, w64 (by omega) (by omega), rfloor_f (by omega) (by omega) (by omega)]
      simp [rclip_f]

theorem rnorm_f (a : Int) : versalref2_Norm.f a = some (a % 65536) := by
  unfold versalref2_Norm.f
  have h1 := Int.lt_tmod_of_pos a (show (0 : Int) < 65536 by omega)
  have h2 := Int.tmod_lt_of_pos a (show (0 : Int) < 65536 by omega)
  rw [← tmod_pick (n := a) (m := 65536) (by omega)]
  split
  · rw [w64 (by omega) (by omega)]
  · rfl

theorem rsin_f : ∀ (k : Nat), 2 ≤ k → ∀ a : Int, versalref2_Sin.f k a = some (sin a) := by
  intro k hk a
  have low : ∀ (k : Nat) (n : Int), 0 ≤ n → n < 32768 → versalref2_Sin.f (k + 1) n = some (sinp n) := by
    intro k n h0 h1
    have hp := p_bd h0 (by omega)
    simp only [versalref2_Sin.f, rnorm_f, Option.bind_some]
    rw [show n % 65536 = n by omega, if_neg (by omega), w64 (n := 32768 - n) (by omega) (by omega), w64 (n := n * (32768 - n)) (by omega) (by omega)]
    unfold sinp
    generalize n * (32768 - n) = p at *
    rw [w64 (n := 4 * p) (by omega) (by omega), w64 (n := 5368709120 - 4 * p) (by omega) (by omega), w64 (n := 16 * p) (by omega) (by omega), w64 (n := 16 * p * 65536) (by omega) (by omega), rfloor_f (by omega) (by omega) (by omega)]
    rfl
  have h1 := Int.emod_nonneg a (show (65536 : Int) ≠ 0 by omega)
  have h2 := Int.emod_lt_of_pos a (show (0 : Int) < 65536 by omega)
  unfold sin
  by_cases h : a % 65536 ≥ 32768
  · obtain ⟨k, rfl⟩ : ∃ m, k = m + 2 := ⟨k - 2, by omega⟩
    rw [if_pos h]
    simp only [versalref2_Sin.f, rnorm_f, Option.bind_some]
    rw [if_pos h, w64 (by omega) (by omega)]
    have e := low k (a % 65536 - 32768) (by omega) (by omega)
    simp only [versalref2_Sin.f, rnorm_f, Option.bind_some] at e
    rw [e]
    have hb := sinp_bd (n := a % 65536 - 32768) (by omega) (by omega)
    simp only [Option.bind_some]
    rw [w64 (by omega) (by omega)]
  · obtain ⟨k, rfl⟩ : ∃ m, k = m + 1 := ⟨k - 1, by omega⟩
    rw [if_neg h]
    have e := low k (a % 65536) (by omega) (by omega)
    simp only [versalref2_Sin.f, rnorm_f, Option.bind_some] at e ⊢
    rw [show a % 65536 % 65536 = a % 65536 by omega] at e
    exact e
theorem rcos_f (k : Nat) (hk : 2 ≤ k) (a : Int) : versalref2_Cos.f k a = some (cos a) := by
  unfold versalref2_Cos.f cos
  simp only [rnorm_f, rsin_f k hk, Option.bind_some]
  rw [w64 (by omega) (by omega)]

theorem rtan_f (k : Nat) (hk : 2 ≤ k) (a : Int) : versalref2_Tan.f k a = some (tan a) := by
  unfold versalref2_Tan.f tan
  simp only [rsin_f k hk, rcos_f k hk, rdiv_f k hk, Option.bind_some]

theorem rabs_f (n : Int) : versalref2_abs.f (clip n) = some (abs (clip n)) := by
  have := clip_bd n
  unfold versalref2_abs.f abs
  rw [w64 (by omega) (by omega)]
theorem rquad_f (k : Nat) {y x q : Int} (h0 : 0 ≤ q) (h1 : q ≤ 16384) : versalref2_Atan.j1 (k + 1) y x q = some (quad y x q) := by
  simp only [versalref2_Atan.j1, rnorm_f, Option.bind_some]
  rw [w64 (n := 32768 - q) (by omega) (by omega), w64 (n := -(32768 - q)) (by omega) (by omega), w64 (n := -q) (by omega) (by omega)]
  unfold quad
  split <;> split <;> rfl
theorem ratan_f (k : Nat) (hk : 2 ≤ k) (y x : Int) : versalref2_Atan.f k y x = some (atan y x) := by
  obtain ⟨k, rfl⟩ : ∃ m, k = m + 2 := ⟨k - 2, by omega⟩
  have h1 := abs_bd x
  have h2 := abs_bd y
  have hx0 : abs (clip x) = 0 ↔ clip x = 0 := by unfold abs mx; omega
  have hy0 : abs (clip y) = 0 ↔ clip y = 0 := by unfold abs mx; omega
  have e : versalref2_Atan.f (k + 2) y x = versalref2_Atan.j0 (k + 2) (clip y) (clip x) (decide (mx (abs (clip x)) (abs (clip y)) = 0)) := by
    unfold versalref2_Atan.f
    simp only [rclip_f, Option.bind_some]
    by_cases h : clip x = 0
    · rw [if_pos h]
      by_cases h' : clip y = 0
      · rw [decide_eq_true (by unfold mx; omega), h']; rfl
      · rw [decide_eq_false (by unfold mx; omega), beq_eq_false_iff_ne.mpr h']
    · rw [if_neg h, decide_eq_false (by unfold mx; omega)]
  rw [e]
  unfold atan
  by_cases h : mx (abs (clip x)) (abs (clip y)) = 0
  · rw [if_pos h, decide_eq_true h]; simp only [versalref2_Atan.j0, if_true]
  · rw [if_neg h, decide_eq_false h]
    simp only [versalref2_Atan.j0, rabs_f, Option.bind_some]
    rw [if_neg (by decide), if_neg h]
    have hu : 0 < mx (abs (clip x)) (abs (clip y)) := by unfold mx at *; omega
    have hv0 : 0 ≤ mn (abs (clip x)) (abs (clip y)) := by unfold mn; omega
    have hv1 : mn (abs (clip x)) (abs (clip y)) ≤ mx (abs (clip x)) (abs (clip y)) := by unfold mx mn; omega
    have hv2 : mn (abs (clip x)) (abs (clip y)) ≤ 2147483647 := by unfold mn; omega
    have hs := slope_bd hv0 hv1 hu
    have hb := first_bd y x h
    rw [w64 (n := mn (abs (clip x)) (abs (clip y)) * 65536) (by omega) (by omega), Int.tdiv_eq_ediv_of_nonneg (a := mn (abs (clip x)) (abs (clip y)) * 65536) (by omega)]
    have es : mn (abs (clip x)) (abs (clip y)) * 65536 / mx (abs (clip x)) (abs (clip y)) = slope (mx (abs (clip x)) (abs (clip y))) (mn (abs (clip x)) (abs (clip y))) := rfl
    rw [es]
    generalize slope (mx (abs (clip x)) (abs (clip y))) (mn (abs (clip x)) (abs (clip y))) = z at *
    have hz := arc_in hs.1 hs.2
    rw [w64 (n := z) (by omega) (by omega), w64 (n := 8192 * z) (by omega) (by omega), w64 (n := 8192 * z * 65536) (by omega) (by omega), w64 (n := 2847 * z) (by omega) (by omega), w64 (n := 65536 - z) (by omega) (by omega)]
    have e2 : 2847 * z * (65536 - z) = 2847 * (z * (65536 - z)) := by grind
    rw [w64 (n := 2847 * z * (65536 - z)) (by omega) (by omega), w64 (n := 8192 * z * 65536 + 2847 * z * (65536 - z)) (by omega) (by omega), Int.tdiv_eq_ediv_of_nonneg (a := 8192 * z * 65536 + 2847 * z * (65536 - z)) (by omega)]
    have ea : (8192 * z * 65536 + 2847 * z * (65536 - z)) / 4294967296 = arc z := rfl
    rw [ea, w64 (n := arc z) (by omega) (by omega), w64 (n := 16384 - arc z) (by omega) (by omega)]
    by_cases hc : abs (clip y) > abs (clip x)
    · rw [if_pos hc, if_pos hc, rquad_f k (by omega) (by omega)]
    · rw [if_neg hc, if_neg hc, rquad_f k (by omega) (by omega)]

theorem known_t (k : Nat) (hk : 2 ≤ k) : versallaw4_known.f k = some true := by
  unfold versallaw4_known.f
  simp only [sin_f k hk, cos_f k hk, atan_f k (by omega), Option.bind_some]
  rw [if_pos (by decide +kernel), if_pos (by decide +kernel), show atan 1 1 = 8192 by decide +kernel]; rfl
theorem tells (k : Nat) (hk : 3 ≤ k) (a y x : Int) : versallaw4_AngleTells.j0 k a y x = some true := by
  obtain ⟨k, rfl⟩ : ∃ m, k = m + 1 := ⟨k - 1, by omega⟩
  simp only [versallaw4_AngleTells.j0, known_t k (by omega), norm_f, rnorm_f, sin_f k (by omega), rsin_f k (by omega), cos_f k (by omega), rcos_f k (by omega), tan_f k (by omega), rtan_f k (by omega), atan_f k (by omega), ratan_f k (by omega), Option.bind_some, if_true, beq_self_eq_true]
theorem AngleTells : versallaw4_AngleTells.Pure := by
  intro a0 a1 a2 a3 w0 w1 w2
  obtain ⟨y, hy, _, _⟩ := num_f w1
  obtain ⟨x, hx, _, _⟩ := num_f w2
  refine ⟨3, ?_⟩
  unfold versallaw4_AngleTells.f
  cases a3 with
  | true => exact tells 3 (by omega) a0 a1 a2
  | false => simp only [hy, hx, Option.bind_some]; exact tells 3 (by omega) a0 y x
end Go.Proofs.Ytaohkdieigbccaa.Pure
