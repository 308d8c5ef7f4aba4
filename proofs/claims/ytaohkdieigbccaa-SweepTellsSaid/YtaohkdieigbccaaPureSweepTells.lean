/- Of any middle, angles, places, how far round is as the document says, or it is not told. No conditions. -/
import Derived.Test.YtaohkdieigbccaaPSweepTellsx2
import Derived.Test.YtaohkdieigbccaaMath
import Derived.Test.YtaohkdieigbccaaAng
namespace Go.Proofs.Ytaohkdieigbccaa.Pure
open Go.RowKit Go.Proofs.Ytaohkdieigbccaa.PSweepTells Go.Proofs.YtaohkdieigbccaaW.PrintWords Go.Proofs.YtaohkdieigbccaaW.PrintLast Go.Proofs.Ytaohkdieigbccaa.M
set_option linter.unusedSimpArgs false
set_option linter.unusedVariables false

theorem pick_f {n m : Int} (h1 : 0 < m) (h2 : m ≤ 9223372036854775807) : versalhand_Pick.f n m = some (n % m) := by
  have ha := Int.lt_tmod_of_pos n h1
  have hb := Int.tmod_lt_of_pos n h1
  rw [← tmod_pick h1]
  unfold versalhand_Pick.f
  rw [if_neg (by omega)]
  by_cases h : n.tmod m < 0
  · rw [if_pos h, if_pos h, w64 (by omega) (by omega)]
  · rw [if_neg h, if_neg h]

theorem num_f {a : Int} (ha : (Lit.int .i64 a).wf = true) : ∃ v, versalhand_Num.f a = some v ∧ -9223372036854775808 ≤ v ∧ v ≤ 9223372036854775807 := by
  have hb := bounds_i64 ha
  unfold versalhand_Num.f
  have w : ∀ n : Int, -9223372036854775808 ≤ wrap64 n ∧ wrap64 n ≤ 9223372036854775807 := fun n => by unfold wrap64; omega
  simp only [pick_f (show (0:Int) < 8 by omega) (by omega), pick_f (show (0:Int) < 2001 by omega) (by omega), pick_f (show (0:Int) < 9 by omega) (by omega), pick_f (show (0:Int) < 1310720 by omega) (by omega), Option.bind_some]
  split
  · exact ⟨_, rfl, hb⟩
  · split
    · exact ⟨_, rfl, w _⟩
    · split
      · exact ⟨_, rfl, w _⟩
      · split
        · exact ⟨_, rfl, w _⟩
        · exact ⟨_, rfl, w _⟩

theorem clip_f (a : Int) : fixed_Clip.f a = some (clip a) := rfl

theorem floored_f {a b : Int} (hb : b ≠ 0) (h1 : -9000000000000000000 ≤ a) (h2 : a ≤ 9000000000000000000) : fixed_floored.f a b = some (fl a b) := by
  have h3 := tdiv_le (n := a) (d := b)
  rw [← fl_tdiv hb]
  unfold fixed_floored.f
  rw [if_neg hb, w64 (n := a.tdiv b) (by omega) (by omega), w64 (n := a.tdiv b - 1) (by omega) (by omega)]
  split
  · rfl
  · split
    · rfl
    · rfl

theorem ratio_f (a b : Int) : fixed_Ratio.f a b = some (ratio a b) := by
  have h1 := wide_bd a
  have e1 : fixed_brought.f a (-70368744177664) 70368744177664 = some (wide a) := rfl
  have e2 : fixed_brought.f b (-70368744177664) 70368744177664 = some (wide b) := rfl
  unfold fixed_Ratio.f ratio
  simp only [e1, e2, Option.bind_some]
  by_cases h : wide b = 0
  · rw [if_pos h, if_pos h]
  · rw [if_neg h, if_neg h, w64 (by omega) (by omega), floored_f h (by omega) (by omega)]
    simp only [Option.bind_some, clip_f]

theorem norm_f (a : Int) : angle_Norm.f a = some (a % 65536) := by
  unfold angle_Norm.f
  have h1 := Int.lt_tmod_of_pos a (show (0 : Int) < 65536 by omega)
  have h2 := Int.tmod_lt_of_pos a (show (0 : Int) < 65536 by omega)
  have h3 := tmod_pick (n := a) (m := 65536) (by omega)
  rw [w64 (by omega) (by omega)]
  rw [Int.tmod_eq_emod_of_nonneg (by omega)]
  split at h3 <;> simp only [Option.some.injEq] <;> omega

theorem away_f (n : Int) : angle_away.f (clip n) = some (abs (clip n)) := by
  have := clip_bd n
  unfold angle_away.f abs
  rw [w64 (by omega) (by omega)]
theorem quad_f (k : Nat) {y x q : Int} (h0 : 0 ≤ q) (h1 : q ≤ 16384) : angle_Atan.j0 (k + 1) y x q = some (quad y x q) := by
  simp only [angle_Atan.j0, norm_f, Option.bind_some]
  rw [w64 (n := 32768 - q) (by omega) (by omega), w64 (n := -(32768 - q)) (by omega) (by omega), w64 (n := -q) (by omega) (by omega)]
  unfold quad
  split <;> split <;> rfl
theorem atan_f (k : Nat) (hk : 1 ≤ k) (y x : Int) : angle_Atan.f k y x = some (atan y x) := by
  obtain ⟨k, rfl⟩ : ∃ m, k = m + 1 := ⟨k - 1, by omega⟩
  unfold angle_Atan.f atan
  simp only [clip_f, Option.bind_some, away_f]
  by_cases h : mx (abs (clip x)) (abs (clip y)) = 0
  · rw [if_pos h, if_pos h]
  · rw [if_neg h, if_neg h]
    have h1 := abs_bd x
    have h2 := abs_bd y
    have hu : 0 < mx (abs (clip x)) (abs (clip y)) := by unfold mx at *; omega
    have hv0 : 0 ≤ mn (abs (clip x)) (abs (clip y)) := by unfold mn; omega
    have hv1 : mn (abs (clip x)) (abs (clip y)) ≤ mx (abs (clip x)) (abs (clip y)) := by unfold mx mn; omega
    have hv2 : mn (abs (clip x)) (abs (clip y)) ≤ 2147483647 := by unfold mn; omega
    have hs := slope_bd hv0 hv1 hu
    have hb := first_bd y x h
    rw [w64 (n := mn (abs (clip x)) (abs (clip y)) * 65536) (by omega) (by omega), Int.tdiv_eq_ediv_of_nonneg (by omega)]
    have es : mn (abs (clip x)) (abs (clip y)) * 65536 / mx (abs (clip x)) (abs (clip y)) = slope (mx (abs (clip x)) (abs (clip y))) (mn (abs (clip x)) (abs (clip y))) := rfl
    rw [es]
    generalize slope (mx (abs (clip x)) (abs (clip y))) (mn (abs (clip x)) (abs (clip y))) = z at *
    have hz := arc_in hs.1 hs.2
    rw [w64 (n := z) (by omega) (by omega), w64 (n := 8192 * z) (by omega) (by omega), w64 (n := 8192 * z * 65536) (by omega) (by omega), w64 (n := 2847 * z) (by omega) (by omega), w64 (n := 65536 - z) (by omega) (by omega)]
    have e2 : 2847 * z * (65536 - z) = 2847 * (z * (65536 - z)) := by grind
    rw [w64 (n := 2847 * z * (65536 - z)) (by omega) (by omega), w64 (n := 8192 * z * 65536 + 2847 * z * (65536 - z)) (by omega) (by omega)]
    have ea : (8192 * z * 65536 + 2847 * z * (65536 - z)) / 4294967296 = arc z := rfl
    rw [ea, w64 (n := 16384 - arc z) (by omega) (by omega)]
    by_cases hc : abs (clip y) > abs (clip x)
    · rw [if_pos hc, if_pos hc, quad_f k (by omega) (by omega)]
    · rw [if_neg hc, if_neg hc, quad_f k (by omega) (by omega)]

def lap (n : Int) : Int := mx (-131072) (mn n 131072)
theorem lap_bd (n : Int) : -131072 ≤ lap n ∧ lap n ≤ 131072 := by unfold lap mx mn; omega
def swp (cx cy s e x y : Int) : Int × Bool := if lap s = lap e then (0, false) else (ratio (atan (clip (clip y - clip cy)) (clip (clip x - clip cx)) - lap s) (lap e - lap s), true)
theorem sweep_f (k : Nat) (hk : 1 ≤ k) (cx cy s e x y : Int) : sweep_T.f k cx cy s e x y = some (swp cx cy s e x y) := by
  have h1 := lap_bd s
  have h2 := lap_bd e
  have c1 := clip_bd x; have c2 := clip_bd y; have c3 := clip_bd cx; have c4 := clip_bd cy
  have hb := atan_bd (clip (clip y - clip cy)) (clip (clip x - clip cx))
  have es : mx (-131072) (mn s 131072) = lap s := rfl
  have ee : mx (-131072) (mn e 131072) = lap e := rfl
  unfold sweep_T.f swp
  simp only [es, ee, clip_f, Option.bind_some]
  by_cases h : lap s = lap e
  · rw [if_pos h, if_pos h]
  · rw [if_neg h, if_neg h, w64 (n := clip x - clip cx) (by omega) (by omega), w64 (n := clip y - clip cy) (by omega) (by omega), atan_f k hk]
    simp only [Option.bind_some]
    rw [w64 (by omega) (by omega), ratio_f]; rfl

theorem rclip_f (a : Int) : versalref2_Clip.f a = some (clip a) := by
  unfold versalref2_Clip.f versalref2_Within.f clip
  simp only [Option.bind_some, Option.some.injEq]
  unfold mx mn; omega
theorem rfloor_f {a b : Int} (hb : 0 < b) (h1 : -9000000000000000000 ≤ a) (h2 : a ≤ 9000000000000000000) : versalref2_Floor.f a b = some (a / b) := by
  have h3 := tdiv_le (n := a) (d := b)
  rw [← tdiv_floor hb]
  unfold versalref2_Floor.f
  rw [if_neg (by omega), w64 (n := a.tdiv b) (by omega) (by omega), w64 (n := a.tdiv b - 1) (by omega) (by omega)]
  split <;> rfl

theorem rratio_f (a b : Int) : versalref2_Ratio.f a b = some (ratio a b) := by
  have h := wide_bd a
  have h' := wide_bd b
  have e : ∀ n, versalref2_Within.f n (-70368744177664) 70368744177664 = some (wide n) := by
    intro n; unfold versalref2_Within.f wide; simp only [Option.some.injEq]; unfold mx mn; omega
  unfold versalref2_Ratio.f ratio
  simp only [rclip_f, e, Option.bind_some]
  by_cases h0 : wide b = 0
  · rw [if_pos h0, if_pos h0]
  · rw [if_neg h0, if_neg h0]
    unfold fl
    by_cases h3 : wide b < 0
    · rw [if_neg (show ¬ 0 < wide b by omega), if_pos h3, w64 (n := -wide a) (by omega) (by omega), w64 (n := -wide b) (by omega) (by omega), w64 (by omega) (by omega), rfloor_f (by omega) (by omega) (by omega), show -wide a * 65536 = -(wide a * 65536) by omega]
      simp
    · rw [if_pos (show 0 < wide b by omega), if_neg h3, w64 (by omega) (by omega), rfloor_f (by omega) (by omega) (by omega)]
      simp

theorem rnorm_f (a : Int) : versalref2_Norm.f a = some (a % 65536) := by
  unfold versalref2_Norm.f
  have h1 := Int.lt_tmod_of_pos a (show (0 : Int) < 65536 by omega)
  have h2 := Int.tmod_lt_of_pos a (show (0 : Int) < 65536 by omega)
  rw [← tmod_pick (n := a) (m := 65536) (by omega)]
  split
  · rw [w64 (by omega) (by omega)]
  · rfl

theorem rabs_f (n : Int) : versalref2_abs.f (clip n) = some (abs (clip n)) := by
  have := clip_bd n
  unfold versalref2_abs.f abs
  rw [w64 (by omega) (by omega)]
theorem rquad_f (k : Nat) {y x q : Int} (h0 : 0 ≤ q) (h1 : q ≤ 16384) : versalref2_Atan.j1 (k + 1) y x q = some (quad y x q) := by
  simp only [versalref2_Atan.j1, rnorm_f, Option.bind_some]
  rw [w64 (n := 32768 - q) (by omega) (by omega), w64 (n := -(32768 - q)) (by omega) (by omega), w64 (n := -q) (by omega) (by omega)]
  unfold quad
  split <;> split <;> rfl
theorem ratan_f (k : Nat) (hk : 2 ≤ k) (y x : Int) : versalref2_Atan.f k y x = some (atan y x) := by
  obtain ⟨k, rfl⟩ : ∃ m, k = m + 2 := ⟨k - 2, by omega⟩
  have h1 := abs_bd x
  have h2 := abs_bd y
  have hx0 : abs (clip x) = 0 ↔ clip x = 0 := by unfold abs mx; omega
  have hy0 : abs (clip y) = 0 ↔ clip y = 0 := by unfold abs mx; omega
  have e : versalref2_Atan.f (k + 2) y x = versalref2_Atan.j0 (k + 2) (clip y) (clip x) (decide (mx (abs (clip x)) (abs (clip y)) = 0)) := by
    unfold versalref2_Atan.f
    simp only [rclip_f, Option.bind_some]
    by_cases h : clip x = 0
    · rw [if_pos h]
      by_cases h' : clip y = 0
      · rw [decide_eq_true (by unfold mx; omega), h']; rfl
      · rw [decide_eq_false (by unfold mx; omega), beq_eq_false_iff_ne.mpr h']
    · rw [if_neg h, decide_eq_false (by unfold mx; omega)]
  rw [e]
  unfold atan
  by_cases h : mx (abs (clip x)) (abs (clip y)) = 0
  · rw [if_pos h, decide_eq_true h]; simp only [versalref2_Atan.j0, if_true]
  · rw [if_neg h, decide_eq_false h]
    simp only [versalref2_Atan.j0, rabs_f, Option.bind_some]
    rw [if_neg (by decide), if_neg h]
    have hu : 0 < mx (abs (clip x)) (abs (clip y)) := by unfold mx at *; omega
    have hv0 : 0 ≤ mn (abs (clip x)) (abs (clip y)) := by unfold mn; omega
    have hv1 : mn (abs (clip x)) (abs (clip y)) ≤ mx (abs (clip x)) (abs (clip y)) := by unfold mx mn; omega
    have hv2 : mn (abs (clip x)) (abs (clip y)) ≤ 2147483647 := by unfold mn; omega
    have hs := slope_bd hv0 hv1 hu
    have hb := first_bd y x h
    rw [w64 (n := mn (abs (clip x)) (abs (clip y)) * 65536) (by omega) (by omega), Int.tdiv_eq_ediv_of_nonneg (a := mn (abs (clip x)) (abs (clip y)) * 65536) (by omega)]
    have es : mn (abs (clip x)) (abs (clip y)) * 65536 / mx (abs (clip x)) (abs (clip y)) = slope (mx (abs (clip x)) (abs (clip y))) (mn (abs (clip x)) (abs (clip y))) := rfl
    rw [es]
    generalize slope (mx (abs (clip x)) (abs (clip y))) (mn (abs (clip x)) (abs (clip y))) = z at *
    have hz := arc_in hs.1 hs.2
    rw [w64 (n := z) (by omega) (by omega), w64 (n := 8192 * z) (by omega) (by omega), w64 (n := 8192 * z * 65536) (by omega) (by omega), w64 (n := 2847 * z) (by omega) (by omega), w64 (n := 65536 - z) (by omega) (by omega)]
    have e2 : 2847 * z * (65536 - z) = 2847 * (z * (65536 - z)) := by grind
    rw [w64 (n := 2847 * z * (65536 - z)) (by omega) (by omega), w64 (n := 8192 * z * 65536 + 2847 * z * (65536 - z)) (by omega) (by omega), Int.tdiv_eq_ediv_of_nonneg (a := 8192 * z * 65536 + 2847 * z * (65536 - z)) (by omega)]
    have ea : (8192 * z * 65536 + 2847 * z * (65536 - z)) / 4294967296 = arc z := rfl
    rw [ea, w64 (n := arc z) (by omega) (by omega), w64 (n := 16384 - arc z) (by omega) (by omega)]
    by_cases hc : abs (clip y) > abs (clip x)
    · rw [if_pos hc, if_pos hc, rquad_f k (by omega) (by omega)]
    · rw [if_neg hc, if_neg hc, rquad_f k (by omega) (by omega)]

theorem rsweep_f (k : Nat) (hk : 2 ≤ k) (cx cy s e x y : Int) : versalref20_Sweep.f k cx cy s e x y = some (swp cx cy s e x y) := by
  have h1 := lap_bd s
  have h2 := lap_bd e
  have c1 := clip_bd x; have c2 := clip_bd y; have c3 := clip_bd cx; have c4 := clip_bd cy
  have hb := atan_bd (clip (clip y - clip cy)) (clip (clip x - clip cx))
  have el : ∀ n, versalref2_Within.f n (-131072) 131072 = some (lap n) := by
    intro n; unfold versalref2_Within.f lap; simp only [Option.some.injEq]; unfold mx mn; omega
  have ec : ∀ n, versalref20_clip.f n = some (clip n) := by intro n; unfold versalref20_clip.f; simp only [rclip_f, Option.bind_some]
  unfold versalref20_Sweep.f swp
  simp only [el, ec, Option.bind_some]
  by_cases h : lap s = lap e
  · rw [if_pos h, if_pos h]
  · rw [if_neg h, if_neg h, w64 (n := clip x - clip cx) (by omega) (by omega), w64 (n := clip y - clip cy) (by omega) (by omega), ratan_f k hk]
    simp only [Option.bind_some]
    rw [w64 (n := atan (clip (clip y - clip cy)) (clip (clip x - clip cx)) - lap s) (by omega) (by omega), w64 (n := lap e - lap s) (by omega) (by omega), rratio_f]; rfl

theorem known_t (k : Nat) (hk : 1 ≤ k) : versallaw23_known.f k = some true := by
  unfold versallaw23_known.f
  rw [sweep_f k hk, show swp 0 0 0 65536 0 1 = (16384, true) by decide +kernel]; rfl
theorem SweepTells : versallaw23_SweepTells.Pure := by
  intro a0 a1 a2 a3 a4 a5 a6 w0 w1 w2 w3 w4 w5
  obtain ⟨v0, h0, _, _⟩ := num_f w0
  obtain ⟨v1, h1, _, _⟩ := num_f w1
  obtain ⟨v4, h4, _, _⟩ := num_f w4
  obtain ⟨v5, h5, _, _⟩ := num_f w5
  refine ⟨3, ?_⟩
  unfold versallaw23_SweepTells.f
  simp only [h0, h1, h4, h5, pick_f (show (0 : Int) < 140000 by omega) (by omega), sweep_f 3 (by omega), rsweep_f 3 (by omega), known_t 3 (by omega), Option.bind_some, if_true, beq_self_eq_true]
  split <;> rfl
end Go.Proofs.Ytaohkdieigbccaa.Pure
