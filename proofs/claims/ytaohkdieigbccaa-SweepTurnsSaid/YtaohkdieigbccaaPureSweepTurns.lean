/- Over a whole turn t is the angle; turned about it runs the other way; where the middle is does not count. No conditions. -/
import Derived.Test.YtaohkdieigbccaaPSweepTurnsx1
import Derived.Test.YtaohkdieigbccaaMath
import Derived.Test.YtaohkdieigbccaaAng
namespace Go.Proofs.Ytaohkdieigbccaa.Pure
open Go.RowKit Go.Proofs.Ytaohkdieigbccaa.PSweepTurns Go.Proofs.YtaohkdieigbccaaW.PrintWords Go.Proofs.YtaohkdieigbccaaW.PrintLast Go.Proofs.Ytaohkdieigbccaa.M
set_option linter.unusedSimpArgs false
set_option linter.unusedVariables false

theorem pick_f {n m : Int} (h1 : 0 < m) (h2 : m ≤ 9223372036854775807) : versalhand_Pick.f n m = some (n % m) := by
  have ha := Int.lt_tmod_of_pos n h1
  have hb := Int.tmod_lt_of_pos n h1
  rw [← tmod_pick h1]
  unfold versalhand_Pick.f
  rw [if_neg (by omega)]
  by_cases h : n.tmod m < 0
  · rw [if_pos h, if_pos h, w64 (by omega) (by omega)]
  · rw [if_neg h, if_neg h]

theorem num_f {a : Int} (ha : (Lit.int .i64 a).wf = true) : ∃ v, versalhand_Num.f a = some v ∧ -9223372036854775808 ≤ v ∧ v ≤ 9223372036854775807 := by
  have hb := bounds_i64 ha
  unfold versalhand_Num.f
  have w : ∀ n : Int, -9223372036854775808 ≤ wrap64 n ∧ wrap64 n ≤ 9223372036854775807 := fun n => by unfold wrap64; omega
  simp only [pick_f (show (0:Int) < 8 by omega) (by omega), pick_f (show (0:Int) < 2001 by omega) (by omega), pick_f (show (0:Int) < 9 by omega) (by omega), pick_f (show (0:Int) < 1310720 by omega) (by omega), Option.bind_some]
  split
  · exact ⟨_, rfl, hb⟩
  · split
    · exact ⟨_, rfl, w _⟩
    · split
      · exact ⟨_, rfl, w _⟩
      · split
        · exact ⟨_, rfl, w _⟩
        · exact ⟨_, rfl, w _⟩

theorem clip_f (a : Int) : fixed_Clip.f a = some (clip a) := rfl

theorem floored_f {a b : Int} (hb : b ≠ 0) (h1 : -9000000000000000000 ≤ a) (h2 : a ≤ 9000000000000000000) : fixed_floored.f a b = some (fl a b) := by
  have h3 := tdiv_le (n := a) (d := b)
  rw [← fl_tdiv hb]
  unfold fixed_floored.f
  rw [if_neg hb, w64 (n := a.tdiv b) (by omega) (by omega), w64 (n := a.tdiv b - 1) (by omega) (by omega)]
  split
  · rfl
  · split
    · rfl
    · rfl

theorem ratio_f (a b : Int) : fixed_Ratio.f a b = some (ratio a b) := by
  have h1 := wide_bd a
  have e1 : fixed_brought.f a (-70368744177664) 70368744177664 = some (wide a) := rfl
  have e2 : fixed_brought.f b (-70368744177664) 70368744177664 = some (wide b) := rfl
  unfold fixed_Ratio.f ratio
  simp only [e1, e2, Option.bind_some]
  by_cases h : wide b = 0
  · rw [if_pos h, if_pos h]
  · rw [if_neg h, if_neg h, w64 (by omega) (by omega), floored_f h (by omega) (by omega)]
    simp only [Option.bind_some, clip_f]

theorem norm_f (a : Int) : angle_Norm.f a = some (a % 65536) := by
  unfold angle_Norm.f
  have h1 := Int.lt_tmod_of_pos a (show (0 : Int) < 65536 by omega)
  have h2 := Int.tmod_lt_of_pos a (show (0 : Int) < 65536 by omega)
  have h3 := tmod_pick (n := a) (m := 65536) (by omega)
  rw [w64 (by omega) (by omega)]
  rw [Int.tmod_eq_emod_of_nonneg (by omega)]
  split at h3 <;> simp only [Option.some.injEq] <;> omega

theorem away_f (n : Int) : angle_away.f (clip n) = some (abs (clip n)) := by
  have := clip_bd n
  unfold angle_away.f abs
  rw [w64 (by omega) (by omega)]
theorem quad_f (k : Nat) {y x q : Int} (h0 : 0 ≤ q) (h1 : q ≤ 16384) : angle_Atan.j0 (k + 1) y x q = some (quad y x q) := by
  simp only [angle_Atan.j0, norm_f, Option.bind_some]
  rw [w64 (n := 32768 - q) (by omega) (by omega), w64 (n := -(32768 - q)) (by omega) (by omega), w64 (n := -q) (by omega) (by omega)]
  unfold quad
  split <;> split <;> rfl
theorem atan_f (k : Nat) (hk : 1 ≤ k) (y x : Int) : angle_Atan.f k y x = some (atan y x) := by
  obtain ⟨k, rfl⟩ : ∃ m, k = m + 1 := ⟨k - 1, by omega⟩
  unfold angle_Atan.f atan
  simp only [clip_f, Option.bind_some, away_f]
  by_cases h : mx (abs (clip x)) (abs (clip y)) = 0
  · rw [if_pos h, if_pos h]
  · rw [if_neg h, if_neg h]
    have h1 := abs_bd x
    have h2 := abs_bd y
    have hu : 0 < mx (abs (clip x)) (abs (clip y)) := by unfold mx at *; omega
    have hv0 : 0 ≤ mn (abs (clip x)) (abs (clip y)) := by unfold mn; omega
    have hv1 : mn (abs (clip x)) (abs (clip y)) ≤ mx (abs (clip x)) (abs (clip y)) := by unfold mx mn; omega
    have hv2 : mn (abs (clip x)) (abs (clip y)) ≤ 2147483647 := by unfold mn; omega
    have hs := slope_bd hv0 hv1 hu
    have hb := first_bd y x h
    rw [w64 (n := mn (abs (clip x)) (abs (clip y)) * 65536) (by omega) (by omega), Int.tdiv_eq_ediv_of_nonneg (by omega)]
    have es : mn (abs (clip x)) (abs (clip y)) * 65536 / mx (abs (clip x)) (abs (clip y)) = slope (mx (abs (clip x)) (abs (clip y))) (mn (abs (clip x)) (abs (clip y))) := rfl
    rw [es]
    generalize slope (mx (abs (clip x)) (abs (clip y))) (mn (abs (clip x)) (abs (clip y))) = z at *
    have hz := arc_in hs.1 hs.2
    rw [w64 (n := z) (by omega) (by omega), w64 (n := 8192 * z) (by omega) (by omega), w64 (n := 8192 * z * 65536) (by omega) (by omega), w64 (n := 2847 * z) (by omega) (by omega), w64 (n := 65536 - z) (by omega) (by omega)]
    have e2 : 2847 * z * (65536 - z) = 2847 * (z * (65536 - z)) := by grind
    rw [w64 (n := 2847 * z * (65536 - z)) (by omega) (by omega), w64 (n := 8192 * z * 65536 + 2847 * z * (65536 - z)) (by omega) (by omega)]
    have ea : (8192 * z * 65536 + 2847 * z * (65536 - z)) / 4294967296 = arc z := rfl
    rw [ea, w64 (n := 16384 - arc z) (by omega) (by omega)]
    by_cases hc : abs (clip y) > abs (clip x)
    · rw [if_pos hc, if_pos hc, quad_f k (by omega) (by omega)]
    · rw [if_neg hc, if_neg hc, quad_f k (by omega) (by omega)]

def lap (n : Int) : Int := mx (-131072) (mn n 131072)
theorem lap_bd (n : Int) : -131072 ≤ lap n ∧ lap n ≤ 131072 := by unfold lap mx mn; omega
def swp (cx cy s e x y : Int) : Int × Bool := if lap s = lap e then (0, false) else (ratio (atan (clip (clip y - clip cy)) (clip (clip x - clip cx)) - lap s) (lap e - lap s), true)
theorem sweep_f (k : Nat) (hk : 1 ≤ k) (cx cy s e x y : Int) : sweep_T.f k cx cy s e x y = some (swp cx cy s e x y) := by
  have h1 := lap_bd s
  have h2 := lap_bd e
  have c1 := clip_bd x; have c2 := clip_bd y; have c3 := clip_bd cx; have c4 := clip_bd cy
  have hb := atan_bd (clip (clip y - clip cy)) (clip (clip x - clip cx))
  have es : mx (-131072) (mn s 131072) = lap s := rfl
  have ee : mx (-131072) (mn e 131072) = lap e := rfl
  unfold sweep_T.f swp
  simp only [es, ee, clip_f, Option.bind_some]
  by_cases h : lap s = lap e
  · rw [if_pos h, if_pos h]
  · rw [if_neg h, if_neg h, w64 (n := clip x - clip cx) (by omega) (by omega), w64 (n := clip y - clip cy) (by omega) (by omega), atan_f k hk]
    simp only [Option.bind_some]
    rw [w64 (by omega) (by omega), ratio_f]; rfl

theorem known_t (k : Nat) (hk : 1 ≤ k) : versallaw23_known.f k = some true := by
  unfold versallaw23_known.f
  rw [sweep_f k hk, show swp 0 0 0 65536 0 1 = (16384, true) by decide +kernel]; rfl
theorem tmod_bd (n : Int) : -268435456 < n.tmod 268435456 ∧ n.tmod 268435456 < 268435456 :=
  ⟨Int.lt_tmod_of_pos n (by omega), Int.tmod_lt_of_pos n (by omega)⟩
theorem ratio_turn {n : Int} (h1 : -200000 ≤ n) (h2 : n ≤ 200000) : ratio n 65536 = n := by
  unfold ratio
  rw [wide_id (n := n) (by omega) (by omega), show wide 65536 = 65536 by decide, if_neg (by omega), fl_mul (by omega), clip_id (by omega) (by omega)]
theorem ratio_back {n : Int} (h1 : -200000 ≤ n) (h2 : n ≤ 200000) : ratio n (-65536) = -n := by
  unfold ratio
  rw [wide_id (n := n) (by omega) (by omega), show wide (-65536) = -65536 by decide, if_neg (by omega), show n * 65536 = -n * -65536 by omega, fl_mul (by omega), clip_id (by omega) (by omega)]
theorem SweepTurns : versallaw23_SweepTurns.Pure := by
  intro a0 a1 a2 a3 a4 w0 w1 w2 w3 w4
  obtain ⟨v0, h0, _, _⟩ := num_f w0
  obtain ⟨v1, h1, _, _⟩ := num_f w1
  obtain ⟨v2, h2, _, _⟩ := num_f w2
  obtain ⟨v3, h3, _, _⟩ := num_f w3
  refine ⟨3, ?_⟩
  unfold versallaw23_SweepTurns.f
  simp only [h0, h1, h2, h3, pick_f (show (0 : Int) < 65536 by omega) (by omega), sweep_f 3 (by omega), known_t 3 (by omega), atan_f 3 (by omega), Option.bind_some, if_true]
  have b0 := tmod_bd v0; have b1 := tmod_bd v1; have b2 := tmod_bd v2; have b3 := tmod_bd v3
  generalize v0.tmod 268435456 = cx at *
  generalize v1.tmod 268435456 = cy at *
  generalize v2.tmod 268435456 = x at *
  generalize v3.tmod 268435456 = y at *
  have hs : 0 ≤ a4 % 65536 ∧ a4 % 65536 < 65536 := by omega
  generalize a4 % 65536 = s at *
  have hb := atan_bd y x
  rw [w64 (n := cx + x) (by omega) (by omega), w64 (n := cy + y) (by omega) (by omega), w64 (n := s + 65536) (by omega) (by omega), w64 (n := 65536 - atan y x) (by omega) (by omega), w64 (n := atan y x - s) (by omega) (by omega)]
  have z : clip 0 = 0 := by decide
  have e1 : swp cx cy 0 65536 (cx + x) (cy + y) = (atan y x, true) := by
    unfold swp
    rw [show lap 0 = 0 by decide, show lap 65536 = 65536 by decide, if_neg (by omega)]
    rw [clip_id (n := cy + y) (by omega) (by omega), clip_id (n := cx + x) (by omega) (by omega), clip_id (n := cy) (by omega) (by omega), clip_id (n := cx) (by omega) (by omega), show cy + y - cy = y by omega, show cx + x - cx = x by omega, clip_id (n := y) (by omega) (by omega), clip_id (n := x) (by omega) (by omega), show (65536 : Int) - 0 = 65536 by omega, ratio_turn (by omega) (by omega)]
    rw [show atan y x - 0 = atan y x by omega]
  have e2 : swp 0 0 65536 0 x y = (65536 - atan y x, true) := by
    unfold swp
    rw [show lap 0 = 0 by decide, show lap 65536 = 65536 by decide, if_neg (by omega)]
    rw [z, clip_id (n := y) (by omega) (by omega), clip_id (n := x) (by omega) (by omega), show y - 0 = y by omega, show x - 0 = x by omega, clip_id (n := y) (by omega) (by omega), clip_id (n := x) (by omega) (by omega), show (0 : Int) - 65536 = -65536 by omega, ratio_back (by omega) (by omega)]
    rw [show -(atan y x - 65536) = 65536 - atan y x by omega]
  have e3 : swp 0 0 s (s + 65536) x y = (atan y x - s, true) := by
    unfold swp
    rw [show lap s = s by unfold lap mx mn; omega, show lap (s + 65536) = s + 65536 by unfold lap mx mn; omega, if_neg (by omega)]
    rw [z, clip_id (n := y) (by omega) (by omega), clip_id (n := x) (by omega) (by omega), show y - 0 = y by omega, show x - 0 = x by omega, clip_id (n := y) (by omega) (by omega), clip_id (n := x) (by omega) (by omega), show s + 65536 - s = 65536 by omega, ratio_turn (by omega) (by omega)]
  rw [e1, e2, e3]
  simp
end Go.Proofs.Ytaohkdieigbccaa.Pure
