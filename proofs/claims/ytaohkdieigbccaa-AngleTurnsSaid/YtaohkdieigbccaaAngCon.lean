/- What the functions of chapter 4 answer: one contract each. -/
import Derived.Test.YtaohkdieigbccaaPAngleTellsx2
import Derived.Test.YtaohkdieigbccaaMath
import Derived.Test.YtaohkdieigbccaaAng
namespace Go.Proofs.Ytaohkdieigbccaa.AngCon
open Go.RowKit Go.Proofs.YtaohkdieigbccaaW.PrintWords Go.Proofs.YtaohkdieigbccaaW.PrintLast Go.Proofs.YtaohkdieigbccaaW.PrintMore Go.Proofs.Ytaohkdieigbccaa.PAngleTells Go.Proofs.Ytaohkdieigbccaa.M
attribute [local go_sem] max2_int min2_int max_two min_two max_three min_three max_four min_four
set_option linter.unusedVariables false
set_option linter.unusedSimpArgs false

theorem pick_f {n m : Int} (h1 : 0 < m) (h2 : m ≤ 9223372036854775807) : versalhand_Pick.f n m = some (n % m) := by
  have ha := Int.lt_tmod_of_pos n h1
  have hb := Int.tmod_lt_of_pos n h1
  rw [← tmod_pick h1]
  unfold versalhand_Pick.f
  rw [if_neg (by omega)]
  by_cases h : n.tmod m < 0
  · rw [if_pos h, if_pos h, w64 (by omega) (by omega)]
  · rw [if_neg h, if_neg h]

theorem clip_f (a : Int) : fixed_Clip.f a = some (clip a) := rfl

theorem floored_f {a b : Int} (hb : b ≠ 0) (h1 : -9000000000000000000 ≤ a) (h2 : a ≤ 9000000000000000000) : fixed_floored.f a b = some (fl a b) := by
  have h3 := tdiv_le (n := a) (d := b)
  rw [← fl_tdiv hb]
  unfold fixed_floored.f
  rw [if_neg hb, w64 (n := a.tdiv b) (by omega) (by omega), w64 (n := a.tdiv b - 1) (by omega) (by omega)]
  split
  · rfl
  · split
    · rfl
    · rfl

theorem div_f (a b : Int) : fixed_Div.f a b = some (div a b) := by
  have h := clip_bd a
  unfold fixed_Div.f div
  simp only [clip_f, Option.bind_some]
  by_cases h0 : clip b = 0
  · rw [if_pos h0, if_pos h0]
    by_cases h1 : clip a > 0
    · rw [if_pos h1, if_pos h1]
    · rw [if_neg h1, if_neg h1]
      by_cases h2 : clip a < 0
      · rw [if_pos h2, if_pos h2]
      · rw [if_neg h2, if_neg h2]
  · rw [if_neg h0, if_neg h0, w64 (by omega) (by omega), floored_f h0 (by omega) (by omega)]
    simp only [Option.bind_some]

theorem norm_f (a : Int) : angle_Norm.f a = some (a % 65536) := by
  unfold angle_Norm.f
  have h1 := Int.lt_tmod_of_pos a (show (0 : Int) < 65536 by omega)
  have h2 := Int.tmod_lt_of_pos a (show (0 : Int) < 65536 by omega)
  have h3 := tmod_pick (n := a) (m := 65536) (by omega)
  rw [w64 (by omega) (by omega)]
  rw [Int.tmod_eq_emod_of_nonneg (by omega)]
  split at h3 <;> simp only [Option.some.injEq] <;> omega

theorem sin_f : ∀ (k : Nat), 2 ≤ k → ∀ a : Int, angle_Sin.f k a = some (sin a) := by
  intro k hk a
  have low : ∀ (k : Nat) (n : Int), 0 ≤ n → n < 32768 → angle_Sin.f (k + 1) n = some (sinp n) := by
    intro k n h0 h1
    have hp := p_bd h0 (by omega)
    simp only [angle_Sin.f, norm_f, Option.bind_some]
    rw [show n % 65536 = n by omega, if_neg (by omega), w64 (n := 32768 - n) (by omega) (by omega), w64 (n := n * (32768 - n)) (by omega) (by omega)]
    unfold sinp
    generalize n * (32768 - n) = p at *
    rw [w64 (n := 4 * p) (by omega) (by omega), w64 (n := 5368709120 - 4 * p) (by omega) (by omega), if_neg (by omega), w64 (n := 16 * p) (by omega) (by omega), w64 (n := 16 * p * 65536) (by omega) (by omega), Int.tdiv_eq_ediv_of_nonneg (by omega)]
    have hb := ediv_bd (n := 16 * p * 65536) (d := 5368709120 - 4 * p) (by omega)
    rw [w64 (by omega) (by omega)]
  have h1 := Int.emod_nonneg a (show (65536 : Int) ≠ 0 by omega)
  have h2 := Int.emod_lt_of_pos a (show (0 : Int) < 65536 by omega)
  unfold sin
  by_cases h : a % 65536 ≥ 32768
  · obtain ⟨k, rfl⟩ : ∃ m, k = m + 2 := ⟨k - 2, by omega⟩
    rw [if_pos h]
    simp only [angle_Sin.f, norm_f, Option.bind_some]
    rw [if_pos h, w64 (by omega) (by omega)]
    have e := low k (a % 65536 - 32768) (by omega) (by omega)
    simp only [angle_Sin.f, norm_f, Option.bind_some] at e
    rw [e]
    have hb := sinp_bd (n := a % 65536 - 32768) (by omega) (by omega)
    simp only [Option.bind_some]
    rw [w64 (by omega) (by omega)]
  · obtain ⟨k, rfl⟩ : ∃ m, k = m + 1 := ⟨k - 1, by omega⟩
    rw [if_neg h]
    have e := low k (a % 65536) (by omega) (by omega)
    simp only [angle_Sin.f, norm_f, Option.bind_some] at e ⊢
    rw [show a % 65536 % 65536 = a % 65536 by omega] at e
    exact e
theorem cos_f (k : Nat) (hk : 2 ≤ k) (a : Int) : angle_Cos.f k a = some (cos a) := by
  unfold angle_Cos.f cos
  simp only [norm_f, sin_f k hk, Option.bind_some]
  rw [w64 (by omega) (by omega)]

theorem tan_f (k : Nat) (hk : 2 ≤ k) (a : Int) : angle_Tan.f k a = some (tan a) := by
  unfold angle_Tan.f tan
  simp only [sin_f k hk, cos_f k hk, div_f, Option.bind_some]

theorem away_f (n : Int) : angle_away.f (clip n) = some (abs (clip n)) := by
  have := clip_bd n
  unfold angle_away.f abs
  rw [w64 (by omega) (by omega)]
theorem quad_f (k : Nat) {y x q : Int} (h0 : 0 ≤ q) (h1 : q ≤ 16384) : angle_Atan.j0 (k + 1) y x q = some (quad y x q) := by
  simp only [angle_Atan.j0, norm_f, Option.bind_some]
  rw [w64 (n := 32768 - q) (by omega) (by omega), w64 (n := -(32768 - q)) (by omega) (by omega), w64 (n := -q) (by omega) (by omega)]
  unfold quad
  split <;> split <;> rfl
theorem atan_f (k : Nat) (hk : 1 ≤ k) (y x : Int) : angle_Atan.f k y x = some (atan y x) := by
  obtain ⟨k, rfl⟩ : ∃ m, k = m + 1 := ⟨k - 1, by omega⟩
  unfold angle_Atan.f atan
  simp only [clip_f, Option.bind_some, away_f]
  by_cases h : mx (abs (clip x)) (abs (clip y)) = 0
  · rw [if_pos h, if_pos h]
  · rw [if_neg h, if_neg h]
    have h1 := abs_bd x
    have h2 := abs_bd y
    have hu : 0 < mx (abs (clip x)) (abs (clip y)) := by unfold mx at *; omega
    have hv0 : 0 ≤ mn (abs (clip x)) (abs (clip y)) := by unfold mn; omega
    have hv1 : mn (abs (clip x)) (abs (clip y)) ≤ mx (abs (clip x)) (abs (clip y)) := by unfold mx mn; omega
    have hv2 : mn (abs (clip x)) (abs (clip y)) ≤ 2147483647 := by unfold mn; omega
    have hs := slope_bd hv0 hv1 hu
    have hb := first_bd y x h
    rw [w64 (n := mn (abs (clip x)) (abs (clip y)) * 65536) (by omega) (by omega), Int.tdiv_eq_ediv_of_nonneg (by omega)]
    have es : mn (abs (clip x)) (abs (clip y)) * 65536 / mx (abs (clip x)) (abs (clip y)) = slope (mx (abs (clip x)) (abs (clip y))) (mn (abs (clip x)) (abs (clip y))) := rfl
    rw [es]
    generalize slope (mx (abs (clip x)) (abs (clip y))) (mn (abs (clip x)) (abs (clip y))) = z at *
    have hz := arc_in hs.1 hs.2
    rw [w64 (n := z) (by omega) (by omega), w64 (n := 8192 * z) (by omega) (by omega), w64 (n := 8192 * z * 65536) (by omega) (by omega), w64 (n := 2847 * z) (by omega) (by omega), w64 (n := 65536 - z) (by omega) (by omega)]
    have e2 : 2847 * z * (65536 - z) = 2847 * (z * (65536 - z)) := by grind
    rw [w64 (n := 2847 * z * (65536 - z)) (by omega) (by omega), w64 (n := 8192 * z * 65536 + 2847 * z * (65536 - z)) (by omega) (by omega)]
    have ea : (8192 * z * 65536 + 2847 * z * (65536 - z)) / 4294967296 = arc z := rfl
    rw [ea, w64 (n := 16384 - arc z) (by omega) (by omega)]
    by_cases hc : abs (clip y) > abs (clip x)
    · rw [if_pos hc, if_pos hc, quad_f k (by omega) (by omega)]
    · rw [if_neg hc, if_neg hc, quad_f k (by omega) (by omega)]

abbrev Ret (f : FuncId) (args : Array Value) (w : World) (v : Value) : Prop := Calls Try.prog f args w fun e w' => e = .returned v ∧ Below w.heap.size w w'
theorem lift {f : FuncId} {args : Array Value} {w : World} {v : Value} (h : Calls Try.prog f args w fun e w' => e = .returned v ∧ Drawn0 w w') : Ret f args w v := h.mono fun _ _ ⟨a, b⟩ => ⟨a, b.below⟩
theorem ret_of {f : FuncId} {args : Array Value} {w : World} {a b : Int} (e : a = b) (h : Ret f args w (.int .i64 a)) : Ret f args w (.int .i64 b) := e ▸ h
theorem known_t (k : Nat) (hk : 2 ≤ k) : versallaw4_known.f k = some true := by
  unfold versallaw4_known.f
  simp only [sin_f k hk, cos_f k hk, atan_f k (by omega), Option.bind_some]
  rw [if_pos (by decide +kernel), if_pos (by decide +kernel), show atan 1 1 = 8192 by decide +kernel]; rfl
theorem c16 (w : World) : Ret 16 #[] w (.bool true) := by first | exact versallaw4_known.calls 2 _ w (known_t 2 (by omega)) | exact lift (versallaw4_known.calls 2 _ w (known_t 2 (by omega)))
theorem c15 (a : Int) (w : World) : Ret 15 #[.int .i64 a] w (.int .i64 (a % 65536)) := by first | exact angle_Norm.calls a _ w (norm_f a) | exact lift (angle_Norm.calls a _ w (norm_f a))
theorem c14 (a : Int) (w : World) : Ret 14 #[.int .i64 a] w (.int .i64 (sin a)) := by first | exact angle_Sin.calls 2 a _ w (sin_f 2 (by omega) a) | exact lift (angle_Sin.calls 2 a _ w (sin_f 2 (by omega) a))
theorem c17 (a : Int) (w : World) : Ret 17 #[.int .i64 a] w (.int .i64 (cos a)) := by first | exact angle_Cos.calls 2 a _ w (cos_f 2 (by omega) a) | exact lift (angle_Cos.calls 2 a _ w (cos_f 2 (by omega) a))
theorem c24 (a : Int) (w : World) : Ret 24 #[.int .i64 a] w (.int .i64 (tan a)) := by first | exact angle_Tan.calls 2 a _ w (tan_f 2 (by omega) a) | exact lift (angle_Tan.calls 2 a _ w (tan_f 2 (by omega) a))
theorem c19 (y x : Int) (w : World) : Ret 19 #[.int .i64 y, .int .i64 x] w (.int .i64 (atan y x)) := by first | exact angle_Atan.calls 1 y x _ w (atan_f 1 (by omega) y x) | exact lift (angle_Atan.calls 1 y x _ w (atan_f 1 (by omega) y x))

end Go.Proofs.Ytaohkdieigbccaa.AngCon
