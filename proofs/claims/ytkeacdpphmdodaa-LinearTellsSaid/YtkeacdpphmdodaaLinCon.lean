/- What the functions of chapter 21, and the document's own, answer: one contract each. -/
import Derived.Test.YtkeacdpphmdodaaPLinearTellsx1
import Derived.Test.YtkeacdpphmdodaaMath
namespace Go.Proofs.Ytkeacdpphmdodaa.LinCon
open Go.RowKit Go.Proofs.YtkeacdpphmdodaaW.PrintWords Go.Proofs.YtkeacdpphmdodaaW.PrintLast Go.Proofs.YtkeacdpphmdodaaW.PrintMore Go.Proofs.Ytkeacdpphmdodaa.PLinearTells Go.Proofs.Ytkeacdpphmdodaa.M
attribute [local go_sem] max2_int min2_int max_two min_two max_three min_three max_four min_four
set_option linter.unusedVariables false
set_option linter.unusedSimpArgs false

theorem pick_f {n m : Int} (h1 : 0 < m) (h2 : m ≤ 9223372036854775807) : versalhand_Pick.f n m = some (n % m) := by
  have ha := Int.lt_tmod_of_pos n h1
  have hb := Int.tmod_lt_of_pos n h1
  rw [← tmod_pick h1]
  unfold versalhand_Pick.f
  rw [if_neg (by omega)]
  by_cases h : n.tmod m < 0
  · rw [if_pos h, if_pos h, w64 (by omega) (by omega)]
  · rw [if_neg h, if_neg h]

theorem num_f {a : Int} (ha : (Lit.int .i64 a).wf = true) : ∃ v, versalhand_Num.f a = some v ∧ -9223372036854775808 ≤ v ∧ v ≤ 9223372036854775807 := by
  have hb := bounds_i64 ha
  unfold versalhand_Num.f
  have w : ∀ n : Int, -9223372036854775808 ≤ wrap64 n ∧ wrap64 n ≤ 9223372036854775807 := fun n => by unfold wrap64; omega
  simp only [pick_f (show (0:Int) < 8 by omega) (by omega), pick_f (show (0:Int) < 2001 by omega) (by omega), pick_f (show (0:Int) < 9 by omega) (by omega), pick_f (show (0:Int) < 1310720 by omega) (by omega), Option.bind_some]
  split
  · exact ⟨_, rfl, hb⟩
  · split
    · exact ⟨_, rfl, w _⟩
    · split
      · exact ⟨_, rfl, w _⟩
      · split
        · exact ⟨_, rfl, w _⟩
        · exact ⟨_, rfl, w _⟩

theorem clip_f (a : Int) : fixed_Clip.f a = some (clip a) := rfl

theorem floored_f {a b : Int} (hb : b ≠ 0) (h1 : -9000000000000000000 ≤ a) (h2 : a ≤ 9000000000000000000) : fixed_floored.f a b = some (fl a b) := by
  have h3 := tdiv_le (n := a) (d := b)
  rw [← fl_tdiv hb]
  unfold fixed_floored.f
  rw [if_neg hb, w64 (n := a.tdiv b) (by omega) (by omega), w64 (n := a.tdiv b - 1) (by omega) (by omega)]
  split
  · rfl
  · split
    · rfl
    · rfl

theorem ratio_f (a b : Int) : fixed_Ratio.f a b = some (ratio a b) := by
  have h1 := wide_bd a
  have e1 : fixed_brought.f a (-70368744177664) 70368744177664 = some (wide a) := rfl
  have e2 : fixed_brought.f b (-70368744177664) 70368744177664 = some (wide b) := rfl
  unfold fixed_Ratio.f ratio
  simp only [e1, e2, Option.bind_some]
  by_cases h : wide b = 0
  · rw [if_pos h, if_pos h]
  · rw [if_neg h, if_neg h, w64 (by omega) (by omega), floored_f h (by omega) (by omega)]
    simp only [Option.bind_some, clip_f]

def co (n : Int) : Int := clip n / 1024
theorem coarse_f (a : Int) : linear_coarse.f a = some (co a) := rfl
theorem co_bd (n : Int) : -2097152 ≤ co n ∧ co n ≤ 2097151 := by have := clip_bd n; unfold co; omega
def lin (x0 y0 x1 y1 x2 y2 x y : Int) : Int × Bool :=
  if (co x1 - co x0) * (co y2 - co y0) - (co y1 - co y0) * (co x2 - co x0) = 0 then (0, false)
  else (ratio ((co x - co x0) * (co y2 - co y0) - (co y - co y0) * (co x2 - co x0)) ((co x1 - co x0) * (co y2 - co y0) - (co y1 - co y0) * (co x2 - co x0)), true)
theorem T_f (x0 y0 x1 y1 x2 y2 x y : Int) : linear_T.f x0 y0 x1 y1 x2 y2 x y = some (lin x0 y0 x1 y1 x2 y2 x y) := by
  unfold linear_T.f lin
  simp only [coarse_f, Option.bind_some]
  have b0 := co_bd x0; have b1 := co_bd y0; have b2 := co_bd x1; have b3 := co_bd y1
  have b4 := co_bd x2; have b5 := co_bd y2; have b6 := co_bd x; have b7 := co_bd y
  generalize co x0 = X0 at *; generalize co y0 = Y0 at *; generalize co x1 = X1 at *; generalize co y1 = Y1 at *
  generalize co x2 = X2 at *; generalize co y2 = Y2 at *; generalize co x = X at *; generalize co y = Y at *
  have p1 := mul_bd (a := X1 - X0) (b := Y2 - Y0) (A := 4194303) (B := 4194303) (by omega) (by omega) (by omega) (by omega)
  have p2 := mul_bd (a := Y1 - Y0) (b := X2 - X0) (A := 4194303) (B := 4194303) (by omega) (by omega) (by omega) (by omega)
  have p3 := mul_bd (a := X - X0) (b := Y2 - Y0) (A := 4194303) (B := 4194303) (by omega) (by omega) (by omega) (by omega)
  have p4 := mul_bd (a := Y - Y0) (b := X2 - X0) (A := 4194303) (B := 4194303) (by omega) (by omega) (by omega) (by omega)
  rw [w64 (n := X1 - X0) (by omega) (by omega), w64 (n := Y2 - Y0) (by omega) (by omega), w64 (n := Y1 - Y0) (by omega) (by omega), w64 (n := X2 - X0) (by omega) (by omega), w64 (n := X - X0) (by omega) (by omega), w64 (n := Y - Y0) (by omega) (by omega)]
  rw [w64 (n := (X1 - X0) * (Y2 - Y0)) (by omega) (by omega), w64 (n := (Y1 - Y0) * (X2 - X0)) (by omega) (by omega), w64 (n := (X - X0) * (Y2 - Y0)) (by omega) (by omega), w64 (n := (Y - Y0) * (X2 - X0)) (by omega) (by omega)]
  rw [w64 (n := (X1 - X0) * (Y2 - Y0) - (Y1 - Y0) * (X2 - X0)) (by omega) (by omega), w64 (n := (X - X0) * (Y2 - Y0) - (Y - Y0) * (X2 - X0)) (by omega) (by omega)]
  by_cases h : (X1 - X0) * (Y2 - Y0) - (Y1 - Y0) * (X2 - X0) = 0
  · rw [if_pos h, if_pos h]
  · rw [if_neg h, if_neg h, ratio_f]; rfl
theorem co_w {n : Int} (h1 : -30000 ≤ n) (h2 : n ≤ 30000) : co (65536 * n) = 64 * n := by
  unfold co; rw [clip_id (by omega) (by omega)]; omega

theorem rclip_f (a : Int) : versalref2_Clip.f a = some (clip a) := by
  unfold versalref2_Clip.f versalref2_Within.f clip
  simp only [Option.bind_some, Option.some.injEq]
  unfold mx mn; omega
theorem rfloor_f {a b : Int} (hb : 0 < b) (h1 : -9000000000000000000 ≤ a) (h2 : a ≤ 9000000000000000000) : versalref2_Floor.f a b = some (a / b) := by
  have h3 := tdiv_le (n := a) (d := b)
  rw [← tdiv_floor hb]
  unfold versalref2_Floor.f
  rw [if_neg (by omega), w64 (n := a.tdiv b) (by omega) (by omega), w64 (n := a.tdiv b - 1) (by omega) (by omega)]
  split <;> rfl

theorem rratio_f (a b : Int) : versalref2_Ratio.f a b = some (ratio a b) := by
  have h := wide_bd a
  have h' := wide_bd b
  have e : ∀ n, versalref2_Within.f n (-70368744177664) 70368744177664 = some (wide n) := by
    intro n; unfold versalref2_Within.f wide; simp only [Option.some.injEq]; unfold mx mn; omega
  unfold versalref2_Ratio.f ratio
  simp only [rclip_f, e, Option.bind_some]
  by_cases h0 : wide b = 0
  · rw [if_pos h0, if_pos h0]
  · rw [if_neg h0, if_neg h0]
    unfold fl
    by_cases h3 : wide b < 0
    · rw [if_neg (show ¬ 0 < wide b by omega), if_pos h3, w64 (n := -wide a) (by omega) (by omega), w64 (n := -wide b) (by omega) (by omega), w64 (by omega) (by omega), rfloor_f (by omega) (by omega) (by omega), show -wide a * 65536 = -(wide a * 65536) by omega]
      simp
    · rw [if_pos (show 0 < wide b by omega), if_neg h3, w64 (by omega) (by omega), rfloor_f (by omega) (by omega) (by omega)]
      simp

theorem rsmall_f (a : Int) : versalref20_small.f a = some (co a) := by
  have h := clip_bd a
  have e : versalref20_clip.f a = some (clip a) := by unfold versalref20_clip.f; simp only [rclip_f, Option.bind_some]
  unfold versalref20_small.f co
  simp only [e, Option.bind_some]
  rw [rfloor_f (by omega) (by omega) (by omega)]; rfl
theorem rlinear_f (x0 y0 x1 y1 x2 y2 x y : Int) : versalref20_Linear.f x0 y0 x1 y1 x2 y2 x y = some (lin x0 y0 x1 y1 x2 y2 x y) := by
  unfold versalref20_Linear.f lin
  simp only [rsmall_f, Option.bind_some]
  have b0 := co_bd x0; have b1 := co_bd y0; have b2 := co_bd x1; have b3 := co_bd y1
  have b4 := co_bd x2; have b5 := co_bd y2; have b6 := co_bd x; have b7 := co_bd y
  generalize co x0 = X0 at *; generalize co y0 = Y0 at *; generalize co x1 = X1 at *; generalize co y1 = Y1 at *
  generalize co x2 = X2 at *; generalize co y2 = Y2 at *; generalize co x = X at *; generalize co y = Y at *
  have p1 := mul_bd (a := X1 - X0) (b := Y2 - Y0) (A := 4194303) (B := 4194303) (by omega) (by omega) (by omega) (by omega)
  have p2 := mul_bd (a := Y1 - Y0) (b := X2 - X0) (A := 4194303) (B := 4194303) (by omega) (by omega) (by omega) (by omega)
  have p3 := mul_bd (a := X - X0) (b := Y2 - Y0) (A := 4194303) (B := 4194303) (by omega) (by omega) (by omega) (by omega)
  have p4 := mul_bd (a := Y - Y0) (b := X2 - X0) (A := 4194303) (B := 4194303) (by omega) (by omega) (by omega) (by omega)
  rw [w64 (n := X1 - X0) (by omega) (by omega), w64 (n := Y2 - Y0) (by omega) (by omega), w64 (n := Y1 - Y0) (by omega) (by omega), w64 (n := X2 - X0) (by omega) (by omega), w64 (n := X - X0) (by omega) (by omega), w64 (n := Y - Y0) (by omega) (by omega)]
  rw [w64 (n := (X1 - X0) * (Y2 - Y0)) (by omega) (by omega), w64 (n := (Y1 - Y0) * (X2 - X0)) (by omega) (by omega), w64 (n := (X - X0) * (Y2 - Y0)) (by omega) (by omega), w64 (n := (Y - Y0) * (X2 - X0)) (by omega) (by omega)]
  rw [w64 (n := (X1 - X0) * (Y2 - Y0) - (Y1 - Y0) * (X2 - X0)) (by omega) (by omega), w64 (n := (X - X0) * (Y2 - Y0) - (Y - Y0) * (X2 - X0)) (by omega) (by omega)]
  by_cases h : (X1 - X0) * (Y2 - Y0) - (Y1 - Y0) * (X2 - X0) = 0
  · rw [if_pos h, if_pos h]
  · rw [if_neg h, if_neg h, rratio_f]; rfl

abbrev Ret (f : FuncId) (args : Array Value) (w : World) (v : Value) : Prop := Calls Try.prog f args w fun e w' => e = .returned v ∧ Below w.heap.size w w'
theorem lift {f : FuncId} {args : Array Value} {w : World} {v : Value} (h : Calls Try.prog f args w fun e w' => e = .returned v ∧ Drawn0 w w') : Ret f args w v := h.mono fun _ _ ⟨a, b⟩ => ⟨a, b.below⟩
theorem c22 (a v : Int) (w : World) (h : versalhand_Num.f a = some v) : Calls Try.prog 22 #[.int .i64 a] w fun e w' => e = .returned (.int .i64 v) ∧ Drawn0 w w' := versalhand_Num.calls a v w h
theorem c21 (w : World) : Ret 21 #[] w (.bool true) := versallaw21_known.calls _ w (by decide +kernel)
theorem c19 (a0 a1 a2 a3 a4 a5 a6 a7 : Int) (w : World) : Ret 19 #[.int .i64 a0, .int .i64 a1, .int .i64 a2, .int .i64 a3, .int .i64 a4, .int .i64 a5, .int .i64 a6, .int .i64 a7] w (.tuple #[.int .i64 (lin a0 a1 a2 a3 a4 a5 a6 a7).1, .bool (lin a0 a1 a2 a3 a4 a5 a6 a7).2]) :=
  linear_T.calls a0 a1 a2 a3 a4 a5 a6 a7 _ _ w (T_f ..)
theorem c23 (a0 a1 a2 a3 a4 a5 a6 a7 : Int) (w : World) : Ret 23 #[.int .i64 a0, .int .i64 a1, .int .i64 a2, .int .i64 a3, .int .i64 a4, .int .i64 a5, .int .i64 a6, .int .i64 a7] w (.tuple #[.int .i64 (lin a0 a1 a2 a3 a4 a5 a6 a7).1, .bool (lin a0 a1 a2 a3 a4 a5 a6 a7).2]) :=
  versalref20_Linear.calls a0 a1 a2 a3 a4 a5 a6 a7 _ _ w (rlinear_f ..)
theorem c20 (a v : Int) (w : World) (h : wrap64 (a * 65536) = v) : Ret 20 #[.int .i64 a] w (.int .i64 v) := lift (versallaw21_w.calls a v w (h ▸ rfl))

end Go.Proofs.Ytkeacdpphmdodaa.LinCon
