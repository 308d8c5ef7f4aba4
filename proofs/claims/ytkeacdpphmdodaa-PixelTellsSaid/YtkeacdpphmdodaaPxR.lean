/- What the reference of chapter 12 answers, in plain arithmetic. -/
import Derived.Test.YtkeacdpphmdodaaPxG
namespace Go.Proofs.Ytkeacdpphmdodaa.PxR
open Go.RowKit Go.Proofs.YtkeacdpphmdodaaW.PrintWords Go.Proofs.YtkeacdpphmdodaaW.PrintLast Go.Proofs.YtkeacdpphmdodaaW.PrintMore Go.Proofs.Ytkeacdpphmdodaa.PPixelTells Go.Proofs.Ytkeacdpphmdodaa.M Go.Proofs.Ytkeacdpphmdodaa.Blm Go.Proofs.Ytkeacdpphmdodaa.Reg Go.Proofs.Ytkeacdpphmdodaa.PxW Go.Proofs.Ytkeacdpphmdodaa.PxG
attribute [local go_sem] max2_mx min2_mn max_two min_two max_three min_three max_four min_four
set_option linter.unusedVariables false
set_option linter.unusedSimpArgs false

theorem rwithin_f (a : Int) : versalref12_within.f a = some (br a) := by
  unfold versalref12_within.f br
  have e : mn 255 a = mn a 255 := by unfold mn; omega
  rw [e]
theorem rpart_f (a b : Int) : versalref12_Part.f a b = some (Blm.part a b) := by
  have h := br_mul a b
  unfold versalref12_Part.f Blm.part
  simp only [rwithin_f, Option.bind_some]
  rw [w64 (n := br a * br b) (by omega) (by omega), w64 (n := br a * br b + 127) (by omega) (by omega), Int.tdiv_eq_ediv_of_nonneg (by omega), w64 (by omega) (by omega)]
theorem c43 (a b : Int) (w : World) : Ret 43 #[.int .i64 a, .int .i64 b] w (.int .i64 (Blm.part a b)) := by first | exact versalref12_Part.calls a b _ w (rpart_f a b) | exact lift (versalref12_Part.calls a b _ w (rpart_f a b))
theorem rright_f {r g b a : Int} (h : right (r, g, b, a)) : versalref6_RightPixel.f r g b a = some true := by
  unfold right at h
  dsimp only at h
  unfold versalref6_RightPixel.f
  rw [if_pos (by omega), if_pos (by omega), if_pos (by omega), if_pos (by omega), if_pos (by omega), if_pos (by omega), if_pos (by omega), decide_eq_true (by omega)]
theorem rright_g (r g b a : Int) : versalref6_RightPixel.f r g b a = some (decide (right (r, g, b, a))) := by
  by_cases h : right (r, g, b, a)
  · rw [decide_eq_true h]; exact rright_f h
  · rw [decide_eq_false h]
    unfold right at h; dsimp only at h
    unfold versalref6_RightPixel.f
    repeat' split
    all_goals first | rfl | (simp only [Option.some.injEq, decide_eq_false_iff_not]; omega)
theorem c39 (p : P4) (w : World) : Ret 39 #[pv p] w (.bool (decide (right p))) := by first | exact versalref6_RightPixel.calls _ _ _ _ _ w (rright_g _ _ _ _) | exact lift (versalref6_RightPixel.calls _ _ _ _ _ w (rright_g _ _ _ _))
theorem refpm_g (r g b a : Int) : versalref12_Premultiplied.f r g b a = some (decide (premul (r, g, b, a))) := by
  by_cases h : premul (r, g, b, a)
  · rw [decide_eq_true h]
    have h' := h
    unfold premul right at h'; dsimp only at h'
    unfold versalref12_Premultiplied.f
    rw [rright_f h.1]
    simp only [Option.bind_some]
    rw [if_pos trivial, if_pos (by omega), if_pos (by omega), decide_eq_true (by omega)]
  · rw [decide_eq_false h]
    unfold versalref12_Premultiplied.f
    rw [rright_g]
    simp only [Option.bind_some]
    by_cases hr : right (r, g, b, a)
    · rw [decide_eq_true hr, if_pos rfl]
      have h2 : ¬ (r ≤ a ∧ g ≤ a ∧ b ≤ a) := fun e => h ⟨hr, e.1, e.2.1, e.2.2⟩
      repeat' split
      all_goals first | rfl | (simp only [Option.some.injEq, decide_eq_false_iff_not]; omega)
    · rw [decide_eq_false hr, if_neg (by decide)]
theorem c42 (p : P4) (w : World) : Ret 42 #[pv p] w (.bool (decide (premul p))) := by first | exact versalref12_Premultiplied.calls _ _ _ _ _ w (refpm_g _ _ _ _) | exact lift (versalref12_Premultiplied.calls _ _ _ _ _ w (refpm_g _ _ _ _))
theorem rown_f (p : P4) : versalref12_own.f p.1 p.2.1 p.2.2.1 p.2.2.2 = some (tk p) := by
  unfold versalref12_own.f tk
  rw [rright_g]
  by_cases h : right p
  · rw [if_pos h, decide_eq_true (show right (p.1, p.2.1, p.2.2.1, p.2.2.2) from h)]; rfl
  · rw [if_neg h, decide_eq_false (show ¬ right (p.1, p.2.1, p.2.2.1, p.2.2.2) from h)]; rfl
theorem rpre_f (p : P4) : versalref12_Pre.f p.1 p.2.1 p.2.2.1 p.2.2.2 = some (pr (tk p)) := by
  unfold versalref12_Pre.f; rw [rown_f]; simp only [rpart_f, Option.bind_some]; rfl
theorem c40 (p : P4) (w : World) : Ret 40 #[pv p] w (pv (pr (tk p))) := by first | exact versalref12_Pre.calls _ _ _ _ _ _ _ _ w (rpre_f p) | exact lift (versalref12_Pre.calls _ _ _ _ _ _ _ _ w (rpre_f p))
theorem rscale_f (p : P4) (n : Int) : versalref12_Scale.f p.1 p.2.1 p.2.2.1 p.2.2.2 n = some (sc (tk p) n) := by
  unfold versalref12_Scale.f; rw [rown_f]; simp only [rpart_f, Option.bind_some]; rfl
theorem c44 (p : P4) (n : Int) (w : World) : Ret 44 #[pv p, .int .i64 n] w (pv (sc (tk p) n)) := by first | exact versalref12_Scale.calls _ _ _ _ _ _ _ _ _ w (rscale_f p n) | exact lift (versalref12_Scale.calls _ _ _ _ _ _ _ _ _ w (rscale_f p n))
theorem rbare_f {n a : Int} (n0 : 0 ≤ n ∧ n ≤ 255) (a0 : 0 < a ∧ a ≤ 255) : versalref12_bare.f n a = some (bare n a) := by
  have h1 := ediv_bd (n := n * 255 + a / 2) (d := a) (by omega)
  unfold versalref12_bare.f bare
  rw [if_neg (by omega), w64 (n := n * 255) (by omega) (by omega), Int.tdiv_eq_ediv_of_nonneg (a := a) (by omega), w64 (n := a / 2) (by omega) (by omega), w64 (n := n * 255 + a / 2) (by omega) (by omega), Int.tdiv_eq_ediv_of_nonneg (by omega), w64 (by omega) (by omega)]
theorem rBare_f (p : P4) : versalref12_Bare.f p.1 p.2.1 p.2.2.1 p.2.2.2 = some (ba (tk p)) := by
  have h := tk_right p
  unfold versalref12_Bare.f
  rw [rown_f]
  simp only [Option.bind_some]
  generalize tk p = q at *
  obtain ⟨r, g, b, a⟩ := q
  unfold right at h
  dsimp only at h ⊢
  unfold ba
  by_cases h0 : a = 0
  · rw [if_pos h0, if_pos h0]
  · rw [if_neg h0, if_neg h0, rbare_f h.1 (by omega), rbare_f h.2.1 (by omega), rbare_f h.2.2.1 (by omega)]; rfl
theorem c41 (p : P4) (w : World) : Ret 41 #[pv p] w (pv (ba (tk p))) := by first | exact versalref12_Bare.calls _ _ _ _ _ _ _ _ w (rBare_f p) | exact lift (versalref12_Bare.calls _ _ _ _ _ _ _ _ w (rBare_f p))
theorem rover1_f {s d a : Int} (h : 0 ≤ s ∧ s ≤ 255) (k : 0 ≤ a ∧ a ≤ 255) : versalref12_over.f s d a = some (ov1 s d a) := by
  have b1 := part_bd d (255 - a)
  unfold versalref12_over.f ov1
  rw [w64 (n := 255 - a) (by omega) (by omega), rpart_f]
  simp only [Option.bind_some]
  rw [w64 (n := s + _) (by omega) (by omega)]
theorem rover_f (s d : P4) : versalref12_Over.f s.1 s.2.1 s.2.2.1 s.2.2.2 d.1 d.2.1 d.2.2.1 d.2.2.2 = some (ov (tk s) (tk d)) := by
  have hs := tk_right s
  unfold versalref12_Over.f
  rw [rown_f, rown_f]
  simp only [Option.bind_some]
  rw [rover1_f hs.1 hs.2.2.2, rover1_f hs.2.1 hs.2.2.2, rover1_f hs.2.2.1 hs.2.2.2, rover1_f hs.2.2.2 hs.2.2.2]
  rfl
theorem c45 (s d : P4) (w : World) : Ret 45 #[pv s, pv d] w (pv (ov (tk s) (tk d))) := by first | exact versalref12_Over.calls _ _ _ _ _ _ _ _ _ _ _ _ w (rover_f s d) | exact lift (versalref12_Over.calls _ _ _ _ _ _ _ _ _ _ _ _ w (rover_f s d))
theorem rmix1_f {x y t : Int} (x1 : 0 ≤ x ∧ x ≤ 255) (y1 : 0 ≤ y ∧ y ≤ 255) (t1 : 0 ≤ t ∧ t ≤ 65536) : versalref12_mix.f x y t = some (mixn x y t) := by
  obtain ⟨m1, m2, m3, m4⟩ := mix_in x1.1 x1.2 y1.1 y1.2 t1.1 t1.2
  unfold versalref12_mix.f mixn
  rw [w64 (n := 65536 - t) (by omega) (by omega), w64 (n := x * (65536 - t)) (by omega) (by omega), w64 (n := y * t) (by omega) (by omega), w64 (n := x * (65536 - t) + y * t) (by omega) (by omega), w64 (n := x * (65536 - t) + y * t + 32768) (by omega) (by omega), Int.tdiv_eq_ediv_of_nonneg (by omega), w64 (by omega) (by omega)]
theorem rmix_f (a b : P4) (t : Int) : versalref12_Mix.f a.1 a.2.1 a.2.2.1 a.2.2.2 b.1 b.2.1 b.2.2.1 b.2.2.2 t = some (mi (tk a) (tk b) (clampt t)) := by
  have ha := tk_right a
  have hb := tk_right b
  have ht := clampt_bd t
  have e : mx 0 (mn 65536 t) = clampt t := by unfold clampt; congr 1; unfold mn; omega
  unfold versalref12_Mix.f
  rw [rown_f, rown_f, e]
  simp only [Option.bind_some]
  rw [rmix1_f ha.1 hb.1 ht, rmix1_f ha.2.1 hb.2.1 ht, rmix1_f ha.2.2.1 hb.2.2.1 ht, rmix1_f ha.2.2.2 hb.2.2.2 ht]
  rfl
theorem c46 (a b : P4) (t : Int) (w : World) : Ret 46 #[pv a, pv b, .int .i64 t] w (pv (mi (tk a) (tk b) (clampt t))) := by first | exact versalref12_Mix.calls _ _ _ _ _ _ _ _ _ _ _ _ _ w (rmix_f a b t) | exact lift (versalref12_Mix.calls _ _ _ _ _ _ _ _ _ _ _ _ _ w (rmix_f a b t))

end Go.Proofs.Ytkeacdpphmdodaa.PxR
