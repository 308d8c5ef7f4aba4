/- What the reference's small functions of blending answer, in plain arithmetic. -/
import Derived.Test.YtfddmjjdnpkleaaBlP3
import Derived.Test.YtfddmjjdnpkleaaBlG
namespace Go.Proofs.Ytfddmjjdnpkleaa.BlR
open Go.RowKit Go.Proofs.YtfddmjjdnpkleaaW.PrintWords Go.Proofs.YtfddmjjdnpkleaaW.PrintLast Go.Proofs.YtfddmjjdnpkleaaW.PrintMore Go.Proofs.Ytfddmjjdnpkleaa.BlP Go.Proofs.Ytfddmjjdnpkleaa.BlP3 Go.Proofs.Ytfddmjjdnpkleaa.M Go.Proofs.Ytfddmjjdnpkleaa.Blm Go.Proofs.Ytfddmjjdnpkleaa.Reg Go.Proofs.Ytfddmjjdnpkleaa.BlQ Go.Proofs.Ytfddmjjdnpkleaa.BlW Go.Proofs.Ytfddmjjdnpkleaa.BlX Go.Proofs.Ytfddmjjdnpkleaa.BlB Go.Proofs.Ytfddmjjdnpkleaa.BlC Go.Proofs.Ytfddmjjdnpkleaa.BlG
attribute [local go_sem] max2_mx min2_mn max_two min_two max_three min_three max_four min_four
set_option linter.unusedVariables false
set_option linter.unusedSimpArgs false

theorem rwithin_f (a : Int) : versalref12_within.f a = some (br a) := by
  unfold versalref12_within.f br
  have e : mn 255 a = mn a 255 := by unfold mn; omega
  rw [e]
theorem c43 (a : Int) (w : World) : Ret 43 #[.int .i64 a] w (.int .i64 (br a)) := by first | exact versalref12_within.calls a _ w (rwithin_f a) | exact lift (versalref12_within.calls a _ w (rwithin_f a))
theorem rpart_f (a b : Int) : versalref12_Part.f a b = some (Blm.part a b) := by
  have h := br_mul a b
  unfold versalref12_Part.f Blm.part
  simp only [rwithin_f, Option.bind_some]
  rw [w64 (n := br a * br b) (by omega) (by omega), w64 (n := br a * br b + 127) (by omega) (by omega), Int.tdiv_eq_ediv_of_nonneg (by omega), w64 (by omega) (by omega)]
theorem c29 (a b : Int) (w : World) : Ret 29 #[.int .i64 a, .int .i64 b] w (.int .i64 (Blm.part a b)) := by first | exact versalref12_Part.calls a b _ w (rpart_f a b) | exact lift (versalref12_Part.calls a b _ w (rpart_f a b))
theorem rfactors_f {m sa da : Int} (m0 : 0 ≤ m) (m1 : m ≤ 12) (s0 : 0 ≤ sa ∧ sa ≤ 255) (d0 : 0 ≤ da ∧ da ≤ 255) : versalref12_factors.f m sa da = some (factors m sa da) := by
  unfold versalref12_factors.f
  rw [w64 (n := 255 - sa) (by omega) (by omega), w64 (n := 255 - da) (by omega) (by omega)]
  rcases (by omega : m = 0 ∨ m = 1 ∨ m = 2 ∨ m = 3 ∨ m = 4 ∨ m = 5 ∨ m = 6 ∨ m = 7 ∨ m = 8 ∨ m = 9 ∨ m = 10 ∨ m = 11 ∨ m = 12) with rfl | rfl | rfl | rfl | rfl | rfl | rfl | rfl | rfl | rfl | rfl | rfl | rfl <;> rfl
theorem c28 {m sa da : Int} (m0 : 0 ≤ m) (m1 : m ≤ 12) (s0 : 0 ≤ sa ∧ sa ≤ 255) (d0 : 0 ≤ da ∧ da ≤ 255) (w : World) : Ret 28 #[.int .i64 m, .int .i64 sa, .int .i64 da] w (.tuple #[.int .i64 (factors m sa da).1, .int .i64 (factors m sa da).2]) := by
  first | exact versalref12_factors.calls _ _ _ _ _ w (rfactors_f m0 m1 s0 d0) | exact lift (versalref12_factors.calls _ _ _ _ _ w (rfactors_f m0 m1 s0 d0))
theorem rright_f {r g b a : Int} (h : right (r, g, b, a)) : versalref6_RightPixel.f r g b a = some true := by
  unfold right at h
  dsimp only at h
  unfold versalref6_RightPixel.f
  rw [if_pos (by omega), if_pos (by omega), if_pos (by omega), if_pos (by omega), if_pos (by omega), if_pos (by omega), if_pos (by omega), decide_eq_true (by omega)]
theorem rown_f {r g b a : Int} (h : right (r, g, b, a)) : versalref12_own.f r g b a = some (r, g, b, a) := by
  unfold versalref12_own.f; rw [rright_f h]; rfl
theorem rbare_f {n a : Int} (n0 : 0 ≤ n ∧ n ≤ 255) (a0 : 0 < a ∧ a ≤ 255) : versalref12_bare.f n a = some (bare n a) := by
  have h1 := ediv_bd (n := n * 255 + a / 2) (d := a) (by omega)
  unfold versalref12_bare.f bare
  rw [if_neg (by omega), w64 (n := n * 255) (by omega) (by omega), Int.tdiv_eq_ediv_of_nonneg (a := a) (by omega), w64 (n := a / 2) (by omega) (by omega), w64 (n := n * 255 + a / 2) (by omega) (by omega), Int.tdiv_eq_ediv_of_nonneg (by omega), w64 (by omega) (by omega)]
theorem rBare_f {r g b a : Int} (h : right (r, g, b, a)) : versalref12_Bare.f r g b a = some (barp (r, g, b, a)) := by
  have h' := h
  unfold right at h'
  dsimp only at h'
  unfold versalref12_Bare.f barp
  rw [rown_f h]
  simp only [Option.bind_some]
  split
  · rfl
  · rw [rbare_f h'.1 (by omega), rbare_f h'.2.1 (by omega), rbare_f h'.2.2.1 (by omega)]; rfl
theorem c30 {p : P4} (h : right p) (w : World) : Ret 30 #[pv p] w (pv (barp p)) := by first | exact versalref12_Bare.calls _ _ _ _ _ _ _ _ w (rBare_f h) | exact lift (versalref12_Bare.calls _ _ _ _ _ _ _ _ w (rBare_f h))
theorem rfloor_f {n d : Int} (hd : 0 < d) (n1 : -4611686018427387904 ≤ n) (n2 : n ≤ 4611686018427387904) : versalref12_floor.f n d = some (n / d) := by
  have h1 := ediv_bd (n := n) hd
  have h2 := tdiv_le (n := n) (d := d)
  unfold versalref12_floor.f
  rw [if_neg (by omega)]
  have e := tdiv_floor (n := n) hd
  split
  · rename_i h; rw [if_pos h] at e; rw [w64 (n := n.tdiv d) (by omega) (by omega), w64 (by omega) (by omega), e]
  · rename_i h; rw [if_neg h] at e; rw [w64 (n := n.tdiv d) (by omega) (by omega), e]
theorem c48 {n d : Int} (hd : 0 < d) (n1 : -4611686018427387904 ≤ n) (n2 : n ≤ 4611686018427387904) (w : World) : Ret 48 #[.int .i64 n, .int .i64 d] w (.int .i64 (n / d)) := by first | exact versalref12_floor.calls _ _ _ w (rfloor_f hd n1 n2) | exact lift (versalref12_floor.calls _ _ _ w (rfloor_f hd n1 n2))
theorem rnot_f {a : Int} (h0 : -100000 ≤ a) (h1 : a ≤ 100000) : versalref12_not.f a = some (nt a) := by
  unfold versalref12_not.f nt; rw [w64 (by omega) (by omega)]
theorem rscreen_f {c b : Int} (c0 : -1000 ≤ c) (c1 : c ≤ 1000) (b0 : -1000 ≤ b) (b1 : b ≤ 1000) : versalref12_screen.f c b = some (screened c b) := by
  unfold versalref12_screen.f screened
  rw [rnot_f (a := c) (by omega) (by omega), rnot_f (a := b) (by omega) (by omega)]
  have h := part_bd (nt c) (nt b)
  simp only [Option.bind_some, rpart_f]
  rw [rnot_f (by omega) (by omega)]; rfl
theorem rone_f (k : Nat) {c b : Int} (c0 : 0 ≤ c) (c1 : c ≤ 255) (b0 : 0 ≤ b) (b1 : b ≤ 255) (m : Int) (hm : m ≠ 14) : versalref12_one.f (k + 1) m c b = some (mixed m c b) := by
  have h1 := part_bd c b
  have h2 := part_bd (nt c) (Blm.part b b)
  have h3 := part_bd c (screened b b)
  have h4 : 0 ≤ mx c b ∧ mx c b ≤ 255 ∧ 0 ≤ mn c b ∧ mn c b ≤ 255 := by unfold mx mn; omega
  have hd := dodged_f c0 c1 b0 b1
  have hb := burnt_f c0 c1 b0 b1
  have hh : (if c ≤ 127 then some (Blm.part (2 * c) b) else some (screened (2 * c - 255) b)) = some (hard c b) := by unfold hard; split <;> rfl
  unfold blend_dodged.f at hd
  unfold blend_burnt.f at hb
  unfold versalref12_one.f mixed
  rw [rscreen_f (c := c) (b := b) (by omega) (by omega) (by omega) (by omega), rnot_f (a := c) (by omega) (by omega), rscreen_f (c := b) (b := b) (by omega) (by omega) (by omega) (by omega)]
  rw [w64 (n := 2 * c) (by omega) (by omega), w64 (n := 2 * c - 255) (by omega) (by omega), rscreen_f (c := 2 * c - 255) (b := b) (by omega) (by omega) (by omega) (by omega)]
  simp only [Option.bind_some, rpart_f]
  rw [w64 (n := Blm.part (nt c) (Blm.part b b) + Blm.part c (screened b b)) (by omega) (by omega), w64 (n := mx c b - mn c b) (by omega) (by omega), w64 (n := c + b) (by omega) (by omega), w64 (n := 2 * Blm.part c b) (by omega) (by omega), w64 (n := c + b - 2 * Blm.part c b) (by omega) (by omega)]
  by_cases m13 : m = 13
  · rw [if_pos m13, if_pos m13]
  rw [if_neg m13, if_neg m13, if_neg hm, if_neg hm]
  by_cases m15 : m = 15
  · rw [if_pos m15, if_pos m15]
  rw [if_neg m15, if_neg m15]
  by_cases m16 : m = 16
  · rw [if_pos m16, if_pos m16]
  rw [if_neg m16, if_neg m16]
  by_cases m17 : m = 17
  · rw [if_pos m17, if_pos m17]; exact hd
  rw [if_neg m17, if_neg m17]
  by_cases m18 : m = 18
  · rw [if_pos m18, if_pos m18]; exact hb
  rw [if_neg m18, if_neg m18]
  by_cases m19 : m = 19
  · rw [if_pos m19, if_pos m19]; exact hh
  rw [if_neg m19, if_neg m19]
  repeat' split
  all_goals first | rfl | (exfalso; omega)
theorem rone_g {c b : Int} (c0 : 0 ≤ c ∧ c ≤ 255) (b0 : 0 ≤ b ∧ b ≤ 255) (m : Int) : versalref12_one.f 2 m c b = some (mixed m c b) := by
  by_cases h : m = 14
  · subst h
    have e := rone_f 0 b0.1 b0.2 c0.1 c0.2 19 (by omega)
    have e2 : mixed 14 c b = mixed 19 b c := rfl
    have e3 : versalref12_one.f 2 14 c b = (versalref12_one.f 1 19 b c).bind fun t211 => some t211 := rfl
    rw [e3, e, e2]; rfl
  · exact rone_f 1 c0.1 c0.2 b0.1 b0.2 m h
theorem c35 {c b : Int} (c0 : 0 ≤ c ∧ c ≤ 255) (b0 : 0 ≤ b ∧ b ≤ 255) (m : Int) (w : World) : Ret 35 #[.int .i64 m, .int .i64 c, .int .i64 b] w (.int .i64 (mixed m c b)) := by first | exact versalref12_one.calls 2 _ _ _ _ w (rone_g c0 b0 m) | exact lift (versalref12_one.calls 2 _ _ _ _ w (rone_g c0 b0 m))

end Go.Proofs.Ytfddmjjdnpkleaa.BlR
