/- What the functions of chapter 12 answer, in plain arithmetic: one contract each. -/
import Derived.Test.YtkeacdpphmdodaaPxW
import Derived.Test.YtkeacdpphmdodaaPPixelTellsx1
namespace Go.Proofs.Ytkeacdpphmdodaa.PxG
open Go.RowKit Go.Proofs.YtkeacdpphmdodaaW.PrintWords Go.Proofs.YtkeacdpphmdodaaW.PrintLast Go.Proofs.YtkeacdpphmdodaaW.PrintMore Go.Proofs.Ytkeacdpphmdodaa.PPixelTells Go.Proofs.Ytkeacdpphmdodaa.M Go.Proofs.Ytkeacdpphmdodaa.Blm Go.Proofs.Ytkeacdpphmdodaa.Reg Go.Proofs.Ytkeacdpphmdodaa.PxW
attribute [local go_sem] max2_mx min2_mn max_two min_two max_three min_three max_four min_four
set_option linter.unusedVariables false
set_option linter.unusedSimpArgs false

theorem pick_f {n m : Int} (h1 : 0 < m) (h2 : m ≤ 9223372036854775807) : versalhand_Pick.f n m = some (n % m) := by
  have ha := Int.lt_tmod_of_pos n h1
  have hb := Int.tmod_lt_of_pos n h1
  rw [← tmod_pick h1]
  unfold versalhand_Pick.f
  rw [if_neg (by omega)]
  by_cases h : n.tmod m < 0
  · rw [if_pos h, if_pos h, w64 (by omega) (by omega)]
  · rw [if_neg h, if_neg h]

theorem part_f (a b : Int) : pixel_Part.f a b = some (Blm.part a b) := by
  have h := br_mul a b
  have e : ∀ n, pixel_brought.f n = some (br n) := fun n => rfl
  unfold pixel_Part.f Blm.part
  simp only [e, Option.bind_some]
  rw [w64 (n := br a * br b) (by omega) (by omega), w64 (n := br a * br b + 127) (by omega) (by omega), Int.tdiv_eq_ediv_of_nonneg (by omega), w64 (by omega) (by omega)]
theorem c15 (a b : Int) (w : World) : Ret 15 #[.int .i64 a, .int .i64 b] w (.int .i64 (Blm.part a b)) := by first | exact pixel_Part.calls a b _ w (part_f a b) | exact lift (pixel_Part.calls a b _ w (part_f a b))
theorem right_f {r g b a : Int} (h : right (r, g, b, a)) : pixel_Right.f r g b a = some true := by
  unfold right at h
  dsimp only at h
  unfold pixel_Right.f
  rw [if_pos (by unfold mn; omega), decide_eq_true (by unfold mx; omega)]
theorem right_no {r g b a : Int} (h : ¬ right (r, g, b, a)) : pixel_Right.f r g b a = some false := by
  unfold right at h
  dsimp only at h
  unfold pixel_Right.f
  split
  · rename_i h1
    rw [decide_eq_false (by intro h2; apply h; unfold mn at h1; unfold mx at h2; omega)]
  · rfl
instance (p : P4) : Decidable (right p) := by unfold right; infer_instance
abbrev pv (p : P4) : Value := px p.1 p.2.1 p.2.2.1 p.2.2.2
theorem c37 (p : P4) (w : World) : Ret 37 #[pv p] w (.bool (decide (right p))) := by
  have h : pixel_Right.f p.1 p.2.1 p.2.2.1 p.2.2.2 = some (decide (right p)) := by
    by_cases h : right p
    · rw [right_f h, decide_eq_true h]
    · rw [right_no h, decide_eq_false h]
  first | exact pixel_Right.calls _ _ _ _ _ w h | exact lift (pixel_Right.calls _ _ _ _ _ w h)
theorem premul_f (r g b a : Int) : pixel_Premultiplied.f r g b a = some (decide (premul (r, g, b, a))) := by
  unfold pixel_Premultiplied.f
  by_cases h : right (r, g, b, a)
  · rw [right_f h]
    simp only [Option.bind_some, if_true]
    congr 1
    rw [decide_eq_decide]
    unfold premul
    constructor
    · intro h2; unfold mx at h2; dsimp only; exact ⟨h, by omega, by omega, by omega⟩
    · intro h2; unfold mx; dsimp only at h2; omega
  · rw [right_no h]
    simp only [Option.bind_some]
    rw [if_neg (by simp), decide_eq_false (fun x => h x.1)]
theorem c26 (p : P4) (w : World) : Ret 26 #[pv p] w (.bool (decide (premul p))) := by first | exact pixel_Premultiplied.calls _ _ _ _ _ w (premul_f _ _ _ _) | exact lift (pixel_Premultiplied.calls _ _ _ _ _ w (premul_f _ _ _ _))
/-- the pixel that is taken -/
def tk (p : P4) : P4 := if right p then p else (0, 0, 0, 0)
theorem tk_right (p : P4) : right (tk p) := by unfold tk; split <;> first | assumption | decide
theorem tk_id {p : P4} (h : right p) : tk p = p := if_pos h
theorem taken_f (p : P4) : pixel_taken.f p.1 p.2.1 p.2.2.1 p.2.2.2 = some (tk p) := by
  unfold pixel_taken.f tk
  by_cases h : right p
  · rw [right_f h, if_pos h]; rfl
  · rw [right_no h, if_neg h]; rfl
theorem c61 (p : P4) (w : World) : Ret 61 #[pv p] w (pv (tk p)) := by first | exact pixel_taken.calls _ _ _ _ _ _ _ _ w (taken_f p) | exact lift (pixel_taken.calls _ _ _ _ _ _ _ _ w (taken_f p))
def sc (p : P4) (n : Int) : P4 := (Blm.part p.1 n, Blm.part p.2.1 n, Blm.part p.2.2.1 n, Blm.part p.2.2.2 n)
theorem scale_f (p : P4) (n : Int) : pixel_Scale.f p.1 p.2.1 p.2.2.1 p.2.2.2 n = some (sc (tk p) n) := by
  unfold pixel_Scale.f; rw [taken_f]; simp only [part_f, Option.bind_some]; rfl
theorem c29 (p : P4) (n : Int) (w : World) : Ret 29 #[pv p, .int .i64 n] w (pv (sc (tk p) n)) := by first | exact pixel_Scale.calls _ _ _ _ _ _ _ _ _ w (scale_f p n) | exact lift (pixel_Scale.calls _ _ _ _ _ _ _ _ _ w (scale_f p n))
def pr (p : P4) : P4 := (Blm.part p.1 p.2.2.2, Blm.part p.2.1 p.2.2.2, Blm.part p.2.2.1 p.2.2.2, p.2.2.2)
theorem pre_f (p : P4) : pixel_Pre.f p.1 p.2.1 p.2.2.1 p.2.2.2 = some (pr (tk p)) := by
  unfold pixel_Pre.f; rw [taken_f]; simp only [part_f, Option.bind_some]; rfl
theorem c18 (p : P4) (w : World) : Ret 18 #[pv p] w (pv (pr (tk p))) := by first | exact pixel_Pre.calls _ _ _ _ _ _ _ _ w (pre_f p) | exact lift (pixel_Pre.calls _ _ _ _ _ _ _ _ w (pre_f p))
def ov1 (s d a : Int) : Int := mn 255 (s + Blm.part d (255 - a))
def ov (s d : P4) : P4 := (ov1 s.1 d.1 s.2.2.2, ov1 s.2.1 d.2.1 s.2.2.2, ov1 s.2.2.1 d.2.2.1 s.2.2.2, ov1 s.2.2.2 d.2.2.2 s.2.2.2)
theorem over_f (s d : P4) : pixel_Over.f s.1 s.2.1 s.2.2.1 s.2.2.2 d.1 d.2.1 d.2.2.1 d.2.2.2 = some (ov (tk s) (tk d)) := by
  have hs := tk_right s
  have hd := tk_right d
  unfold pixel_Over.f
  rw [taken_f, taken_f]
  simp only [Option.bind_some]
  unfold right at hs
  rw [w64 (n := 255 - (tk s).2.2.2) (by omega) (by omega), scale_f, tk_id hd]
  simp only [Option.bind_some]
  unfold sc ov ov1
  dsimp only
  have b1 := part_bd (tk d).1 (255 - (tk s).2.2.2)
  have b2 := part_bd (tk d).2.1 (255 - (tk s).2.2.2)
  have b3 := part_bd (tk d).2.2.1 (255 - (tk s).2.2.2)
  have b4 := part_bd (tk d).2.2.2 (255 - (tk s).2.2.2)
  rw [w64 (n := (tk s).1 + _) (by omega) (by omega), w64 (n := (tk s).2.1 + _) (by omega) (by omega), w64 (n := (tk s).2.2.1 + _) (by omega) (by omega), w64 (n := (tk s).2.2.2 + _) (by omega) (by omega)]
theorem c27 (s d : P4) (w : World) : Ret 27 #[pv s, pv d] w (pv (ov (tk s) (tk d))) := by first | exact pixel_Over.calls _ _ _ _ _ _ _ _ _ _ _ _ w (over_f s d) | exact lift (pixel_Over.calls _ _ _ _ _ _ _ _ _ _ _ _ w (over_f s d))
def clampt (t : Int) : Int := mx 0 (mn t 65536)
theorem clampt_bd (t : Int) : 0 ≤ clampt t ∧ clampt t ≤ 65536 := by unfold clampt mx mn; omega
theorem clampt_id {t : Int} (h0 : 0 ≤ t) (h1 : t ≤ 65536) : clampt t = t := by unfold clampt mx mn; omega
def mi (a b : P4) (t : Int) : P4 := (mixn a.1 b.1 t, mixn a.2.1 b.2.1 t, mixn a.2.2.1 b.2.2.1 t, mixn a.2.2.2 b.2.2.2 t)
theorem c28 (a b : P4) (t : Int) (w : World) : Ret 28 #[pv a, pv b, .int .i64 t] w (pv (mi (tk a) (tk b) (clampt t))) := by
  have ha := tk_right a
  have hb := tk_right b
  exact c28w _ _ _ _ _ _ _ _ _ _ _ _ _ _ _ _ t w (fun w => c61 a w) (fun w => c61 b w) (clampt_bd t) ha.1 hb.1 ha.2.1 hb.2.1 ha.2.2.1 hb.2.2.1 ha.2.2.2 hb.2.2.2
def ba (p : P4) : P4 := if p.2.2.2 = 0 then (0, 0, 0, 0) else (bare p.1 p.2.2.2, bare p.2.1 p.2.2.2, bare p.2.2.1 p.2.2.2, p.2.2.2)
theorem c17 (p : P4) (w : World) : Ret 17 #[pv p] w (pv (ba (tk p))) := by
  have h := tk_right p
  have K := fun w => c61 p w
  generalize tk p = q at *
  obtain ⟨r, g, b, a⟩ := q
  unfold right at h
  by_cases h0 : a = 0
  · subst h0
    exact c17z _ _ _ _ r g b w K
  · have e : ba (r, g, b, a) = (bare r a, bare g a, bare b a, a) := by unfold ba; rw [if_neg h0]
    rw [e]
    exact c17n _ _ _ _ r g b a w K h.1 h.2.1 h.2.2.1 (by dsimp only at h; omega) (by simpa using h0)
theorem c16 (w : World) : Ret 16 #[] w (.bool true) := by first | exact versallaw12_known.calls _ w (by decide +kernel) | exact lift (versallaw12_known.calls _ w (by decide +kernel))
theorem c14 (n m : Int) (w : World) (h1 : 0 < m) (h2 : m ≤ 9223372036854775807) : Ret 14 #[.int .i64 n, .int .i64 m] w (.int .i64 (n % m)) := by first | exact versalhand_Pick.calls n m _ w (pick_f h1 h2) | exact lift (versalhand_Pick.calls n m _ w (pick_f h1 h2))
theorem eqs25 (w : World) (x0 y0 : Int) (x1 y1 : Int) (x2 y2 : Int) (x3 y3 : Int) :
    (Op.equalIn 10000 25 (.agg #[.int .i64 x0, .int .i64 x1, .int .i64 x2, .int .i64 x3]) (.agg #[.int .i64 y0, .int .i64 y1, .int .i64 y2, .int .i64 y3])).run Try.prog w = .ok (x0 == y0 && (x1 == y1 && (x2 == y2 && (x3 == y3)))) w := eqA25 9998 w x0 y0 x1 y1 x2 y2 x3 y3

end Go.Proofs.Ytkeacdpphmdodaa.PxG
