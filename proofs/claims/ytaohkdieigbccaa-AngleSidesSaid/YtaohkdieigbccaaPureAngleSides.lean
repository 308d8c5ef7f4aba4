/- The angle of a place is in its quarter; mirrored about an axis it is mirrored; a place twice as far is seen at the same one. No conditions. -/
import Derived.Test.YtaohkdieigbccaaPAngleSidesx2
import Derived.Test.YtaohkdieigbccaaMath
import Derived.Test.YtaohkdieigbccaaAng
namespace Go.Proofs.Ytaohkdieigbccaa.Pure
open Go.RowKit Go.Proofs.Ytaohkdieigbccaa.PAngleSides Go.Proofs.YtaohkdieigbccaaW.PrintWords Go.Proofs.YtaohkdieigbccaaW.PrintLast Go.Proofs.Ytaohkdieigbccaa.M
set_option linter.unusedSimpArgs false
set_option linter.unusedVariables false

theorem pick_f {n m : Int} (h1 : 0 < m) (h2 : m ≤ 9223372036854775807) : versalhand_Pick.f n m = some (n % m) := by
  have ha := Int.lt_tmod_of_pos n h1
  have hb := Int.tmod_lt_of_pos n h1
  rw [← tmod_pick h1]
  unfold versalhand_Pick.f
  rw [if_neg (by omega)]
  by_cases h : n.tmod m < 0
  · rw [if_pos h, if_pos h, w64 (by omega) (by omega)]
  · rw [if_neg h, if_neg h]

theorem num_f {a : Int} (ha : (Lit.int .i64 a).wf = true) : ∃ v, versalhand_Num.f a = some v ∧ -9223372036854775808 ≤ v ∧ v ≤ 9223372036854775807 := by
  have hb := bounds_i64 ha
  unfold versalhand_Num.f
  have w : ∀ n : Int, -9223372036854775808 ≤ wrap64 n ∧ wrap64 n ≤ 9223372036854775807 := fun n => by unfold wrap64; omega
  simp only [pick_f (show (0:Int) < 8 by omega) (by omega), pick_f (show (0:Int) < 2001 by omega) (by omega), pick_f (show (0:Int) < 9 by omega) (by omega), pick_f (show (0:Int) < 1310720 by omega) (by omega), Option.bind_some]
  split
  · exact ⟨_, rfl, hb⟩
  · split
    · exact ⟨_, rfl, w _⟩
    · split
      · exact ⟨_, rfl, w _⟩
      · split
        · exact ⟨_, rfl, w _⟩
        · exact ⟨_, rfl, w _⟩

theorem clip_f (a : Int) : fixed_Clip.f a = some (clip a) := rfl

theorem norm_f (a : Int) : angle_Norm.f a = some (a % 65536) := by
  unfold angle_Norm.f
  have h1 := Int.lt_tmod_of_pos a (show (0 : Int) < 65536 by omega)
  have h2 := Int.tmod_lt_of_pos a (show (0 : Int) < 65536 by omega)
  have h3 := tmod_pick (n := a) (m := 65536) (by omega)
  rw [w64 (by omega) (by omega)]
  rw [Int.tmod_eq_emod_of_nonneg (by omega)]
  split at h3 <;> simp only [Option.some.injEq] <;> omega

theorem sin_f : ∀ (k : Nat), 2 ≤ k → ∀ a : Int, angle_Sin.f k a = some (sin a) := by
  intro k hk a
  have low : ∀ (k : Nat) (n : Int), 0 ≤ n → n < 32768 → angle_Sin.f (k + 1) n = some (sinp n) := by
    intro k n h0 h1
    have hp := p_bd h0 (by omega)
    simp only [angle_Sin.f, norm_f, Option.bind_some]
    rw [show n % 65536 = n by omega, if_neg (by omega), w64 (n := 32768 - n) (by omega) (by omega), w64 (n := n * (32768 - n)) (by omega) (by omega)]
    unfold sinp
    generalize n * (32768 - n) = p at *
    rw [w64 (n := 4 * p) (by omega) (by omega), w64 (n := 5368709120 - 4 * p) (by omega) (by omega), if_neg (by omega), w64 (n := 16 * p) (by omega) (by omega), w64 (n := 16 * p * 65536) (by omega) (by omega), Int.tdiv_eq_ediv_of_nonneg (by omega)]
    have hb := ediv_bd (n := 16 * p * 65536) (d := 5368709120 - 4 * p) (by omega)
    rw [w64 (by omega) (by omega)]
  have h1 := Int.emod_nonneg a (show (65536 : Int) ≠ 0 by omega)
  have h2 := Int.emod_lt_of_pos a (show (0 : Int) < 65536 by omega)
  unfold sin
  by_cases h : a % 65536 ≥ 32768
  · obtain ⟨k, rfl⟩ : ∃ m, k = m + 2 := ⟨k - 2, by omega⟩
    rw [if_pos h]
    simp only [angle_Sin.f, norm_f, Option.bind_some]
    rw [if_pos h, w64 (by omega) (by omega)]
    have e := low k (a % 65536 - 32768) (by omega) (by omega)
    simp only [angle_Sin.f, norm_f, Option.bind_some] at e
    rw [e]
    have hb := sinp_bd (n := a % 65536 - 32768) (by omega) (by omega)
    simp only [Option.bind_some]
    rw [w64 (by omega) (by omega)]
  · obtain ⟨k, rfl⟩ : ∃ m, k = m + 1 := ⟨k - 1, by omega⟩
    rw [if_neg h]
    have e := low k (a % 65536) (by omega) (by omega)
    simp only [angle_Sin.f, norm_f, Option.bind_some] at e ⊢
    rw [show a % 65536 % 65536 = a % 65536 by omega] at e
    exact e
theorem cos_f (k : Nat) (hk : 2 ≤ k) (a : Int) : angle_Cos.f k a = some (cos a) := by
  unfold angle_Cos.f cos
  simp only [norm_f, sin_f k hk, Option.bind_some]
  rw [w64 (by omega) (by omega)]

theorem away_f (n : Int) : angle_away.f (clip n) = some (abs (clip n)) := by
  have := clip_bd n
  unfold angle_away.f abs
  rw [w64 (by omega) (by omega)]
theorem quad_f (k : Nat) {y x q : Int} (h0 : 0 ≤ q) (h1 : q ≤ 16384) : angle_Atan.j0 (k + 1) y x q = some (quad y x q) := by
  simp only [angle_Atan.j0, norm_f, Option.bind_some]
  rw [w64 (n := 32768 - q) (by omega) (by omega), w64 (n := -(32768 - q)) (by omega) (by omega), w64 (n := -q) (by omega) (by omega)]
  unfold quad
  split <;> split <;> rfl
theorem atan_f (k : Nat) (hk : 1 ≤ k) (y x : Int) : angle_Atan.f k y x = some (atan y x) := by
  obtain ⟨k, rfl⟩ : ∃ m, k = m + 1 := ⟨k - 1, by omega⟩
  unfold angle_Atan.f atan
  simp only [clip_f, Option.bind_some, away_f]
  by_cases h : mx (abs (clip x)) (abs (clip y)) = 0
  · rw [if_pos h, if_pos h]
  · rw [if_neg h, if_neg h]
    have h1 := abs_bd x
    have h2 := abs_bd y
    have hu : 0 < mx (abs (clip x)) (abs (clip y)) := by unfold mx at *; omega
    have hv0 : 0 ≤ mn (abs (clip x)) (abs (clip y)) := by unfold mn; omega
    have hv1 : mn (abs (clip x)) (abs (clip y)) ≤ mx (abs (clip x)) (abs (clip y)) := by unfold mx mn; omega
    have hv2 : mn (abs (clip x)) (abs (clip y)) ≤ 2147483647 := by unfold mn; omega
    have hs := slope_bd hv0 hv1 hu
    have hb := first_bd y x h
    rw [w64 (n := mn (abs (clip x)) (abs (clip y)) * 65536) (by omega) (by omega), Int.tdiv_eq_ediv_of_nonneg (by omega)]
    have es : mn (abs (clip x)) (abs (clip y)) * 65536 / mx (abs (clip x)) (abs (clip y)) = slope (mx (abs (clip x)) (abs (clip y))) (mn (abs (clip x)) (abs (clip y))) := rfl
    rw [es]
    generalize slope (mx (abs (clip x)) (abs (clip y))) (mn (abs (clip x)) (abs (clip y))) = z at *
    have hz := arc_in hs.1 hs.2
    rw [w64 (n := z) (by omega) (by omega), w64 (n := 8192 * z) (by omega) (by omega), w64 (n := 8192 * z * 65536) (by omega) (by omega), w64 (n := 2847 * z) (by omega) (by omega), w64 (n := 65536 - z) (by omega) (by omega)]
    have e2 : 2847 * z * (65536 - z) = 2847 * (z * (65536 - z)) := by grind
    rw [w64 (n := 2847 * z * (65536 - z)) (by omega) (by omega), w64 (n := 8192 * z * 65536 + 2847 * z * (65536 - z)) (by omega) (by omega)]
    have ea : (8192 * z * 65536 + 2847 * z * (65536 - z)) / 4294967296 = arc z := rfl
    rw [ea, w64 (n := 16384 - arc z) (by omega) (by omega)]
    by_cases hc : abs (clip y) > abs (clip x)
    · rw [if_pos hc, if_pos hc, quad_f k (by omega) (by omega)]
    · rw [if_neg hc, if_neg hc, quad_f k (by omega) (by omega)]

theorem known_t (k : Nat) (hk : 2 ≤ k) : versallaw4_known.f k = some true := by
  unfold versallaw4_known.f
  simp only [sin_f k hk, cos_f k hk, atan_f k (by omega), Option.bind_some]
  rw [if_pos (by decide +kernel), if_pos (by decide +kernel), show atan 1 1 = 8192 by decide +kernel]; rfl
theorem tmod_bd (n : Int) : -536870912 < n.tmod 536870912 ∧ n.tmod 536870912 < 536870912 :=
  ⟨Int.lt_tmod_of_pos n (by omega), Int.tmod_lt_of_pos n (by omega)⟩

/-- the angle within the first quarter -/
def fst (y x : Int) : Int := if abs y > abs x then 16384 - arc (slope (mx (abs x) (abs y)) (mn (abs x) (abs y))) else arc (slope (mx (abs x) (abs y)) (mn (abs x) (abs y)))
theorem atan_eq {y x : Int} (h1 : -1500000000 < y) (h2 : y < 1500000000) (h3 : -1500000000 < x) (h4 : x < 1500000000) :
    atan y x = if x = 0 ∧ y = 0 then 0 else quad y x (fst y x) := by
  unfold atan fst
  rw [clip_id (n := y) (by omega) (by omega), clip_id (n := x) (by omega) (by omega)]
  by_cases h : x = 0 ∧ y = 0
  · rw [if_pos h, if_pos (by obtain ⟨rfl, rfl⟩ := h; decide)]
  · rw [if_neg h, if_neg (by unfold abs mx; omega)]
theorem abs_neg (n : Int) : abs (-n) = abs n := by unfold abs mx; omega
theorem abs_two (n : Int) : abs (2 * n) = 2 * abs n := by unfold abs mx; omega
theorem fst_neg_y (y x : Int) : fst (-y) x = fst y x := by unfold fst; rw [abs_neg]
theorem fst_neg_x (y x : Int) : fst y (-x) = fst y x := by unfold fst; rw [abs_neg]
theorem fst_two (y x : Int) : fst (2 * y) (2 * x) = fst y x := by
  have e1 : mx (2 * abs x) (2 * abs y) = 2 * mx (abs x) (abs y) := by unfold mx; omega
  have e2 : mn (2 * abs x) (2 * abs y) = 2 * mn (abs x) (abs y) := by unfold mn; omega
  have e3 : ∀ u v, slope (2 * u) (2 * v) = slope u v := by
    intro u v; unfold slope
    rw [Int.mul_assoc, Int.mul_ediv_mul_of_pos _ _ (by omega)]
  unfold fst
  rw [abs_two, abs_two, e1, e2, e3]
  by_cases h : abs y > abs x
  · rw [if_pos h, if_pos (by omega)]
  · rw [if_neg h, if_neg (by omega)]
theorem fst_bd {y x : Int} (h : ¬(x = 0 ∧ y = 0)) : 0 ≤ fst y x ∧ fst y x ≤ 16384 := by
  have h1 : 0 ≤ abs x := by unfold abs mx; omega
  have h2 : 0 ≤ abs y := by unfold abs mx; omega
  have h3 : 0 < mx (abs x) (abs y) := by unfold abs mx; omega
  have hs := slope_bd (u := mx (abs x) (abs y)) (v := mn (abs x) (abs y)) (by unfold mn; omega) (by unfold mx mn; omega) h3
  have ha := arc_bd hs.1 hs.2
  unfold fst
  split <;> omega
theorem slope_nil (u : Int) : slope u 0 = 0 := by unfold slope; simp
theorem arc_nil : arc 0 = 0 := by decide
theorem fst_y0 (x : Int) : fst 0 x = 0 := by
  have e : mn (abs x) (abs 0) = 0 := by unfold abs mx mn; omega
  unfold fst
  rw [if_neg (by unfold abs mx; omega), e, slope_nil, arc_nil]
theorem fst_x0 {y : Int} (h : y ≠ 0) : fst y 0 = 16384 := by
  have e : mn (abs 0) (abs y) = 0 := by unfold abs mx mn; omega
  unfold fst
  rw [if_pos (by unfold abs mx; omega), e, slope_nil, arc_nil]; rfl

theorem sides {y x : Int} (h1 : -536870912 < y) (h2 : y < 536870912) (h3 : -536870912 < x) (h4 : x < 536870912) (h : ¬(x = 0 ∧ y = 0)) :
    (y > 0 → atan y x ≤ 32768) ∧ (y < 0 → ¬(atan y x > 0 ∧ atan y x < 32768)) ∧ (x > 0 → ¬(atan y x > 16384 ∧ atan y x < 49152)) ∧ (x < 0 → 16384 ≤ atan y x ∧ atan y x ≤ 49152) := by
  rw [atan_eq (by omega) (by omega) (by omega) (by omega), if_neg h]
  have hb := fst_bd h
  generalize fst y x = q at *
  unfold quad
  by_cases hx : x < 0
  · by_cases hy : y < 0
    · rw [if_pos hx, if_pos hy]; refine ⟨?_, ?_, ?_, ?_⟩ <;> intro _ <;> omega
    · rw [if_pos hx, if_neg hy]; refine ⟨?_, ?_, ?_, ?_⟩ <;> intro _ <;> omega
  · by_cases hy : y < 0
    · rw [if_neg hx, if_pos hy]; refine ⟨?_, ?_, ?_, ?_⟩ <;> intro _ <;> omega
    · rw [if_neg hx, if_neg hy]; refine ⟨?_, ?_, ?_, ?_⟩ <;> intro _ <;> omega

theorem mirror_y {y x : Int} (h1 : -536870912 < y) (h2 : y < 536870912) (h3 : -536870912 < x) (h4 : x < 536870912) (h : ¬(x = 0 ∧ y = 0)) : atan (-y) x = (-atan y x) % 65536 := by
  rw [atan_eq (by omega) (by omega) (by omega) (by omega), atan_eq (by omega) (by omega) (by omega) (by omega), if_neg h, if_neg (by omega), fst_neg_y]
  have hb := fst_bd h
  have h0 : y = 0 → fst y x = 0 := fun e => by rw [e, fst_y0]
  generalize fst y x = q at *
  unfold quad
  by_cases hx : x < 0
  · simp only [if_pos hx]
    by_cases hy : y < 0
    · rw [if_pos hy, if_neg (by omega)]; omega
    · rw [if_neg hy]
      by_cases hy0 : y = 0
      · have := h0 hy0; rw [if_neg (by omega)]; omega
      · rw [if_pos (by omega)]
  · simp only [if_neg hx]
    by_cases hy : y < 0
    · rw [if_pos hy, if_neg (by omega)]; omega
    · rw [if_neg hy]
      by_cases hy0 : y = 0
      · have := h0 hy0; rw [if_neg (by omega)]; omega
      · rw [if_pos (by omega)]

theorem mirror_x {y x : Int} (h1 : -536870912 < y) (h2 : y < 536870912) (h3 : -536870912 < x) (h4 : x < 536870912) (h : y ≠ 0) : atan y (-x) = (32768 - atan y x) % 65536 := by
  rw [atan_eq (by omega) (by omega) (by omega) (by omega), atan_eq (by omega) (by omega) (by omega) (by omega), if_neg (by omega), if_neg (by omega), fst_neg_x]
  have hb := fst_bd (y := y) (x := x) (by omega)
  have h0 : x = 0 → fst y x = 16384 := fun e => by rw [e, fst_x0 h]
  generalize fst y x = q at *
  unfold quad
  by_cases hx : x < 0
  · simp only [if_pos hx]
    rw [if_neg (by omega)]
    by_cases hy : y < 0
    · rw [if_pos hy, if_pos hy]; omega
    · rw [if_neg hy, if_neg hy]; omega
  · simp only [if_neg hx]
    by_cases hx0 : x = 0
    · have := h0 hx0
      rw [if_neg (by omega)]
      by_cases hy : y < 0
      · rw [if_pos hy]; omega
      · rw [if_neg hy]; omega
    · rw [if_pos (by omega)]
      by_cases hy : y < 0
      · rw [if_pos hy, if_pos hy]; omega
      · rw [if_neg hy, if_neg hy]; omega

theorem double {y x : Int} (h1 : -536870912 < y) (h2 : y < 536870912) (h3 : -536870912 < x) (h4 : x < 536870912) : atan (2 * y) (2 * x) = atan y x := by
  rw [atan_eq (by omega) (by omega) (by omega) (by omega), atan_eq (by omega) (by omega) (by omega) (by omega), fst_two]
  by_cases h : x = 0 ∧ y = 0
  · rw [if_pos h, if_pos (by omega)]
  · rw [if_neg h, if_neg (by omega)]
    unfold quad
    by_cases hx : x < 0 <;> by_cases hy : y < 0 <;> simp [hx, hy, show (2 * x < 0) ↔ (x < 0) by omega, show (2 * y < 0) ↔ (y < 0) by omega]

theorem AngleSides : versallaw4_AngleSides.Pure := by
  intro a0 a1 w0 w1
  obtain ⟨v0, h0, _, _⟩ := num_f w0
  obtain ⟨v1, h1, _, _⟩ := num_f w1
  refine ⟨6, ?_⟩
  unfold versallaw4_AngleSides.f
  simp only [h0, h1, known_t 6 (by omega), atan_f 6 (by omega), Option.bind_some, if_true]
  have b0 := tmod_bd v0; have b1 := tmod_bd v1
  generalize v0.tmod 536870912 = y at *
  generalize v1.tmod 536870912 = x at *
  have hb := atan_bd y x
  rw [if_neg (by omega), decide_eq_false (by omega)]
  have two : ∀ (z : Int), -536870912 < z → z < 536870912 → wrap64 (2 * z) = 2 * z ∧ wrap64 (-z) = -z := fun z a b => ⟨w64 (by omega) (by omega), w64 (by omega) (by omega)⟩
  have D := double b0.1 b0.2 b1.1 b1.2
  simp only [versallaw4_AngleSides.j0]
  rw [if_neg (by decide)]
  by_cases hz : x = 0 ∧ y = 0
  · obtain ⟨rfl, rfl⟩ := hz
    rw [if_pos rfl]
    simp only [versallaw4_AngleSides.j1]
    decide +kernel
  · have hj : (if x = 0 then versallaw4_AngleSides.j1 5 y x (atan y x) (y == 0) else versallaw4_AngleSides.j1 5 y x (atan y x) false) = versallaw4_AngleSides.j1 5 y x (atan y x) false := by
      by_cases hx : x = 0
      · rw [if_pos hx, beq_eq_false_iff_ne.mpr (fun e => hz ⟨hx, e⟩)]
      · rw [if_neg hx]
    rw [hj]
    have H : versallaw4_AngleSides.j2 4 y x (atan y x) false = some true := by
      simp only [versallaw4_AngleSides.j2, norm_f, atan_f 3 (by omega), Option.bind_some]
      rw [if_neg (by decide), (two y b0.1 b0.2).2, (two x b1.1 b1.2).2, (two y b0.1 b0.2).1, (two x b1.1 b1.2).1, w64 (n := -atan y x) (by omega) (by omega), w64 (n := 32768 - atan y x) (by omega) (by omega)]
      rw [if_pos (mirror_y b0.1 b0.2 b1.1 b1.2 hz), D]
      by_cases hy : y = 0
      · rw [if_pos hy]; simp
      · rw [if_neg hy, if_pos (mirror_x b0.1 b0.2 b1.1 b1.2 hy)]; simp
    have S := sides b0.1 b0.2 b1.1 b1.2 hz
    generalize atan y x = a at *
    clear hj D two h0 h1 w0 w1
    obtain ⟨s1, s2, s3, s4⟩ := S
    have F : decide (a > 49152) = true → x < 0 → False := by
      intro h1 h2
      have := s4 h2
      have := of_decide_eq_true h1
      omega
    have G : x < 0 → decide (a > 49152) = false := fun h => by
      cases e : decide (a > 49152)
      · rfl
      · exact (F e h).elim
    have T : ∀ b, b = false → versallaw4_AngleSides.j2 4 y x a b = some true := fun b e => by rw [e]; exact H
    simp only [versallaw4_AngleSides.j1]
    rw [if_neg (by decide), if_neg (show ¬ a < 0 by omega)]
    clear H F hz
    rcases Int.lt_trichotomy y 0 with hy | hy | hy <;> rcases Int.lt_trichotomy x 0 with hx | hx | hx
    all_goals simp (disch := omega) only [if_pos, if_neg]
    all_goals first | exact T _ rfl | exact T _ (decide_eq_false (by omega)) | skip
    all_goals (by_cases ha : a > 0 <;> (try simp (disch := omega) only [if_pos, if_neg]))
    all_goals first | exact T _ rfl | exact T _ (decide_eq_false (by omega)) | skip
    all_goals (by_cases ha2 : a > 16384 <;> (try simp (disch := omega) only [if_pos, if_neg]))
    all_goals first | exact T _ rfl | exact T _ (decide_eq_false (by omega))
end Go.Proofs.Ytaohkdieigbccaa.Pure
