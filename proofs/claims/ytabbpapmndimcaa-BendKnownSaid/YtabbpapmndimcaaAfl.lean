/- Laws of affines in plain arithmetic: One, shifts, a quarter, what is about a place. No conditions of ours. -/
import Derived.Test.YtabbpapmndimcaaAfm
namespace Go.Proofs.Ytabbpapmndimcaa.Afm
open Go.RowKit Go.Proofs.YtabbpapmndimcaaW.PrintWords Go.Proofs.Ytabbpapmndimcaa.M

theorem clip0 : clip 0 = 0 := by decide
theorem clip1 : clip 65536 = 65536 := by decide
theorem mul_one_l (x : Int) : mul 65536 x = clip x := by
  unfold mul
  rw [clip1, show (65536 * clip x + 32768) / 65536 = clip x by omega, clip_clip]
theorem mul_one_r (x : Int) : mul x 65536 = clip x := by rw [mul_comm', mul_one_l]
theorem mul_zero_l (x : Int) : mul 0 x = 0 := by unfold mul; rw [clip0, Int.zero_mul]; decide
theorem mul_zero_r (x : Int) : mul x 0 = 0 := by rw [mul_comm', mul_zero_l]
theorem mul_whole {a n : Int} (ha : clip a = a) (hn : clip (n * 65536) = n * 65536) : mul a (n * 65536) = clip (a * n) := by
  unfold mul
  rw [ha, hn, show a * (n * 65536) = a * n * 65536 from (Int.mul_assoc _ _ _).symm]
  generalize a * n = p
  rw [show (p * 65536 + 32768) / 65536 = p by omega]
def one : A6 := (65536, 0, 0, 65536, 0, 0)
theorem apply_one {x y : Int} (hx : clip x = x) (hy : clip y = y) : apply one x y = (x, y) := by
  unfold apply one; dsimp only; rw [mul_one_l, mul_one_l, mul_zero_l, mul_zero_l, clip0, hx, hy]
  simp only [Int.add_zero, Int.zero_add, hx, hy]
theorem two_1 (a c : Int) (ha : clip a = a) : two a 65536 c 0 = a := by unfold two; rw [mul_one_r, mul_zero_r, ha, Int.add_zero, ha]
theorem two_2 (a c : Int) (hc : clip c = c) : two a 0 c 65536 = c := by unfold two; rw [mul_one_r, mul_zero_r, hc, Int.zero_add, hc]
theorem two_3 (a c : Int) (ha : clip a = a) : two 65536 a 0 c = a := by unfold two; rw [mul_one_l, mul_zero_l, ha, Int.add_zero, ha]
theorem two_4 (a c : Int) (hc : clip c = c) : two 0 a 65536 c = c := by unfold two; rw [mul_one_l, mul_zero_l, hc, Int.zero_add, hc]
theorem compose_one {a b c d e f : Int} (ha : clip a = a) (hb : clip b = b) (hc : clip c = c) (hd : clip d = d) (he : clip e = e) (hf : clip f = f) : compose (a, b, c, d, e, f) one = (a, b, c, d, e, f) := by
  unfold compose one apply; dsimp only
  rw [two_1 a c ha, two_1 b d hb, two_2 a c hc, two_2 b d hd]
  simp only [mul_zero_r, Int.zero_add, he, hf]
theorem one_compose {a b c d e f : Int} (ha : clip a = a) (hb : clip b = b) (hc : clip c = c) (hd : clip d = d) (he : clip e = e) (hf : clip f = f) : compose one (a, b, c, d, e, f) = (a, b, c, d, e, f) := by
  unfold compose; rw [apply_one he hf]; unfold one; dsimp only
  rw [two_3 a b ha, two_4 a b hb, two_3 c d hc, two_4 c d hd]
theorem shift_shift {x y u v : Int} (hx : -268435456 < x ∧ x < 268435456) (hy : -268435456 < y ∧ y < 268435456) (hu : -268435456 < u ∧ u < 268435456) (hv : -268435456 < v ∧ v < 268435456) : compose (shift x y) (shift u v) = shift (x + u) (y + v) := by
  unfold compose shift apply; dsimp only
  rw [two_1 _ _ clip1, two_1 _ _ clip0, two_2 _ _ clip0, two_2 _ _ clip1]
  simp only [mul_one_l, mul_zero_l, clip_clip, Int.add_zero, Int.zero_add]
  rw [clip_id (n := x) (by omega) (by omega), clip_id (n := y) (by omega) (by omega), clip_id (n := u) (by omega) (by omega), clip_id (n := v) (by omega) (by omega), Int.add_comm u x, Int.add_comm v y]
theorem rotate_quarter : rotate 16384 = (0, 65536, -65536, 0, 0, 0) := by decide +kernel
theorem mul_m1_l (x : Int) : mul (-65536) x = -clip x := by
  unfold mul
  rw [show clip (-65536) = -65536 by decide, show (-65536 * clip x + 32768) / 65536 = -clip x by omega, clip_neg_clip]
theorem apply_quarter {x y : Int} (hx : clip x = x) (hy : clip y = y) : apply (0, 65536, -65536, 0, 0, 0) x y = (-y, x) := by
  unfold apply; dsimp only
  have h := clip_neg_clip y
  rw [hy] at h
  simp only [mul_one_l, mul_zero_l, mul_m1_l, clip0, Int.add_zero, Int.zero_add, hx, hy, h]
theorem inverse_shift {u v : Int} (hu : clip u = u) (hv : clip v = v) : turns (shift u v) = true ∧ inverse (shift u v) = shift (-u) (-v) := by
  have hd : det (shift u v) = 65536 := by unfold det shift; dsimp only; decide
  unfold turns inverse
  rw [hd]
  refine ⟨by decide, ?_⟩
  rw [if_neg (by decide)]
  unfold inv
  rw [hd]
  unfold shift; dsimp only
  rw [show div 65536 65536 = 65536 by decide, show div (-clip 0) 65536 = 0 by decide, hu, hv]
  have h1 : two 65536 u 0 v = u := two_3 _ _ hu
  have h2 : two 0 u 65536 v = v := two_4 _ _ hv
  rw [h1, h2]
  have h3 := clip_neg_clip u
  have h4 := clip_neg_clip v
  rw [hu] at h3; rw [hv] at h4
  rw [h3, h4]
/-- what turns about a place of whole numbers, near enough, leaves it. -/
theorem around_whole {a b c d X Y : Int} (ha : -300000 ≤ a ∧ a ≤ 300000) (hb : -300000 ≤ b ∧ b ≤ 300000) (hc : -300000 ≤ c ∧ c ≤ 300000) (hd : -300000 ≤ d ∧ d ≤ 300000) (hX : -1000 ≤ X ∧ X ≤ 1000) (hY : -1000 ≤ Y ∧ Y ≤ 1000) :
    around (a, b, c, d, 0, 0) (X * 65536) (Y * 65536) = (a, b, c, d, X * 65536 - a * X - c * Y, Y * 65536 - b * X - d * Y) ∧ apply (a, b, c, d, X * 65536 - a * X - c * Y, Y * 65536 - b * X - d * Y) (X * 65536) (Y * 65536) = (X * 65536, Y * 65536) := by
  have pb : ∀ {p q : Int}, -300000 ≤ p ∧ p ≤ 300000 → -1000 ≤ q ∧ q ≤ 1000 → -300000000 ≤ p * q ∧ p * q ≤ 300000000 := by
    intro p q hp hq
    rcases Int.le_total 0 q with h | h
    · have h1 := Int.mul_le_mul_of_nonneg_right hp.1 h
      have h2 := Int.mul_le_mul_of_nonneg_right hp.2 h
      omega
    · have h1 := Int.mul_le_mul_of_nonpos_right hp.1 h
      have h2 := Int.mul_le_mul_of_nonpos_right hp.2 h
      omega
  have h1 := pb ha hX
  have h2 := pb hb hX
  have h3 := pb hc hY
  have h4 := pb hd hY
  have ka : clip a = a := clip_id (by omega) (by omega)
  have kb : clip b = b := clip_id (by omega) (by omega)
  have kc : clip c = c := clip_id (by omega) (by omega)
  have kd : clip d = d := clip_id (by omega) (by omega)
  have kX : clip (X * 65536) = X * 65536 := clip_id (by omega) (by omega)
  have kY : clip (Y * 65536) = Y * 65536 := clip_id (by omega) (by omega)
  have kX' : clip (-(X * 65536)) = -X * 65536 := by rw [clip_neg, kX]; omega
  have kY' : clip (-(Y * 65536)) = -Y * 65536 := by rw [clip_neg, kY]; omega
  have nX : clip (-X * 65536) = -X * 65536 := clip_id (by omega) (by omega)
  have nY : clip (-Y * 65536) = -Y * 65536 := clip_id (by omega) (by omega)
  have m1 : mul a (-X * 65536) = -(a * X) := by rw [mul_whole ka nX, Int.mul_neg, clip_id (by omega) (by omega)]
  have m2 : mul b (-X * 65536) = -(b * X) := by rw [mul_whole kb nX, Int.mul_neg, clip_id (by omega) (by omega)]
  have m3 : mul c (-Y * 65536) = -(c * Y) := by rw [mul_whole kc nY, Int.mul_neg, clip_id (by omega) (by omega)]
  have m4 : mul d (-Y * 65536) = -(d * Y) := by rw [mul_whole kd nY, Int.mul_neg, clip_id (by omega) (by omega)]
  have n1 : mul a (X * 65536) = a * X := by rw [mul_whole ka kX, clip_id (by omega) (by omega)]
  have n2 : mul b (X * 65536) = b * X := by rw [mul_whole kb kX, clip_id (by omega) (by omega)]
  have n3 : mul c (Y * 65536) = c * Y := by rw [mul_whole kc kY, clip_id (by omega) (by omega)]
  have n4 : mul d (Y * 65536) = d * Y := by rw [mul_whole kd kY, clip_id (by omega) (by omega)]
  have e1 : clip (-(a * X) + -(c * Y) + 0) = -(a * X) + -(c * Y) := by rw [Int.add_zero, clip_id (by omega) (by omega)]
  have e2 : clip (-(b * X) + -(d * Y) + 0) = -(b * X) + -(d * Y) := by rw [Int.add_zero, clip_id (by omega) (by omega)]
  constructor
  · unfold around
    have s1 : compose (a, b, c, d, 0, 0) (shift (-clip (X * 65536)) (-clip (Y * 65536))) = (a, b, c, d, -(a * X) + -(c * Y), -(b * X) + -(d * Y)) := by
      unfold compose shift apply; dsimp only
      rw [two_1 a c ka, two_1 b d kb, two_2 a c kc, two_2 b d kd, kX, kY, kX', kY', m1, m2, m3, m4, clip0, e1, e2]
    rw [s1]
    unfold compose shift apply; dsimp only
    rw [two_3 a b ka, two_4 a b kb, two_3 c d kc, two_4 c d kd]
    simp only [mul_one_l, mul_zero_l, Int.add_zero, Int.zero_add, kX, kY]
    rw [clip_id (n := -(a * X) + -(c * Y)) (by omega) (by omega), clip_id (n := -(b * X) + -(d * Y)) (by omega) (by omega), clip_id (n := -(a * X) + -(c * Y) + X * 65536) (by omega) (by omega), clip_id (n := -(b * X) + -(d * Y) + Y * 65536) (by omega) (by omega),
      show -(a * X) + -(c * Y) + X * 65536 = X * 65536 - a * X - c * Y by omega, show -(b * X) + -(d * Y) + Y * 65536 = Y * 65536 - b * X - d * Y by omega]
  · unfold apply; dsimp only
    rw [n1, n2, n3, n4, clip_id (n := X * 65536 - a * X - c * Y) (by omega) (by omega), clip_id (n := Y * 65536 - b * X - d * Y) (by omega) (by omega),
      show a * X + c * Y + (X * 65536 - a * X - c * Y) = X * 65536 by omega, show b * X + d * Y + (Y * 65536 - b * X - d * Y) = Y * 65536 by omega, kX, kY]
theorem cos_near {a : Int} (h : -6700 ≤ a ∧ a ≤ 6700) : 30000 ≤ cos a := by
  have key : ∀ p : Int, 200000000 ≤ p → p ≤ 268435456 → 30000 ≤ (16 * p * 65536) / (5368709120 - 4 * p) := by
    intro p h1 h2
    rw [Int.le_ediv_iff_mul_le (by omega)]
    omega
  have sq : 0 ≤ a * a ∧ a * a ≤ 44890000 := by
    rcases Int.le_total 0 a with h0 | h0
    · have h1 := Int.mul_le_mul_of_nonneg_right h.2 h0
      have h2 := Int.mul_nonneg h0 h0
      omega
    · have h1 := Int.mul_le_mul_of_nonpos_right h.1 h0
      have h2 := Int.mul_nonneg_of_nonpos_of_nonpos h0 h0
      omega
  have e : (a + 16384) * (32768 - (a + 16384)) = 268435456 - a * a := by
    rw [show 32768 - (a + 16384) = 16384 - a by omega, Int.mul_sub, Int.add_mul, Int.add_mul]; omega
  unfold cos sin
  rw [show (a % 65536 + 16384) % 65536 = a + 16384 by omega, if_neg (by omega)]
  unfold sinp
  rw [e]
  exact key _ (by omega) (by omega)
theorem tan_near {a : Int} (h : -6700 ≤ a ∧ a ≤ 6700) : -150000 ≤ tan a ∧ tan a ≤ 150000 := by
  have h1 := cos_near h
  have h2 := sin_bd (a % 65536 + 16384)
  have h3 := sin_bd a
  have h4 : cos a ≤ 65536 := h2.2
  unfold tan div
  rw [clip_id (n := cos a) (by omega) (by omega), clip_id (n := sin a) (by omega) (by omega), if_neg (by omega)]
  have hs := (fl_spec (a := sin a * 65536) (b := cos a) (by omega)).1 (by omega)
  generalize fl (sin a * 65536) (cos a) = q at hs ⊢
  have k1 : q ≤ 150000 := by
    refine Int.not_lt.mp fun hq => ?_
    have h5 := Int.mul_le_mul (show (150000 : Int) ≤ q by omega) h1 (by omega) (by omega)
    omega
  have k2 : -150000 ≤ q := by
    refine Int.not_lt.mp fun hq => ?_
    have h5 := Int.mul_le_mul (show (149999 : Int) ≤ -(q + 1) + 0 by omega) h1 (by omega) (by omega)
    have h6 : (-(q + 1) + 0) * cos a = -(q * cos a + cos a) := by rw [Int.add_zero, Int.neg_mul, Int.add_mul, Int.one_mul]
    omega
  rw [clip_id (by omega) (by omega)]
  exact ⟨k2, k1⟩
end Go.Proofs.Ytabbpapmndimcaa.Afm
