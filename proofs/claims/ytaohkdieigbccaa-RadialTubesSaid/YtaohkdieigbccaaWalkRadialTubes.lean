/- RadialTubes returns true at every input. -/
import Derived.Test.YtaohkdieigbccaaRadC
namespace Go.Proofs.Ytaohkdieigbccaa.WalkRadialTubes
open Go.RowKit Go.Proofs.YtaohkdieigbccaaW.PrintWords Go.Proofs.YtaohkdieigbccaaW.PrintLast Go.Proofs.YtaohkdieigbccaaW.PrintMore Go.Proofs.Ytaohkdieigbccaa.PRadialTells Go.Proofs.Ytaohkdieigbccaa.M Go.Proofs.Ytaohkdieigbccaa.RadQ Go.Proofs.Ytaohkdieigbccaa.RadT Go.Proofs.Ytaohkdieigbccaa.RadC
attribute [local go_sem] max2_int min2_int max_two min_two max_three min_three max_four min_four
set_option linter.unusedVariables false
set_option linter.unusedSimpArgs false

theorem near_w {n lo : Int} (h0 : lo ≤ n) (h1 : n ≤ 8191) (h2 : -8191 ≤ n) : near (65536 * n) lo = n := by
  unfold near
  rw [clip_id (by omega) (by omega)]
  unfold mx mn; omega
theorem ratio_pos {n m : Int} (h1 : -70368744177664 ≤ n) (h2 : n ≤ 70368744177664) (m1 : 0 < m) (m2 : m ≤ 70368744177664) (g1 : -2147483647 * m ≤ n * 65536) (g2 : n * 65536 < 2147483648 * m) : ratio n m = n * 65536 / m := by
  have a1 : -2147483647 ≤ n * 65536 / m := Int.le_ediv_of_mul_le m1 g1
  have a2 : n * 65536 / m < 2147483648 := Int.ediv_lt_of_lt_mul m1 g2
  unfold ratio
  rw [wide_id (n := n) h1 h2, wide_id (n := m) (by omega) (by omega), if_neg (by omega)]
  unfold fl
  rw [if_pos m1, clip_id (by omega) (by omega)]
theorem ratio_mono {a b m : Int} (m1 : 0 < m) (h : a ≤ b) : ratio a m ≤ ratio b m := by
  have hm : 0 < wide m := by unfold wide mx mn; omega
  have hw : wide a ≤ wide b := by unfold wide mx mn; omega
  unfold ratio
  rw [if_neg (by omega), if_neg (by omega)]
  exact clip_mono (fl_mono hm (by omega))
theorem quadr (d x y r : Int) : x * d * (x * d) - d * d * (x * x + y * y - r * r) = d * d * (r * r - y * y) := by grind
/-- beyond the width there is nothing -/
theorem tube_out {d r x y : Int} (d1 : 1 ≤ d) (hy : r * r < y * y) : rad (d * d) (x * d) (x * x + y * y - r * r) r 0 = (0, false) := by
  have hd : 1 * 1 ≤ d * d := sq_mono (by omega) d1
  have h : d * d * (r * r - y * y) < 0 := Int.mul_neg_of_pos_of_neg (by omega) (by omega)
  unfold rad
  rw [if_neg (by omega), quadr, if_pos h]
/-- within it: how far along -/
theorem tube_in {d r x y : Int} (d1 : 1 ≤ d) (d2 : d ≤ 3000) (r1 : 0 ≤ r) (r2 : r ≤ 499) (x1 : -3001 ≤ x) (x2 : x ≤ 3001) (hy : y * y ≤ r * r) :
    rad (d * d) (x * d) (x * x + y * y - r * r) r 0 = ((x * d + root (d * d * (r * r - y * y))) * 65536 / (d * d), true) ∧ -230000000 ≤ (x * d + root (d * d * (r * r - y * y))) * 65536 / (d * d) ∧ (x * d + root (d * d * (r * r - y * y))) * 65536 / (d * d) ≤ 230000000 := by
  have hd : 1 * 1 ≤ d * d := sq_mono (by omega) d1
  have hd2 := mul_bd (a := d) (b := d) (A := 3000) (B := 3000) (by omega) (by omega) (by omega) (by omega)
  have hdd : d * 1 ≤ d * d := Int.mul_le_mul_of_nonneg_left d1 (by omega)
  have hr := mul_bd (a := r) (b := r) (A := 499) (B := 499) (by omega) (by omega) (by omega) (by omega)
  have hy0 := sq_pos y
  have hq := mul_bd (a := d * d) (b := r * r - y * y) (A := 9000000) (B := 249001) (by omega) (by omega) (by omega) (by omega)
  have hq0 : 0 ≤ d * d * (r * r - y * y) := Int.mul_nonneg (by omega) (by omega)
  obtain ⟨q1, q2, q3⟩ := root_spec hq0 (by omega)
  have hR : root (d * d * (r * r - y * y)) ≤ d * 499 := by
    have : root (d * d * (r * r - y * y)) < d * 499 + 1 := by
      apply sq_lt (by omega)
      have e : (d * 499 + 1) * (d * 499 + 1) = 249001 * (d * d) + 998 * d + 1 := by grind
      have : d * d * (r * r - y * y) ≤ d * d * 249001 := Int.mul_le_mul_of_nonneg_left (by omega) (by omega)
      omega
    omega
  have hx := mul_bd (a := x) (b := d) (A := 3001) (B := 3000) (by omega) (by omega) (by omega) (by omega)
  have hx1 : x * d ≤ 3001 * d := Int.mul_le_mul_of_nonneg_right x2 (by omega)
  have hx2 : -3001 * d ≤ x * d := Int.mul_le_mul_of_nonneg_right x1 (by omega)
  unfold rad
  rw [if_neg (by omega), quadr, if_neg (by omega)]
  generalize root (d * d * (r * r - y * y)) = RT at *
  have eS : ratio (x * d + RT) (d * d) = (x * d + RT) * 65536 / (d * d) := ratio_pos (by omega) (by omega) (by omega) (by omega) (by omega) (by omega)
  have hm : ratio (x * d - RT) (d * d) ≤ ratio (x * d + RT) (d * d) := ratio_mono (by omega) (by omega)
  have b1 : -230000000 ≤ (x * d + RT) * 65536 / (d * d) := Int.le_ediv_of_mul_le (by omega) (by omega)
  have b2 : (x * d + RT) * 65536 / (d * d) < 230000001 := Int.ediv_lt_of_lt_mul (by omega) (by omega)
  rw [eS] at hm ⊢
  generalize ratio (x * d - RT) (d * d) = T at *
  generalize (x * d + RT) * 65536 / (d * d) = S at *
  rw [show mx S T = S by unfold mx; omega, Int.mul_zero, if_pos (by omega)]
  exact ⟨rfl, b1, by omega⟩
theorem le_of_sq {a b : Int} (hb : 0 ≤ b) (h : a * a ≤ b * b) : a ≤ b := by
  have e : (b + 1) * (b + 1) = b * b + 2 * b + 1 := by grind
  have := sq_lt (a := a) (b := b + 1) (by omega) (by omega)
  omega
/-- a step along the middle -/
theorem tube_step {d N : Int} (d1 : 1 ≤ d) : (N) * 65536 / (d * d) ≤ (N + d) * 65536 / (d * d) ∧ (N + d) * 65536 / (d * d) - N * 65536 / (d * d) ≤ 65536 / d + 2 := by
  have hd : 1 * 1 ≤ d * d := sq_mono (by omega) d1
  have e : d * 65536 / (d * d) = 65536 / d := Int.mul_ediv_mul_of_pos _ _ (by omega)
  constructor
  · exact Int.ediv_le_ediv (by omega) (by omega)
  · have a1 := Int.ediv_mul_le (N * 65536) (show d * d ≠ 0 by omega)
    have a2 := Int.lt_ediv_add_one_mul_self (N * 65536) (show 0 < d * d by omega)
    have a4 := Int.lt_ediv_add_one_mul_self (d * 65536) (show 0 < d * d by omega)
    have a5 : (N + d) * 65536 / (d * d) < N * 65536 / (d * d) + d * 65536 / (d * d) + 2 := by
      apply Int.ediv_lt_of_lt_mul (by omega)
      have : (N * 65536 / (d * d) + d * 65536 / (d * d) + 2) * (d * d) = (N * 65536 / (d * d) + 1) * (d * d) + (d * 65536 / (d * d) + 1) * (d * d) := by grind
      omega
    omega

set_option maxHeartbeats 4000000 in
set_option maxRecDepth 100000 in
theorem tubes_up_out (a0 a1 a2 a3 p0 p2 p3 d r x y : Int) (w : World)
    (K0 : ∀ w, Calls Try.prog 22 #[.int .i64 a0, .int .i64 3000] w fun e w' => e = .returned (.int .i64 p0) ∧ Drawn0 w w')
    (K1 : ∀ w, Calls Try.prog 22 #[.int .i64 a1, .int .i64 500] w fun e w' => e = .returned (.int .i64 r) ∧ Drawn0 w w')
    (K2 : ∀ w, Calls Try.prog 22 #[.int .i64 a2, .int .i64 6001] w fun e w' => e = .returned (.int .i64 p2) ∧ Drawn0 w w')
    (K3 : ∀ w, Calls Try.prog 22 #[.int .i64 a3, .int .i64 1401] w fun e w' => e = .returned (.int .i64 p3) ∧ Drawn0 w w')
    (E0 : 1 + p0 = d) (E2 : p2 - 3000 = x) (E3 : p3 - 700 = y)
    (B0 : 0 ≤ p0 ∧ p0 ≤ 2999) (B2 : 0 ≤ p2 ∧ p2 ≤ 6000) (B3 : 0 ≤ p3 ∧ p3 ≤ 1400)
    (b0 : 1 ≤ d ∧ d ≤ 3000) (b1 : 0 ≤ r ∧ r ≤ 499) (b2 : -3000 ≤ x ∧ x ≤ 3000) (b3 : -700 ≤ y ∧ y ≤ 700)
    (hs : 0 ≤ y) (T1 : ∀ w, Ret 30 #[.int .i64 0, .int .i64 0, .int .i64 (65536 * r), .int .i64 (65536 * d), .int .i64 0, .int .i64 (65536 * r), .int .i64 (65536 * x), .int .i64 (65536 * y)] w (.tuple #[.int .i64 0, .bool false])) (ho : r < y) :
    Ret 13 #[.int .i64 a0, .int .i64 a1, .int .i64 a2, .int .i64 a3] w (.bool true) := by
  have HB := Aside0.mk (Below.refl w.heap.size w)
  have W : ∀ k : Int, -100000 ≤ k → k ≤ 100000 → ∀ w, Ret 31 #[.int .i64 k] w (.int .i64 (65536 * k)) := fun k h1 h2 w => c31 k _ w (by rw [w64 (by omega) (by omega)]; omega)
  go_enter Try.func13, Try.ntmps13
  go_wp2_with (first | (go_at_call 22; (with_reducible refine (K0 _).mono ?_); rintro e w1 ⟨rfl, ⟨nd, rfl⟩⟩) | (go_at_call 22; (with_reducible refine (K1 _).mono ?_); rintro e w1 ⟨rfl, ⟨nd, rfl⟩⟩) | (go_at_call 22; (with_reducible refine (K2 _).mono ?_); rintro e w1 ⟨rfl, ⟨nd, rfl⟩⟩) | (go_at_call 22; (with_reducible refine (K3 _).mono ?_); rintro e w1 ⟨rfl, ⟨nd, rfl⟩⟩) | (go_at_call 31; (with_reducible refine (W d (by omega) (by omega) _).mono ?_); rintro e w1 ⟨rfl, hb⟩; have n0_ := Aside0.mk (below_step (w := w) (by repeat (first | (with_reducible first | exact HB.out | apply below_alloc | apply pw_below_drewN | apply below_drew1 | (refine below_set ?_ (by omega))) | exact HB.out)) hb); clear HB; have HB := n0_; clear n0_ hb) | (go_at_call 31; (with_reducible refine (W r (by omega) (by omega) _).mono ?_); rintro e w1 ⟨rfl, hb⟩; have n0_ := Aside0.mk (below_step (w := w) (by repeat (first | (with_reducible first | exact HB.out | apply below_alloc | apply pw_below_drewN | apply below_drew1 | (refine below_set ?_ (by omega))) | exact HB.out)) hb); clear HB; have HB := n0_; clear n0_ hb) | (go_at_call 31; (with_reducible refine (W x (by omega) (by omega) _).mono ?_); rintro e w1 ⟨rfl, hb⟩; have n0_ := Aside0.mk (below_step (w := w) (by repeat (first | (with_reducible first | exact HB.out | apply below_alloc | apply pw_below_drewN | apply below_drew1 | (refine below_set ?_ (by omega))) | exact HB.out)) hb); clear HB; have HB := n0_; clear n0_ hb) | (go_at_call 31; (with_reducible refine (W y (by omega) (by omega) _).mono ?_); rintro e w1 ⟨rfl, hb⟩; have n0_ := Aside0.mk (below_step (w := w) (by repeat (first | (with_reducible first | exact HB.out | apply below_alloc | apply pw_below_drewN | apply below_drew1 | (refine below_set ?_ (by omega))) | exact HB.out)) hb); clear HB; have HB := n0_; clear n0_ hb) | (go_at_call 31; (with_reducible refine (W (x + 1) (by omega) (by omega) _).mono ?_); rintro e w1 ⟨rfl, hb⟩; have n0_ := Aside0.mk (below_step (w := w) (by repeat (first | (with_reducible first | exact HB.out | apply below_alloc | apply pw_below_drewN | apply below_drew1 | (refine below_set ?_ (by omega))) | exact HB.out)) hb); clear HB; have HB := n0_; clear n0_ hb) | (go_at_call 31; (with_reducible refine (W (-y) (by omega) (by omega) _).mono ?_); rintro e w1 ⟨rfl, hb⟩; have n0_ := Aside0.mk (below_step (w := w) (by repeat (first | (with_reducible first | exact HB.out | apply below_alloc | apply pw_below_drewN | apply below_drew1 | (refine below_set ?_ (by omega))) | exact HB.out)) hb); clear HB; have HB := n0_; clear n0_ hb) | (go_at_call 30; (with_reducible refine (T1 _).mono ?_); rintro e w1 ⟨rfl, hb⟩; have n0_ := Aside0.mk (below_step (w := w) (by repeat (first | (with_reducible first | exact HB.out | apply below_alloc | apply pw_below_drewN | apply below_drew1 | (refine below_set ?_ (by omega))) | exact HB.out)) hb); clear HB; have HB := n0_; clear n0_ hb) | (go_at_call 32; (with_reducible refine (c32 _).mono ?_); rintro e w1 ⟨rfl, hb⟩; have n0_ := Aside0.mk (below_step (w := w) (by repeat (first | (with_reducible first | exact HB.out | apply below_alloc | apply pw_below_drewN | apply below_drew1 | (refine below_set ?_ (by omega))) | exact HB.out)) hb); clear HB; have HB := n0_; clear n0_ hb))
  go_ret
  exact ⟨rfl, HB.out⟩
set_option maxHeartbeats 4000000 in
set_option maxRecDepth 100000 in
theorem tubes_up_in (a0 a1 a2 a3 p0 p2 p3 d r x y t u g : Int) (w : World)
    (K0 : ∀ w, Calls Try.prog 22 #[.int .i64 a0, .int .i64 3000] w fun e w' => e = .returned (.int .i64 p0) ∧ Drawn0 w w')
    (K1 : ∀ w, Calls Try.prog 22 #[.int .i64 a1, .int .i64 500] w fun e w' => e = .returned (.int .i64 r) ∧ Drawn0 w w')
    (K2 : ∀ w, Calls Try.prog 22 #[.int .i64 a2, .int .i64 6001] w fun e w' => e = .returned (.int .i64 p2) ∧ Drawn0 w w')
    (K3 : ∀ w, Calls Try.prog 22 #[.int .i64 a3, .int .i64 1401] w fun e w' => e = .returned (.int .i64 p3) ∧ Drawn0 w w')
    (E0 : 1 + p0 = d) (E2 : p2 - 3000 = x) (E3 : p3 - 700 = y)
    (B0 : 0 ≤ p0 ∧ p0 ≤ 2999) (B2 : 0 ≤ p2 ∧ p2 ≤ 6000) (B3 : 0 ≤ p3 ∧ p3 ≤ 1400)
    (b0 : 1 ≤ d ∧ d ≤ 3000) (b1 : 0 ≤ r ∧ r ≤ 499) (b2 : -3000 ≤ x ∧ x ≤ 3000) (b3 : -700 ≤ y ∧ y ≤ 700)
    (hs : 0 ≤ y) (T1 : ∀ w, Ret 30 #[.int .i64 0, .int .i64 0, .int .i64 (65536 * r), .int .i64 (65536 * d), .int .i64 0, .int .i64 (65536 * r), .int .i64 (65536 * x), .int .i64 (65536 * y)] w (.tuple #[.int .i64 t, .bool true])) (T2 : ∀ w, Ret 30 #[.int .i64 0, .int .i64 0, .int .i64 (65536 * r), .int .i64 (65536 * d), .int .i64 0, .int .i64 (65536 * r), .int .i64 (65536 * (x + 1)), .int .i64 (65536 * y)] w (.tuple #[.int .i64 u, .bool true])) (T3 : ∀ w, Ret 30 #[.int .i64 0, .int .i64 0, .int .i64 (65536 * r), .int .i64 (65536 * d), .int .i64 0, .int .i64 (65536 * r), .int .i64 (65536 * x), .int .i64 (65536 * -y)] w (.tuple #[.int .i64 t, .bool true])) (ho : y ≤ r) (D1 : 65536 / d = g) (g0 : 0 ≤ g) (g1 : g ≤ 65536) (u0 : -230000000 ≤ t) (u1 : t ≤ u) (u2 : u ≤ 230000000) (u3 : u - t ≤ g + 2) :
    Ret 13 #[.int .i64 a0, .int .i64 a1, .int .i64 a2, .int .i64 a3] w (.bool true) := by
  have HB := Aside0.mk (Below.refl w.heap.size w)
  have W : ∀ k : Int, -100000 ≤ k → k ≤ 100000 → ∀ w, Ret 31 #[.int .i64 k] w (.int .i64 (65536 * k)) := fun k h1 h2 w => c31 k _ w (by rw [w64 (by omega) (by omega)]; omega)
  go_enter Try.func13, Try.ntmps13
  go_wp2_with (first | (go_at_call 22; (with_reducible refine (K0 _).mono ?_); rintro e w1 ⟨rfl, ⟨nd, rfl⟩⟩) | (go_at_call 22; (with_reducible refine (K1 _).mono ?_); rintro e w1 ⟨rfl, ⟨nd, rfl⟩⟩) | (go_at_call 22; (with_reducible refine (K2 _).mono ?_); rintro e w1 ⟨rfl, ⟨nd, rfl⟩⟩) | (go_at_call 22; (with_reducible refine (K3 _).mono ?_); rintro e w1 ⟨rfl, ⟨nd, rfl⟩⟩) | (go_at_call 31; (with_reducible refine (W d (by omega) (by omega) _).mono ?_); rintro e w1 ⟨rfl, hb⟩; have n0_ := Aside0.mk (below_step (w := w) (by repeat (first | (with_reducible first | exact HB.out | apply below_alloc | apply pw_below_drewN | apply below_drew1 | (refine below_set ?_ (by omega))) | exact HB.out)) hb); clear HB; have HB := n0_; clear n0_ hb) | (go_at_call 31; (with_reducible refine (W r (by omega) (by omega) _).mono ?_); rintro e w1 ⟨rfl, hb⟩; have n0_ := Aside0.mk (below_step (w := w) (by repeat (first | (with_reducible first | exact HB.out | apply below_alloc | apply pw_below_drewN | apply below_drew1 | (refine below_set ?_ (by omega))) | exact HB.out)) hb); clear HB; have HB := n0_; clear n0_ hb) | (go_at_call 31; (with_reducible refine (W x (by omega) (by omega) _).mono ?_); rintro e w1 ⟨rfl, hb⟩; have n0_ := Aside0.mk (below_step (w := w) (by repeat (first | (with_reducible first | exact HB.out | apply below_alloc | apply pw_below_drewN | apply below_drew1 | (refine below_set ?_ (by omega))) | exact HB.out)) hb); clear HB; have HB := n0_; clear n0_ hb) | (go_at_call 31; (with_reducible refine (W y (by omega) (by omega) _).mono ?_); rintro e w1 ⟨rfl, hb⟩; have n0_ := Aside0.mk (below_step (w := w) (by repeat (first | (with_reducible first | exact HB.out | apply below_alloc | apply pw_below_drewN | apply below_drew1 | (refine below_set ?_ (by omega))) | exact HB.out)) hb); clear HB; have HB := n0_; clear n0_ hb) | (go_at_call 31; (with_reducible refine (W (x + 1) (by omega) (by omega) _).mono ?_); rintro e w1 ⟨rfl, hb⟩; have n0_ := Aside0.mk (below_step (w := w) (by repeat (first | (with_reducible first | exact HB.out | apply below_alloc | apply pw_below_drewN | apply below_drew1 | (refine below_set ?_ (by omega))) | exact HB.out)) hb); clear HB; have HB := n0_; clear n0_ hb) | (go_at_call 31; (with_reducible refine (W (-y) (by omega) (by omega) _).mono ?_); rintro e w1 ⟨rfl, hb⟩; have n0_ := Aside0.mk (below_step (w := w) (by repeat (first | (with_reducible first | exact HB.out | apply below_alloc | apply pw_below_drewN | apply below_drew1 | (refine below_set ?_ (by omega))) | exact HB.out)) hb); clear HB; have HB := n0_; clear n0_ hb) | (go_at_call 30; (with_reducible refine (T1 _).mono ?_); rintro e w1 ⟨rfl, hb⟩; have n0_ := Aside0.mk (below_step (w := w) (by repeat (first | (with_reducible first | exact HB.out | apply below_alloc | apply pw_below_drewN | apply below_drew1 | (refine below_set ?_ (by omega))) | exact HB.out)) hb); clear HB; have HB := n0_; clear n0_ hb) | (go_at_call 32; (with_reducible refine (c32 _).mono ?_); rintro e w1 ⟨rfl, hb⟩; have n0_ := Aside0.mk (below_step (w := w) (by repeat (first | (with_reducible first | exact HB.out | apply below_alloc | apply pw_below_drewN | apply below_drew1 | (refine below_set ?_ (by omega))) | exact HB.out)) hb); clear HB; have HB := n0_; clear n0_ hb) | (go_at_call 30; (with_reducible refine (T2 _).mono ?_); rintro e w1 ⟨rfl, hb⟩; have n0_ := Aside0.mk (below_step (w := w) (by repeat (first | (with_reducible first | exact HB.out | apply below_alloc | apply pw_below_drewN | apply below_drew1 | (refine below_set ?_ (by omega))) | exact HB.out)) hb); clear HB; have HB := n0_; clear n0_ hb) | (go_at_call 30; (with_reducible refine (T3 _).mono ?_); rintro e w1 ⟨rfl, hb⟩; have n0_ := Aside0.mk (below_step (w := w) (by repeat (first | (with_reducible first | exact HB.out | apply below_alloc | apply pw_below_drewN | apply below_drew1 | (refine below_set ?_ (by omega))) | exact HB.out)) hb); clear HB; have HB := n0_; clear n0_ hb))
  go_ret
  exact ⟨rfl, HB.out⟩
set_option maxHeartbeats 4000000 in
set_option maxRecDepth 100000 in
theorem tubes_down_out (a0 a1 a2 a3 p0 p2 p3 d r x y : Int) (w : World)
    (K0 : ∀ w, Calls Try.prog 22 #[.int .i64 a0, .int .i64 3000] w fun e w' => e = .returned (.int .i64 p0) ∧ Drawn0 w w')
    (K1 : ∀ w, Calls Try.prog 22 #[.int .i64 a1, .int .i64 500] w fun e w' => e = .returned (.int .i64 r) ∧ Drawn0 w w')
    (K2 : ∀ w, Calls Try.prog 22 #[.int .i64 a2, .int .i64 6001] w fun e w' => e = .returned (.int .i64 p2) ∧ Drawn0 w w')
    (K3 : ∀ w, Calls Try.prog 22 #[.int .i64 a3, .int .i64 1401] w fun e w' => e = .returned (.int .i64 p3) ∧ Drawn0 w w')
    (E0 : 1 + p0 = d) (E2 : p2 - 3000 = x) (E3 : p3 - 700 = y)
    (B0 : 0 ≤ p0 ∧ p0 ≤ 2999) (B2 : 0 ≤ p2 ∧ p2 ≤ 6000) (B3 : 0 ≤ p3 ∧ p3 ≤ 1400)
    (b0 : 1 ≤ d ∧ d ≤ 3000) (b1 : 0 ≤ r ∧ r ≤ 499) (b2 : -3000 ≤ x ∧ x ≤ 3000) (b3 : -700 ≤ y ∧ y ≤ 700)
    (hs : y < 0) (T1 : ∀ w, Ret 30 #[.int .i64 0, .int .i64 0, .int .i64 (65536 * r), .int .i64 (65536 * d), .int .i64 0, .int .i64 (65536 * r), .int .i64 (65536 * x), .int .i64 (65536 * y)] w (.tuple #[.int .i64 0, .bool false])) (ho : r < -y) :
    Ret 13 #[.int .i64 a0, .int .i64 a1, .int .i64 a2, .int .i64 a3] w (.bool true) := by
  have HB := Aside0.mk (Below.refl w.heap.size w)
  have W : ∀ k : Int, -100000 ≤ k → k ≤ 100000 → ∀ w, Ret 31 #[.int .i64 k] w (.int .i64 (65536 * k)) := fun k h1 h2 w => c31 k _ w (by rw [w64 (by omega) (by omega)]; omega)
  go_enter Try.func13, Try.ntmps13
  go_wp2_with (first | (go_at_call 22; (with_reducible refine (K0 _).mono ?_); rintro e w1 ⟨rfl, ⟨nd, rfl⟩⟩) | (go_at_call 22; (with_reducible refine (K1 _).mono ?_); rintro e w1 ⟨rfl, ⟨nd, rfl⟩⟩) | (go_at_call 22; (with_reducible refine (K2 _).mono ?_); rintro e w1 ⟨rfl, ⟨nd, rfl⟩⟩) | (go_at_call 22; (with_reducible refine (K3 _).mono ?_); rintro e w1 ⟨rfl, ⟨nd, rfl⟩⟩) | (go_at_call 31; (with_reducible refine (W d (by omega) (by omega) _).mono ?_); rintro e w1 ⟨rfl, hb⟩; have n0_ := Aside0.mk (below_step (w := w) (by repeat (first | (with_reducible first | exact HB.out | apply below_alloc | apply pw_below_drewN | apply below_drew1 | (refine below_set ?_ (by omega))) | exact HB.out)) hb); clear HB; have HB := n0_; clear n0_ hb) | (go_at_call 31; (with_reducible refine (W r (by omega) (by omega) _).mono ?_); rintro e w1 ⟨rfl, hb⟩; have n0_ := Aside0.mk (below_step (w := w) (by repeat (first | (with_reducible first | exact HB.out | apply below_alloc | apply pw_below_drewN | apply below_drew1 | (refine below_set ?_ (by omega))) | exact HB.out)) hb); clear HB; have HB := n0_; clear n0_ hb) | (go_at_call 31; (with_reducible refine (W x (by omega) (by omega) _).mono ?_); rintro e w1 ⟨rfl, hb⟩; have n0_ := Aside0.mk (below_step (w := w) (by repeat (first | (with_reducible first | exact HB.out | apply below_alloc | apply pw_below_drewN | apply below_drew1 | (refine below_set ?_ (by omega))) | exact HB.out)) hb); clear HB; have HB := n0_; clear n0_ hb) | (go_at_call 31; (with_reducible refine (W y (by omega) (by omega) _).mono ?_); rintro e w1 ⟨rfl, hb⟩; have n0_ := Aside0.mk (below_step (w := w) (by repeat (first | (with_reducible first | exact HB.out | apply below_alloc | apply pw_below_drewN | apply below_drew1 | (refine below_set ?_ (by omega))) | exact HB.out)) hb); clear HB; have HB := n0_; clear n0_ hb) | (go_at_call 31; (with_reducible refine (W (x + 1) (by omega) (by omega) _).mono ?_); rintro e w1 ⟨rfl, hb⟩; have n0_ := Aside0.mk (below_step (w := w) (by repeat (first | (with_reducible first | exact HB.out | apply below_alloc | apply pw_below_drewN | apply below_drew1 | (refine below_set ?_ (by omega))) | exact HB.out)) hb); clear HB; have HB := n0_; clear n0_ hb) | (go_at_call 31; (with_reducible refine (W (-y) (by omega) (by omega) _).mono ?_); rintro e w1 ⟨rfl, hb⟩; have n0_ := Aside0.mk (below_step (w := w) (by repeat (first | (with_reducible first | exact HB.out | apply below_alloc | apply pw_below_drewN | apply below_drew1 | (refine below_set ?_ (by omega))) | exact HB.out)) hb); clear HB; have HB := n0_; clear n0_ hb) | (go_at_call 30; (with_reducible refine (T1 _).mono ?_); rintro e w1 ⟨rfl, hb⟩; have n0_ := Aside0.mk (below_step (w := w) (by repeat (first | (with_reducible first | exact HB.out | apply below_alloc | apply pw_below_drewN | apply below_drew1 | (refine below_set ?_ (by omega))) | exact HB.out)) hb); clear HB; have HB := n0_; clear n0_ hb) | (go_at_call 32; (with_reducible refine (c32 _).mono ?_); rintro e w1 ⟨rfl, hb⟩; have n0_ := Aside0.mk (below_step (w := w) (by repeat (first | (with_reducible first | exact HB.out | apply below_alloc | apply pw_below_drewN | apply below_drew1 | (refine below_set ?_ (by omega))) | exact HB.out)) hb); clear HB; have HB := n0_; clear n0_ hb))
  go_ret
  exact ⟨rfl, HB.out⟩
set_option maxHeartbeats 4000000 in
set_option maxRecDepth 100000 in
theorem tubes_down_in (a0 a1 a2 a3 p0 p2 p3 d r x y t u g : Int) (w : World)
    (K0 : ∀ w, Calls Try.prog 22 #[.int .i64 a0, .int .i64 3000] w fun e w' => e = .returned (.int .i64 p0) ∧ Drawn0 w w')
    (K1 : ∀ w, Calls Try.prog 22 #[.int .i64 a1, .int .i64 500] w fun e w' => e = .returned (.int .i64 r) ∧ Drawn0 w w')
    (K2 : ∀ w, Calls Try.prog 22 #[.int .i64 a2, .int .i64 6001] w fun e w' => e = .returned (.int .i64 p2) ∧ Drawn0 w w')
    (K3 : ∀ w, Calls Try.prog 22 #[.int .i64 a3, .int .i64 1401] w fun e w' => e = .returned (.int .i64 p3) ∧ Drawn0 w w')
    (E0 : 1 + p0 = d) (E2 : p2 - 3000 = x) (E3 : p3 - 700 = y)
    (B0 : 0 ≤ p0 ∧ p0 ≤ 2999) (B2 : 0 ≤ p2 ∧ p2 ≤ 6000) (B3 : 0 ≤ p3 ∧ p3 ≤ 1400)
    (b0 : 1 ≤ d ∧ d ≤ 3000) (b1 : 0 ≤ r ∧ r ≤ 499) (b2 : -3000 ≤ x ∧ x ≤ 3000) (b3 : -700 ≤ y ∧ y ≤ 700)
    (hs : y < 0) (T1 : ∀ w, Ret 30 #[.int .i64 0, .int .i64 0, .int .i64 (65536 * r), .int .i64 (65536 * d), .int .i64 0, .int .i64 (65536 * r), .int .i64 (65536 * x), .int .i64 (65536 * y)] w (.tuple #[.int .i64 t, .bool true])) (T2 : ∀ w, Ret 30 #[.int .i64 0, .int .i64 0, .int .i64 (65536 * r), .int .i64 (65536 * d), .int .i64 0, .int .i64 (65536 * r), .int .i64 (65536 * (x + 1)), .int .i64 (65536 * y)] w (.tuple #[.int .i64 u, .bool true])) (T3 : ∀ w, Ret 30 #[.int .i64 0, .int .i64 0, .int .i64 (65536 * r), .int .i64 (65536 * d), .int .i64 0, .int .i64 (65536 * r), .int .i64 (65536 * x), .int .i64 (65536 * -y)] w (.tuple #[.int .i64 t, .bool true])) (ho : -y ≤ r) (D1 : 65536 / d = g) (g0 : 0 ≤ g) (g1 : g ≤ 65536) (u0 : -230000000 ≤ t) (u1 : t ≤ u) (u2 : u ≤ 230000000) (u3 : u - t ≤ g + 2) :
    Ret 13 #[.int .i64 a0, .int .i64 a1, .int .i64 a2, .int .i64 a3] w (.bool true) := by
  have HB := Aside0.mk (Below.refl w.heap.size w)
  have W : ∀ k : Int, -100000 ≤ k → k ≤ 100000 → ∀ w, Ret 31 #[.int .i64 k] w (.int .i64 (65536 * k)) := fun k h1 h2 w => c31 k _ w (by rw [w64 (by omega) (by omega)]; omega)
  go_enter Try.func13, Try.ntmps13
  go_wp2_with (first | (go_at_call 22; (with_reducible refine (K0 _).mono ?_); rintro e w1 ⟨rfl, ⟨nd, rfl⟩⟩) | (go_at_call 22; (with_reducible refine (K1 _).mono ?_); rintro e w1 ⟨rfl, ⟨nd, rfl⟩⟩) | (go_at_call 22; (with_reducible refine (K2 _).mono ?_); rintro e w1 ⟨rfl, ⟨nd, rfl⟩⟩) | (go_at_call 22; (with_reducible refine (K3 _).mono ?_); rintro e w1 ⟨rfl, ⟨nd, rfl⟩⟩) | (go_at_call 31; (with_reducible refine (W d (by omega) (by omega) _).mono ?_); rintro e w1 ⟨rfl, hb⟩; have n0_ := Aside0.mk (below_step (w := w) (by repeat (first | (with_reducible first | exact HB.out | apply below_alloc | apply pw_below_drewN | apply below_drew1 | (refine below_set ?_ (by omega))) | exact HB.out)) hb); clear HB; have HB := n0_; clear n0_ hb) | (go_at_call 31; (with_reducible refine (W r (by omega) (by omega) _).mono ?_); rintro e w1 ⟨rfl, hb⟩; have n0_ := Aside0.mk (below_step (w := w) (by repeat (first | (with_reducible first | exact HB.out | apply below_alloc | apply pw_below_drewN | apply below_drew1 | (refine below_set ?_ (by omega))) | exact HB.out)) hb); clear HB; have HB := n0_; clear n0_ hb) | (go_at_call 31; (with_reducible refine (W x (by omega) (by omega) _).mono ?_); rintro e w1 ⟨rfl, hb⟩; have n0_ := Aside0.mk (below_step (w := w) (by repeat (first | (with_reducible first | exact HB.out | apply below_alloc | apply pw_below_drewN | apply below_drew1 | (refine below_set ?_ (by omega))) | exact HB.out)) hb); clear HB; have HB := n0_; clear n0_ hb) | (go_at_call 31; (with_reducible refine (W y (by omega) (by omega) _).mono ?_); rintro e w1 ⟨rfl, hb⟩; have n0_ := Aside0.mk (below_step (w := w) (by repeat (first | (with_reducible first | exact HB.out | apply below_alloc | apply pw_below_drewN | apply below_drew1 | (refine below_set ?_ (by omega))) | exact HB.out)) hb); clear HB; have HB := n0_; clear n0_ hb) | (go_at_call 31; (with_reducible refine (W (x + 1) (by omega) (by omega) _).mono ?_); rintro e w1 ⟨rfl, hb⟩; have n0_ := Aside0.mk (below_step (w := w) (by repeat (first | (with_reducible first | exact HB.out | apply below_alloc | apply pw_below_drewN | apply below_drew1 | (refine below_set ?_ (by omega))) | exact HB.out)) hb); clear HB; have HB := n0_; clear n0_ hb) | (go_at_call 31; (with_reducible refine (W (-y) (by omega) (by omega) _).mono ?_); rintro e w1 ⟨rfl, hb⟩; have n0_ := Aside0.mk (below_step (w := w) (by repeat (first | (with_reducible first | exact HB.out | apply below_alloc | apply pw_below_drewN | apply below_drew1 | (refine below_set ?_ (by omega))) | exact HB.out)) hb); clear HB; have HB := n0_; clear n0_ hb) | (go_at_call 30; (with_reducible refine (T1 _).mono ?_); rintro e w1 ⟨rfl, hb⟩; have n0_ := Aside0.mk (below_step (w := w) (by repeat (first | (with_reducible first | exact HB.out | apply below_alloc | apply pw_below_drewN | apply below_drew1 | (refine below_set ?_ (by omega))) | exact HB.out)) hb); clear HB; have HB := n0_; clear n0_ hb) | (go_at_call 32; (with_reducible refine (c32 _).mono ?_); rintro e w1 ⟨rfl, hb⟩; have n0_ := Aside0.mk (below_step (w := w) (by repeat (first | (with_reducible first | exact HB.out | apply below_alloc | apply pw_below_drewN | apply below_drew1 | (refine below_set ?_ (by omega))) | exact HB.out)) hb); clear HB; have HB := n0_; clear n0_ hb) | (go_at_call 30; (with_reducible refine (T2 _).mono ?_); rintro e w1 ⟨rfl, hb⟩; have n0_ := Aside0.mk (below_step (w := w) (by repeat (first | (with_reducible first | exact HB.out | apply below_alloc | apply pw_below_drewN | apply below_drew1 | (refine below_set ?_ (by omega))) | exact HB.out)) hb); clear HB; have HB := n0_; clear n0_ hb) | (go_at_call 30; (with_reducible refine (T3 _).mono ?_); rintro e w1 ⟨rfl, hb⟩; have n0_ := Aside0.mk (below_step (w := w) (by repeat (first | (with_reducible first | exact HB.out | apply below_alloc | apply pw_below_drewN | apply below_drew1 | (refine below_set ?_ (by omega))) | exact HB.out)) hb); clear HB; have HB := n0_; clear n0_ hb))
  go_ret
  exact ⟨rfl, HB.out⟩
theorem walk (a0 a1 a2 a3 : Int) (w : World) (_ : (Lit.int .i64 a0).wf = true) (_ : (Lit.int .i64 a1).wf = true) (_ : (Lit.int .i64 a2).wf = true) (_ : (Lit.int .i64 a3).wf = true) :
    Ret 13 #[.int .i64 a0, .int .i64 a1, .int .i64 a2, .int .i64 a3] w (.bool true) := by
  have q1 : 0 ≤ a0 % 3000 ∧ a0 % 3000 ≤ 2999 := by omega
  have q2 : 0 ≤ a1 % 500 ∧ a1 % 500 ≤ 499 := by omega
  have q3 : 0 ≤ a2 % 6001 ∧ a2 % 6001 ≤ 6000 := by omega
  have q4 : 0 ≤ a3 % 1401 ∧ a3 % 1401 ≤ 1400 := by omega
  have K0 := fun w => d22 a0 3000 w (by omega) (by omega)
  have K1 := fun w => d22 a1 500 w (by omega) (by omega)
  have K2 := fun w => d22 a2 6001 w (by omega) (by omega)
  have K3 := fun w => d22 a3 1401 w (by omega) (by omega)
  generalize a0 % 3000 = p0 at *
  generalize a1 % 500 = r at *
  generalize a2 % 6001 = p2 at *
  generalize a3 % 1401 = p3 at *
  obtain ⟨d, E0⟩ : ∃ v, 1 + p0 = v := ⟨_, rfl⟩
  obtain ⟨x, E2⟩ : ∃ v, p2 - 3000 = v := ⟨_, rfl⟩
  obtain ⟨y, E3⟩ : ∃ v, p3 - 700 = v := ⟨_, rfl⟩
  have N : ∀ (n lo : Int), lo ≤ n → n ≤ 8191 → -8191 ≤ n → near (65536 * n) lo = n := fun n lo a b c => near_w a b c
  have Z : near 0 (-8191) = 0 := by decide
  have R : ∀ x y : Int, -3001 ≤ x → x ≤ 3001 → -700 ≤ y → y ≤ 700 → radial 0 0 (65536 * r) (65536 * d) 0 (65536 * r) (65536 * x) (65536 * y) = rad (d * d) (x * d) (x * x + y * y - r * r) r 0 := by
    intro x y h1 h2 h3 h4
    unfold radial
    rw [Z, N r _ (by omega) (by omega) (by omega), N d _ (by omega) (by omega) (by omega), N x _ (by omega) (by omega) (by omega), N y _ (by omega) (by omega) (by omega)]
    unfold radW
    congr 1 <;> grind
  have hrr := sq_pos r
  by_cases hin : y * y ≤ r * r
  · have i1 := tube_in (d := d) (r := r) (x := x) (y := y) (by omega) (by omega) (by omega) (by omega) (by omega) (by omega) hin
    have i2 := tube_in (d := d) (r := r) (x := x + 1) (y := y) (by omega) (by omega) (by omega) (by omega) (by omega) (by omega) hin
    have T1 := fun w => ret_tup ((R x y (by omega) (by omega) (by omega) (by omega)).trans i1.1) (c30 0 0 (65536 * r) (65536 * d) 0 (65536 * r) (65536 * x) (65536 * y) w)
    have T2 := fun w => ret_tup ((R (x + 1) y (by omega) (by omega) (by omega) (by omega)).trans i2.1) (c30 0 0 (65536 * r) (65536 * d) 0 (65536 * r) (65536 * (x + 1)) (65536 * y) w)
    have T3 := fun w => ret_tup (q := ((x * d + root (d * d * (r * r - y * y))) * 65536 / (d * d), true)) ((R x (-y) (by omega) (by omega) (by omega) (by omega)).trans (by rw [Int.neg_mul_neg]; exact i1.1)) (c30 0 0 (65536 * r) (65536 * d) 0 (65536 * r) (65536 * x) (65536 * -y) w)
    have st := tube_step (d := d) (N := x * d + root (d * d * (r * r - y * y))) (by omega)
    rw [show x * d + root (d * d * (r * r - y * y)) + d = (x + 1) * d + root (d * d * (r * r - y * y)) by rw [Int.add_mul]; omega] at st
    have g0 : 0 ≤ 65536 / d := Int.ediv_nonneg (by omega) (by omega)
    have g1 : 65536 / d ≤ 65536 := Int.ediv_le_self _ (by omega)
    by_cases hs : 0 ≤ y
    · exact tubes_up_in a0 a1 a2 a3 p0 p2 p3 d r x y _ _ _ w K0 K1 K2 K3 E0 E2 E3 q1 q3 q4 (by omega) (by omega) (by omega) (by omega) hs T1 T2 T3 (le_of_sq (by omega) hin) rfl g0 g1 i1.2.1 st.1 i2.2.2 st.2
    · exact tubes_down_in a0 a1 a2 a3 p0 p2 p3 d r x y _ _ _ w K0 K1 K2 K3 E0 E2 E3 q1 q3 q4 (by omega) (by omega) (by omega) (by omega) (by omega) T1 T2 T3 (le_of_sq (by omega) (by rw [Int.neg_mul_neg]; exact hin)) rfl g0 g1 i1.2.1 st.1 i2.2.2 st.2
  · have T1 := fun w => ret_tup ((R x y (by omega) (by omega) (by omega) (by omega)).trans (tube_out (by omega) (by omega))) (c30 0 0 (65536 * r) (65536 * d) 0 (65536 * r) (65536 * x) (65536 * y) w)
    by_cases hs : 0 ≤ y
    · exact tubes_up_out a0 a1 a2 a3 p0 p2 p3 d r x y w K0 K1 K2 K3 E0 E2 E3 q1 q3 q4 (by omega) (by omega) (by omega) (by omega) hs T1 (by
        by_cases h : r < y
        · exact h
        · have := sq_mono (a := y) (b := r) hs (by omega)
          omega)
    · exact tubes_down_out a0 a1 a2 a3 p0 p2 p3 d r x y w K0 K1 K2 K3 E0 E2 E3 q1 q3 q4 (by omega) (by omega) (by omega) (by omega) (by omega) T1 (by
        by_cases h : r < -y
        · exact h
        · have := sq_mono (a := -y) (b := r) (by omega) (by omega)
          rw [Int.neg_mul_neg] at this
          omega)

end Go.Proofs.Ytaohkdieigbccaa.WalkRadialTubes
