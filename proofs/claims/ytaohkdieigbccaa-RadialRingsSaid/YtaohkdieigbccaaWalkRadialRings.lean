/- RadialRings returns true at every input. -/
import Derived.Test.YtaohkdieigbccaaRadC
namespace Go.Proofs.Ytaohkdieigbccaa.WalkRadialRings
open Go.RowKit Go.Proofs.YtaohkdieigbccaaW.PrintWords Go.Proofs.YtaohkdieigbccaaW.PrintLast Go.Proofs.YtaohkdieigbccaaW.PrintMore Go.Proofs.Ytaohkdieigbccaa.PRadialTells Go.Proofs.Ytaohkdieigbccaa.M Go.Proofs.Ytaohkdieigbccaa.RadQ Go.Proofs.Ytaohkdieigbccaa.RadT Go.Proofs.Ytaohkdieigbccaa.RadC
attribute [local go_sem] max2_int min2_int max_two min_two max_three min_three max_four min_four
set_option linter.unusedVariables false
set_option linter.unusedSimpArgs false

theorem near_w {n lo : Int} (h0 : lo ≤ n) (h1 : n ≤ 8191) (h2 : -8191 ≤ n) : near (65536 * n) lo = n := by
  unfold near
  rw [clip_id (by omega) (by omega)]
  unfold mx mn; omega
/-- about one middle, from nothing on: the root by the radius, floored -/
theorem ring {r s : Int} (r1 : 1 ≤ r) (r2 : r ≤ 4000) (s1 : 0 ≤ s) (s2 : s ≤ 8000000) :
    ∃ t RT : Int, rad (-(r * r)) 0 s 0 r = (t, true) ∧ 0 ≤ t ∧ t ≤ 200000000 ∧ 0 ≤ RT ∧ RT * RT ≤ r * r * s ∧ r * r * s < (RT + 1) * (RT + 1) ∧ t * r * r ≤ 65536 * RT ∧ 65536 * RT < (t * r + r) * r := by
  have hrr := mul_bd (a := r) (b := r) (A := 4000) (B := 4000) (by omega) (by omega) (by omega) (by omega)
  have hr0 : 1 * 1 ≤ r * r := sq_mono (by omega) r1
  have hrs := mul_bd (a := r * r) (b := s) (A := 16000000) (B := 8000000) (by omega) (by omega) (by omega) (by omega)
  have hrs0 : 0 ≤ r * r * s := Int.mul_nonneg (by omega) s1
  have hq : (0 : Int) * 0 - -(r * r) * s = r * r * s := by rw [Int.neg_mul]; omega
  obtain ⟨q1, q2, q3⟩ := root_spec hrs0 (by omega)
  have hRT : root (r * r * s) ≤ 2829 * r := by
    have : root (r * r * s) < 2829 * r + 1 := by
      apply sq_lt (by omega)
      have e : (2829 * r + 1) * (2829 * r + 1) = 8003241 * (r * r) + 5658 * r + 1 := by grind
      have : r * r * s ≤ r * r * 8000000 := Int.mul_le_mul_of_nonneg_left s2 (by omega)
      omega
    omega
  refine ⟨root (r * r * s) * 65536 / (r * r), root (r * r * s), ?_, ?_⟩
  all_goals generalize hRe : root (r * r * s) = RT at *
  all_goals have hrM : r * 1 ≤ r * r := Int.mul_le_mul_of_nonneg_left r1 (by omega)
  all_goals have hT0 : 0 ≤ RT * 65536 / (r * r) := Int.ediv_nonneg (by omega) (by omega)
  all_goals have hT1 : RT * 65536 / (r * r) < 185401345 := Int.ediv_lt_of_lt_mul (by omega) (by omega)
  · unfold rad
    rw [if_neg (by omega), hq, hRe, if_neg (by omega)]
    have e1 : ratio (0 - RT) (-(r * r)) = RT * 65536 / (r * r) := by
      unfold ratio
      rw [wide_id (n := 0 - RT) (by omega) (by omega), wide_id (n := -(r * r)) (by omega) (by omega), if_neg (by omega)]
      unfold fl
      rw [if_neg (by omega), show -((0 - RT) * 65536) = RT * 65536 by omega, show - -(r * r) = r * r by omega, clip_id (by omega) (by omega)]
    have e2 : ratio (0 + RT) (-(r * r)) ≤ 0 := by
      unfold ratio
      rw [wide_id (n := 0 + RT) (by omega) (by omega), wide_id (n := -(r * r)) (by omega) (by omega), if_neg (by omega)]
      unfold fl
      rw [if_neg (by omega), show - -(r * r) = r * r by omega]
      have h0 : -((0 + RT) * 65536) / (r * r) ≤ 0 := by
        have : -((0 + RT) * 65536) / (r * r) < 1 := Int.ediv_lt_of_lt_mul (by omega) (by omega)
        omega
      have := clip_mono h0
      rw [show clip 0 = 0 by decide] at this
      exact this
    rw [e1]
    generalize ratio (0 + RT) (-(r * r)) = S at *
    generalize RT * 65536 / (r * r) = T at *
    have em : mx S T = T := by unfold mx; omega
    have hg : 0 ≤ T * r := Int.mul_nonneg hT0 (by omega)
    rw [em, if_pos (by omega)]
  · refine ⟨hT0, by omega, q1, q2, q3, ?_, ?_⟩
    · rw [Int.mul_assoc]
      have := Int.ediv_mul_le (RT * 65536) (show r * r ≠ 0 by omega)
      omega
    · have := Int.lt_ediv_add_one_mul_self (RT * 65536) (show 0 < r * r by omega)
      rw [show (RT * 65536 / (r * r) * r + r) * r = (RT * 65536 / (r * r) + 1) * (r * r) by grind]
      omega
theorem within_t {t r s RT : Int} (r1 : 1 ≤ r) (r2 : r ≤ 4000) (s1 : 0 ≤ s) (s2 : s ≤ 8000000) (t1 : 0 ≤ t) (t2 : t ≤ 200000000) (h0 : 0 ≤ RT) (h1 : RT * RT ≤ r * r * s) (h2 : r * r * s < (RT + 1) * (RT + 1)) (h3 : t * r * r ≤ 65536 * RT) (h4 : 65536 * RT < (t * r + r) * r) :
    0 ≤ t * r ∧ t * r ≤ 800000000000 ∧ (t * r - 65536) / 65536 * ((t * r - 65536) / 65536) ≤ (if t * r < 65536 then 1 else s) ∧ s ≤ ((t * r + r + 65536) / 65536 + 1) * ((t * r + r + 65536) / 65536 + 1) := by
  have hrr : 1 * 1 ≤ r * r := sq_mono (by omega) r1
  have hn := mul_bd (a := t) (b := r) (A := 200000000) (B := 4000) (by omega) (by omega) (by omega) (by omega)
  have hn0 : 0 ≤ t * r := Int.mul_nonneg t1 (by omega)
  generalize t * r = n at *
  have L : (n - 65536) / 65536 * ((n - 65536) / 65536) ≤ (if n < 65536 then 1 else s) := by
    by_cases hc : n < 65536
    · rw [if_pos hc, show (n - 65536) / 65536 = -1 by omega]; decide
    · rw [if_neg hc]
      have e : 65536 * ((n - 65536) / 65536 + 1) ≤ n := by omega
      have e0 : 0 ≤ (n - 65536) / 65536 := by omega
      generalize (n - 65536) / 65536 = low at *
      have e1 : 65536 * (low + 1) * r ≤ n * r := Int.mul_le_mul_of_nonneg_right e (by omega)
      have e2 : 65536 * (low + 1) * r = 65536 * ((low + 1) * r) := Int.mul_assoc _ _ _
      have e3 : (low + 1) * r ≤ RT := by omega
      have e4 := sq_mono (a := (low + 1) * r) (b := RT) (Int.mul_nonneg (by omega) (by omega)) e3
      have e5 : (low + 1) * r * ((low + 1) * r) = (low + 1) * (low + 1) * (r * r) := by grind
      have e6 : (low + 1) * (low + 1) * (r * r) ≤ s * (r * r) := by rw [Int.mul_comm s]; omega
      have e7 := Int.le_of_mul_le_mul_right e6 (by omega)
      have e8 := sq_mono (a := low) (b := low + 1) (by omega) (by omega)
      omega
  have U : s ≤ ((n + r + 65536) / 65536 + 1) * ((n + r + 65536) / 65536 + 1) := by
    have e : n + r < 65536 * ((n + r + 65536) / 65536) := by omega
    generalize (n + r + 65536) / 65536 = high at *
    have e1 : (n + r) * r < 65536 * high * r := Int.mul_lt_mul_of_pos_right e (by omega)
    have e2 : 65536 * high * r = 65536 * (high * r) := Int.mul_assoc _ _ _
    have e3 : RT + 1 ≤ high * r := by omega
    have e4 := sq_mono (a := RT + 1) (b := high * r) (by omega) e3
    have e5 : high * r * (high * r) = high * high * (r * r) := by grind
    have e6 : s * (r * r) < high * high * (r * r) := by rw [Int.mul_comm s]; omega
    have e7 := Int.lt_of_mul_lt_mul_right e6 (by omega)
    have e8 := sq_mono (a := high) (b := high + 1) (by omega) (by omega)
    omega
  exact ⟨hn0, by omega, L, U⟩
set_option maxHeartbeats 4000000 in
theorem within_low (n s r high : Int) (w : World) (h0 : 0 ≤ n) (h1 : n ≤ 65536) (r1 : 1 ≤ r) (r2 : r ≤ 4000) (s1 : 0 ≤ s) (e1 : (n + r + 65536) / 65536 = high) (g0 : 0 ≤ high) (g1 : high ≤ 12300000) (hh : 0 ≤ (high + 1) * (high + 1) ∧ (high + 1) * (high + 1) ≤ 200000000000000) (U : s ≤ (high + 1) * (high + 1)) :
    Ret 34 #[.int .i64 n, .int .i64 s, .int .i64 r] w (.bool true) := by
  have HB := Aside0.mk (Below.refl w.heap.size w)
  go_enter Try.func34, Try.ntmps34
  go_wp2
  go_ret
  exact ⟨rfl, (by repeat (first | (with_reducible first | exact HB.out | apply below_alloc | apply pw_below_drewN | apply below_drew1 | (refine below_set ?_ (by omega))) | exact HB.out))⟩
set_option maxHeartbeats 4000000 in
theorem within_high (n s r low high : Int) (w : World) (h0 : 65536 < n) (h1 : n ≤ 800000000000) (r1 : 1 ≤ r) (r2 : r ≤ 4000) (e0 : (n - 65536) / 65536 = low) (l0 : 0 ≤ low) (l1 : low ≤ 12300000) (hl : 0 ≤ low * low ∧ low * low ≤ 200000000000000) (L : low * low ≤ s) (e1 : (n + r + 65536) / 65536 = high) (g0 : 0 ≤ high) (g1 : high ≤ 12300000) (hh : 0 ≤ (high + 1) * (high + 1) ∧ (high + 1) * (high + 1) ≤ 200000000000000) (U : s ≤ (high + 1) * (high + 1)) :
    Ret 34 #[.int .i64 n, .int .i64 s, .int .i64 r] w (.bool true) := by
  have HB := Aside0.mk (Below.refl w.heap.size w)
  go_enter Try.func34, Try.ntmps34
  go_wp2
  go_ret
  exact ⟨rfl, (by repeat (first | (with_reducible first | exact HB.out | apply below_alloc | apply pw_below_drewN | apply below_drew1 | (refine below_set ?_ (by omega))) | exact HB.out))⟩
theorem c34 {n s r : Int} (w : World) (r1 : 1 ≤ r) (r2 : r ≤ 4000) (s1 : 0 ≤ s) (h : 0 ≤ n ∧ n ≤ 800000000000 ∧ (n - 65536) / 65536 * ((n - 65536) / 65536) ≤ (if n < 65536 then 1 else s) ∧ s ≤ ((n + r + 65536) / 65536 + 1) * ((n + r + 65536) / 65536 + 1)) :
    Ret 34 #[.int .i64 n, .int .i64 s, .int .i64 r] w (.bool true) := by
  obtain ⟨h0, h1, L, U⟩ := h
  have hhh := mul_bd (a := (n + r + 65536) / 65536 + 1) (b := (n + r + 65536) / 65536 + 1) (A := 12300001) (B := 12300001) (by omega) (by omega) (by omega) (by omega)
  have hh0 := sq_pos ((n + r + 65536) / 65536 + 1)
  by_cases hc : n ≤ 65536
  · exact within_low n s r _ w h0 hc r1 r2 s1 rfl (by omega) (by omega) ⟨hh0, by omega⟩ U
  · rw [if_neg (by omega)] at L
    have hll := mul_bd (a := (n - 65536) / 65536) (b := (n - 65536) / 65536) (A := 12300000) (B := 12300000) (by omega) (by omega) (by omega) (by omega)
    exact within_high n s r _ _ w (by omega) h1 r1 r2 rfl (by omega) (by omega) ⟨sq_pos _, by omega⟩ L rfl (by omega) (by omega) ⟨hh0, by omega⟩ U

set_option maxHeartbeats 4000000 in
set_option maxRecDepth 100000 in
theorem rings (a0 a1 a2 a3 a4 p0 p1 p2 p3 p4 cx cy r x y t s n : Int) (w : World)
    (K0 : ∀ w, Calls Try.prog 22 #[.int .i64 a0, .int .i64 4001] w fun e w' => e = .returned (.int .i64 p0) ∧ Drawn0 w w')
    (K1 : ∀ w, Calls Try.prog 22 #[.int .i64 a1, .int .i64 4001] w fun e w' => e = .returned (.int .i64 p1) ∧ Drawn0 w w')
    (K2 : ∀ w, Calls Try.prog 22 #[.int .i64 a2, .int .i64 4000] w fun e w' => e = .returned (.int .i64 p2) ∧ Drawn0 w w')
    (K3 : ∀ w, Calls Try.prog 22 #[.int .i64 a3, .int .i64 4001] w fun e w' => e = .returned (.int .i64 p3) ∧ Drawn0 w w')
    (K4 : ∀ w, Calls Try.prog 22 #[.int .i64 a4, .int .i64 4001] w fun e w' => e = .returned (.int .i64 p4) ∧ Drawn0 w w')
    (E0 : p0 - 2000 = cx) (E1 : p1 - 2000 = cy) (E2 : 1 + p2 = r) (E3 : p3 - 2000 = x) (E4 : p4 - 2000 = y)
    (B0 : 0 ≤ p0 ∧ p0 ≤ 4000) (B1 : 0 ≤ p1 ∧ p1 ≤ 4000) (B2 : 0 ≤ p2 ∧ p2 ≤ 3999) (B3 : 0 ≤ p3 ∧ p3 ≤ 4000) (B4 : 0 ≤ p4 ∧ p4 ≤ 4000)
    (b0 : -2000 ≤ cx ∧ cx ≤ 2000) (b1 : -2000 ≤ cy ∧ cy ≤ 2000) (b2 : 1 ≤ r ∧ r ≤ 4000) (b3 : -2000 ≤ x ∧ x ≤ 2000) (b4 : -2000 ≤ y ∧ y ≤ 2000)
    (t1 : 0 ≤ t) (t2 : t ≤ 200000000)
    (T1 : ∀ w, Ret 30 #[.int .i64 (65536 * cx), .int .i64 (65536 * cy), .int .i64 0, .int .i64 (65536 * cx), .int .i64 (65536 * cy), .int .i64 (65536 * r), .int .i64 (65536 * (cx + x)), .int .i64 (65536 * (cy + y))] w (.tuple #[.int .i64 t, .bool true]))
    (T2 : ∀ w, Ret 30 #[.int .i64 0, .int .i64 0, .int .i64 0, .int .i64 0, .int .i64 0, .int .i64 (65536 * r), .int .i64 (65536 * -y), .int .i64 (65536 * x)] w (.tuple #[.int .i64 t, .bool true]))
    (m1 : 0 ≤ x * x ∧ x * x ≤ 4000000) (m2 : 0 ≤ y * y ∧ y * y ≤ 4000000) (m3 : 0 ≤ t * r ∧ t * r ≤ 800000000000) (F1 : x * x + y * y = s) (F2 : t * r = n)
    (W1 : ∀ w, Ret 34 #[.int .i64 n, .int .i64 s, .int .i64 r] w (.bool true)) :
    Ret 12 #[.int .i64 a0, .int .i64 a1, .int .i64 a2, .int .i64 a3, .int .i64 a4] w (.bool true) := by
  have HB := Aside0.mk (Below.refl w.heap.size w)
  have W : ∀ k : Int, -100000 ≤ k → k ≤ 100000 → ∀ w, Ret 31 #[.int .i64 k] w (.int .i64 (65536 * k)) := fun k h1 h2 w => c31 k _ w (by rw [w64 (by omega) (by omega)]; omega)
  go_enter Try.func12, Try.ntmps12
  go_wp2_with (first | (go_at_call 22; (with_reducible refine (K0 _).mono ?_); rintro e w1 ⟨rfl, ⟨nd, rfl⟩⟩) | (go_at_call 22; (with_reducible refine (K1 _).mono ?_); rintro e w1 ⟨rfl, ⟨nd, rfl⟩⟩) | (go_at_call 22; (with_reducible refine (K2 _).mono ?_); rintro e w1 ⟨rfl, ⟨nd, rfl⟩⟩) | (go_at_call 22; (with_reducible refine (K3 _).mono ?_); rintro e w1 ⟨rfl, ⟨nd, rfl⟩⟩) | (go_at_call 22; (with_reducible refine (K4 _).mono ?_); rintro e w1 ⟨rfl, ⟨nd, rfl⟩⟩) | (go_at_call 31; (with_reducible refine (W cx (by omega) (by omega) _).mono ?_); rintro e w1 ⟨rfl, hb⟩; have n0_ := Aside0.mk (below_step (w := w) (by repeat (first | (with_reducible first | exact HB.out | apply below_alloc | apply pw_below_drewN | apply below_drew1 | (refine below_set ?_ (by omega))) | exact HB.out)) hb); clear HB; have HB := n0_; clear n0_ hb) | (go_at_call 31; (with_reducible refine (W cy (by omega) (by omega) _).mono ?_); rintro e w1 ⟨rfl, hb⟩; have n0_ := Aside0.mk (below_step (w := w) (by repeat (first | (with_reducible first | exact HB.out | apply below_alloc | apply pw_below_drewN | apply below_drew1 | (refine below_set ?_ (by omega))) | exact HB.out)) hb); clear HB; have HB := n0_; clear n0_ hb) | (go_at_call 31; (with_reducible refine (W r (by omega) (by omega) _).mono ?_); rintro e w1 ⟨rfl, hb⟩; have n0_ := Aside0.mk (below_step (w := w) (by repeat (first | (with_reducible first | exact HB.out | apply below_alloc | apply pw_below_drewN | apply below_drew1 | (refine below_set ?_ (by omega))) | exact HB.out)) hb); clear HB; have HB := n0_; clear n0_ hb) | (go_at_call 31; (with_reducible refine (W (cx + x) (by omega) (by omega) _).mono ?_); rintro e w1 ⟨rfl, hb⟩; have n0_ := Aside0.mk (below_step (w := w) (by repeat (first | (with_reducible first | exact HB.out | apply below_alloc | apply pw_below_drewN | apply below_drew1 | (refine below_set ?_ (by omega))) | exact HB.out)) hb); clear HB; have HB := n0_; clear n0_ hb) | (go_at_call 31; (with_reducible refine (W (cy + y) (by omega) (by omega) _).mono ?_); rintro e w1 ⟨rfl, hb⟩; have n0_ := Aside0.mk (below_step (w := w) (by repeat (first | (with_reducible first | exact HB.out | apply below_alloc | apply pw_below_drewN | apply below_drew1 | (refine below_set ?_ (by omega))) | exact HB.out)) hb); clear HB; have HB := n0_; clear n0_ hb) | (go_at_call 31; (with_reducible refine (W (-y) (by omega) (by omega) _).mono ?_); rintro e w1 ⟨rfl, hb⟩; have n0_ := Aside0.mk (below_step (w := w) (by repeat (first | (with_reducible first | exact HB.out | apply below_alloc | apply pw_below_drewN | apply below_drew1 | (refine below_set ?_ (by omega))) | exact HB.out)) hb); clear HB; have HB := n0_; clear n0_ hb) | (go_at_call 31; (with_reducible refine (W x (by omega) (by omega) _).mono ?_); rintro e w1 ⟨rfl, hb⟩; have n0_ := Aside0.mk (below_step (w := w) (by repeat (first | (with_reducible first | exact HB.out | apply below_alloc | apply pw_below_drewN | apply below_drew1 | (refine below_set ?_ (by omega))) | exact HB.out)) hb); clear HB; have HB := n0_; clear n0_ hb) | (go_at_call 30; (with_reducible refine (T1 _).mono ?_); rintro e w1 ⟨rfl, hb⟩; have n0_ := Aside0.mk (below_step (w := w) (by repeat (first | (with_reducible first | exact HB.out | apply below_alloc | apply pw_below_drewN | apply below_drew1 | (refine below_set ?_ (by omega))) | exact HB.out)) hb); clear HB; have HB := n0_; clear n0_ hb) | (go_at_call 30; (with_reducible refine (T2 _).mono ?_); rintro e w1 ⟨rfl, hb⟩; have n0_ := Aside0.mk (below_step (w := w) (by repeat (first | (with_reducible first | exact HB.out | apply below_alloc | apply pw_below_drewN | apply below_drew1 | (refine below_set ?_ (by omega))) | exact HB.out)) hb); clear HB; have HB := n0_; clear n0_ hb) | (go_at_call 32; (with_reducible refine (c32 _).mono ?_); rintro e w1 ⟨rfl, hb⟩; have n0_ := Aside0.mk (below_step (w := w) (by repeat (first | (with_reducible first | exact HB.out | apply below_alloc | apply pw_below_drewN | apply below_drew1 | (refine below_set ?_ (by omega))) | exact HB.out)) hb); clear HB; have HB := n0_; clear n0_ hb) | (go_at_call 34; (with_reducible refine (W1 _).mono ?_); rintro e w1 ⟨rfl, hb⟩; have n0_ := Aside0.mk (below_step (w := w) (by repeat (first | (with_reducible first | exact HB.out | apply below_alloc | apply pw_below_drewN | apply below_drew1 | (refine below_set ?_ (by omega))) | exact HB.out)) hb); clear HB; have HB := n0_; clear n0_ hb))
  go_ret
  exact ⟨rfl, HB.out⟩
theorem walk (a0 a1 a2 a3 a4 : Int) (w : World) (_ : (Lit.int .i64 a0).wf = true) (_ : (Lit.int .i64 a1).wf = true) (_ : (Lit.int .i64 a2).wf = true) (_ : (Lit.int .i64 a3).wf = true) (_ : (Lit.int .i64 a4).wf = true) :
    Ret 12 #[.int .i64 a0, .int .i64 a1, .int .i64 a2, .int .i64 a3, .int .i64 a4] w (.bool true) := by
  have q1 : 0 ≤ a0 % 4001 ∧ a0 % 4001 ≤ 4000 := by omega
  have q2 : 0 ≤ a1 % 4001 ∧ a1 % 4001 ≤ 4000 := by omega
  have q3 : 0 ≤ a2 % 4000 ∧ a2 % 4000 ≤ 3999 := by omega
  have q4 : 0 ≤ a3 % 4001 ∧ a3 % 4001 ≤ 4000 := by omega
  have q5 : 0 ≤ a4 % 4001 ∧ a4 % 4001 ≤ 4000 := by omega
  have K0 := fun w => d22 a0 4001 w (by omega) (by omega)
  have K1 := fun w => d22 a1 4001 w (by omega) (by omega)
  have K2 := fun w => d22 a2 4000 w (by omega) (by omega)
  have K3 := fun w => d22 a3 4001 w (by omega) (by omega)
  have K4 := fun w => d22 a4 4001 w (by omega) (by omega)
  generalize a0 % 4001 = p0 at *
  generalize a1 % 4001 = p1 at *
  generalize a2 % 4000 = p2 at *
  generalize a3 % 4001 = p3 at *
  generalize a4 % 4001 = p4 at *
  obtain ⟨cx, E0⟩ : ∃ v, p0 - 2000 = v := ⟨_, rfl⟩
  obtain ⟨cy, E1⟩ : ∃ v, p1 - 2000 = v := ⟨_, rfl⟩
  obtain ⟨r, E2⟩ : ∃ v, 1 + p2 = v := ⟨_, rfl⟩
  obtain ⟨x, E3⟩ : ∃ v, p3 - 2000 = v := ⟨_, rfl⟩
  obtain ⟨y, E4⟩ : ∃ v, p4 - 2000 = v := ⟨_, rfl⟩
  have m1 := mul_bd (a := x) (b := x) (A := 2000) (B := 2000) (by omega) (by omega) (by omega) (by omega)
  have m2 := mul_bd (a := y) (b := y) (A := 2000) (B := 2000) (by omega) (by omega) (by omega) (by omega)
  have m1' := sq_pos x
  have m2' := sq_pos y
  obtain ⟨t, RT, hr, t1, t2, h0, h1, h2, h3, h4⟩ := ring (r := r) (s := x * x + y * y) (by omega) (by omega) (by omega) (by omega)
  have m3 := mul_bd (a := t) (b := r) (A := 200000000) (B := 4000) (by omega) (by omega) (by omega) (by omega)
  have m3' : 0 ≤ t * r := Int.mul_nonneg t1 (by omega)
  have W1 : ∀ w, Ret 34 #[.int .i64 (t * r), .int .i64 (x * x + y * y), .int .i64 r] w (.bool true) := fun w => c34 w (by omega) (by omega) (by omega) (within_t (by omega) (by omega) (by omega) (by omega) t1 t2 h0 h1 h2 h3 h4)
  have N : ∀ (n lo : Int), lo ≤ n → n ≤ 8191 → -8191 ≤ n → near (65536 * n) lo = n := fun n lo a b c => near_w a b c
  have Z : ∀ lo : Int, lo ≤ 0 → near 0 lo = 0 := fun lo h => by unfold near mx mn clip mx mn; omega
  have r1 : radial (65536 * cx) (65536 * cy) 0 (65536 * cx) (65536 * cy) (65536 * r) (65536 * (cx + x)) (65536 * (cy + y)) = (t, true) := by
    unfold radial
    rw [N cx _ (by omega) (by omega) (by omega), N cy _ (by omega) (by omega) (by omega), Z 0 (by omega), N r _ (by omega) (by omega) (by omega), N (cx + x) _ (by omega) (by omega) (by omega), N (cy + y) _ (by omega) (by omega) (by omega)]
    unfold radW
    rw [← hr]
    congr 1 <;> grind
  have r2 : radial 0 0 0 0 0 (65536 * r) (65536 * -y) (65536 * x) = (t, true) := by
    unfold radial
    rw [Z (-8191) (by omega), Z 0 (by omega), N r _ (by omega) (by omega) (by omega), N (-y) _ (by omega) (by omega) (by omega), N x _ (by omega) (by omega) (by omega)]
    unfold radW
    rw [← hr]
    congr 1 <;> grind
  exact rings a0 a1 a2 a3 a4 p0 p1 p2 p3 p4 cx cy r x y t _ _ w K0 K1 K2 K3 K4 E0 E1 E2 E3 E4 q1 q2 q3 q4 q5 (by omega) (by omega) (by omega) (by omega) (by omega) t1 t2
    (fun w => ret_tup r1 (c30 _ _ _ _ _ _ _ _ w)) (fun w => ret_tup r2 (c30 _ _ _ _ _ _ _ _ w)) ⟨m1', by omega⟩ ⟨m2', by omega⟩ ⟨m3', by omega⟩ rfl rfl W1

end Go.Proofs.Ytaohkdieigbccaa.WalkRadialRings
