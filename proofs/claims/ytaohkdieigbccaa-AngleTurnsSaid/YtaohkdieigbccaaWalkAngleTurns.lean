/- AngleTurns returns true at every input. -/
import Derived.Test.YtaohkdieigbccaaAngCon
namespace Go.Proofs.Ytaohkdieigbccaa.WalkAngleTurns
open Go.RowKit Go.Proofs.YtaohkdieigbccaaW.PrintWords Go.Proofs.YtaohkdieigbccaaW.PrintLast Go.Proofs.YtaohkdieigbccaaW.PrintMore Go.Proofs.Ytaohkdieigbccaa.PAngleTells Go.Proofs.Ytaohkdieigbccaa.M Go.Proofs.Ytaohkdieigbccaa.AngCon
attribute [local go_sem] max2_int min2_int max_two min_two max_three min_three max_four min_four
set_option linter.unusedVariables false
set_option linter.unusedSimpArgs false

set_option maxHeartbeats 4000000 in
set_option maxRecDepth 100000 in
theorem turns_up (a m s n c : Int) (w : World) (hm : a.tmod 1099511627776 = m) (m1 : -1099511627776 < m) (m2 : m < 1099511627776) (n1 : 0 ≤ n) (n2 : n < 65536) (s1 : -65536 ≤ s) (s2 : s ≤ 65536)
    (hz : (m - n).tmod 65536 = 0) (e0 : Aside0 (sin m = s)) (e1 : Aside0 (m % 65536 = n)) (e2 : Aside0 (cos m = c)) (h1 : 0 < s) (h2 : 0 < n) (h3 : n < 32768) : Ret 3 #[.int .i64 a] w (.bool true) := by
  have HB := Aside0.mk (Below.refl w.heap.size w)
  have k0 := fun w => Aside0.mk (ret_of e0.out (c14 m w))
  have k1 := fun w => Aside0.mk (ret_of (b := -s) (by rw [sin_half, e0.out]) (c14 (m + 32768) w))
  have k2 := fun w => Aside0.mk (ret_of (b := s) (by rw [← e0.out]; exact sin_of (by omega)) (c14 (m + 65536) w))
  have k3 := fun w => Aside0.mk (ret_of (b := s) (by rw [sin_round, e0.out]) (c14 (32768 - m) w))
  have k4 := fun w => Aside0.mk (ret_of (b := -s) (by rw [sin_neg, e0.out]) (c14 (-m) w))
  have k5 := fun w => Aside0.mk (ret_of (b := c) (by rw [← e2.out, cos_eq, ← sin_round, show 32768 - (-m + 16384) = m + 16384 by omega, ← cos_eq]) (c17 (-m) w))
  have k6 := fun w => Aside0.mk (ret_of e2.out (c17 m w))
  have k7 := fun w => Aside0.mk (ret_of (b := c) (by rw [← e2.out, cos_eq]) (c14 (m + 16384) w))
  have k8 := fun w => Aside0.mk (ret_of e1.out (c15 m w))
  go_enter Try.func3, Try.ntmps3
  go_wp2_with (first | (go_at_call 16; (with_reducible refine (c16 _).mono ?_); rintro e w1 ⟨rfl, hb⟩; have n0_ := Aside0.mk (below_step (w := w) (by repeat (first | (with_reducible first | exact HB.out | apply below_alloc | apply pw_below_drewN | apply below_drew1 | (refine below_set ?_ (by omega))) | exact HB.out)) hb); clear HB; have HB := n0_; clear n0_ hb) | (go_at_call 15; (with_reducible refine ((k8 _).out).mono ?_); rintro e w1 ⟨rfl, hb⟩; have n0_ := Aside0.mk (below_step (w := w) (by repeat (first | (with_reducible first | exact HB.out | apply below_alloc | apply pw_below_drewN | apply below_drew1 | (refine below_set ?_ (by omega))) | exact HB.out)) hb); clear HB; have HB := n0_; clear n0_ hb) | (go_at_call 14; (with_reducible refine ((k0 _).out).mono ?_); rintro e w1 ⟨rfl, hb⟩; have n0_ := Aside0.mk (below_step (w := w) (by repeat (first | (with_reducible first | exact HB.out | apply below_alloc | apply pw_below_drewN | apply below_drew1 | (refine below_set ?_ (by omega))) | exact HB.out)) hb); clear HB; have HB := n0_; clear n0_ hb) | (go_at_call 14; (with_reducible refine ((k1 _).out).mono ?_); rintro e w1 ⟨rfl, hb⟩; have n0_ := Aside0.mk (below_step (w := w) (by repeat (first | (with_reducible first | exact HB.out | apply below_alloc | apply pw_below_drewN | apply below_drew1 | (refine below_set ?_ (by omega))) | exact HB.out)) hb); clear HB; have HB := n0_; clear n0_ hb) | (go_at_call 14; (with_reducible refine ((k2 _).out).mono ?_); rintro e w1 ⟨rfl, hb⟩; have n0_ := Aside0.mk (below_step (w := w) (by repeat (first | (with_reducible first | exact HB.out | apply below_alloc | apply pw_below_drewN | apply below_drew1 | (refine below_set ?_ (by omega))) | exact HB.out)) hb); clear HB; have HB := n0_; clear n0_ hb) | (go_at_call 14; (with_reducible refine ((k3 _).out).mono ?_); rintro e w1 ⟨rfl, hb⟩; have n0_ := Aside0.mk (below_step (w := w) (by repeat (first | (with_reducible first | exact HB.out | apply below_alloc | apply pw_below_drewN | apply below_drew1 | (refine below_set ?_ (by omega))) | exact HB.out)) hb); clear HB; have HB := n0_; clear n0_ hb) | (go_at_call 14; (with_reducible refine ((k4 _).out).mono ?_); rintro e w1 ⟨rfl, hb⟩; have n0_ := Aside0.mk (below_step (w := w) (by repeat (first | (with_reducible first | exact HB.out | apply below_alloc | apply pw_below_drewN | apply below_drew1 | (refine below_set ?_ (by omega))) | exact HB.out)) hb); clear HB; have HB := n0_; clear n0_ hb) | (go_at_call 14; (with_reducible refine ((k7 _).out).mono ?_); rintro e w1 ⟨rfl, hb⟩; have n0_ := Aside0.mk (below_step (w := w) (by repeat (first | (with_reducible first | exact HB.out | apply below_alloc | apply pw_below_drewN | apply below_drew1 | (refine below_set ?_ (by omega))) | exact HB.out)) hb); clear HB; have HB := n0_; clear n0_ hb) | (go_at_call 17; (with_reducible refine ((k5 _).out).mono ?_); rintro e w1 ⟨rfl, hb⟩; have n0_ := Aside0.mk (below_step (w := w) (by repeat (first | (with_reducible first | exact HB.out | apply below_alloc | apply pw_below_drewN | apply below_drew1 | (refine below_set ?_ (by omega))) | exact HB.out)) hb); clear HB; have HB := n0_; clear n0_ hb) | (go_at_call 17; (with_reducible refine ((k6 _).out).mono ?_); rintro e w1 ⟨rfl, hb⟩; have n0_ := Aside0.mk (below_step (w := w) (by repeat (first | (with_reducible first | exact HB.out | apply below_alloc | apply pw_below_drewN | apply below_drew1 | (refine below_set ?_ (by omega))) | exact HB.out)) hb); clear HB; have HB := n0_; clear n0_ hb))
  go_ret
  exact ⟨rfl, HB.out⟩
set_option maxHeartbeats 4000000 in
set_option maxRecDepth 100000 in
theorem turns_nil (a m s n c : Int) (w : World) (hm : a.tmod 1099511627776 = m) (m1 : -1099511627776 < m) (m2 : m < 1099511627776) (n1 : 0 ≤ n) (n2 : n < 65536) (s1 : -65536 ≤ s) (s2 : s ≤ 65536)
    (hz : (m - n).tmod 65536 = 0) (e0 : Aside0 (sin m = s)) (e1 : Aside0 (m % 65536 = n)) (e2 : Aside0 (cos m = c)) (h1 : s ≤ 0) (h2 : n ≤ 0) : Ret 3 #[.int .i64 a] w (.bool true) := by
  have HB := Aside0.mk (Below.refl w.heap.size w)
  have k0 := fun w => Aside0.mk (ret_of e0.out (c14 m w))
  have k1 := fun w => Aside0.mk (ret_of (b := -s) (by rw [sin_half, e0.out]) (c14 (m + 32768) w))
  have k2 := fun w => Aside0.mk (ret_of (b := s) (by rw [← e0.out]; exact sin_of (by omega)) (c14 (m + 65536) w))
  have k3 := fun w => Aside0.mk (ret_of (b := s) (by rw [sin_round, e0.out]) (c14 (32768 - m) w))
  have k4 := fun w => Aside0.mk (ret_of (b := -s) (by rw [sin_neg, e0.out]) (c14 (-m) w))
  have k5 := fun w => Aside0.mk (ret_of (b := c) (by rw [← e2.out, cos_eq, ← sin_round, show 32768 - (-m + 16384) = m + 16384 by omega, ← cos_eq]) (c17 (-m) w))
  have k6 := fun w => Aside0.mk (ret_of e2.out (c17 m w))
  have k7 := fun w => Aside0.mk (ret_of (b := c) (by rw [← e2.out, cos_eq]) (c14 (m + 16384) w))
  have k8 := fun w => Aside0.mk (ret_of e1.out (c15 m w))
  go_enter Try.func3, Try.ntmps3
  go_wp2_with (first | (go_at_call 16; (with_reducible refine (c16 _).mono ?_); rintro e w1 ⟨rfl, hb⟩; have n0_ := Aside0.mk (below_step (w := w) (by repeat (first | (with_reducible first | exact HB.out | apply below_alloc | apply pw_below_drewN | apply below_drew1 | (refine below_set ?_ (by omega))) | exact HB.out)) hb); clear HB; have HB := n0_; clear n0_ hb) | (go_at_call 15; (with_reducible refine ((k8 _).out).mono ?_); rintro e w1 ⟨rfl, hb⟩; have n0_ := Aside0.mk (below_step (w := w) (by repeat (first | (with_reducible first | exact HB.out | apply below_alloc | apply pw_below_drewN | apply below_drew1 | (refine below_set ?_ (by omega))) | exact HB.out)) hb); clear HB; have HB := n0_; clear n0_ hb) | (go_at_call 14; (with_reducible refine ((k0 _).out).mono ?_); rintro e w1 ⟨rfl, hb⟩; have n0_ := Aside0.mk (below_step (w := w) (by repeat (first | (with_reducible first | exact HB.out | apply below_alloc | apply pw_below_drewN | apply below_drew1 | (refine below_set ?_ (by omega))) | exact HB.out)) hb); clear HB; have HB := n0_; clear n0_ hb) | (go_at_call 14; (with_reducible refine ((k1 _).out).mono ?_); rintro e w1 ⟨rfl, hb⟩; have n0_ := Aside0.mk (below_step (w := w) (by repeat (first | (with_reducible first | exact HB.out | apply below_alloc | apply pw_below_drewN | apply below_drew1 | (refine below_set ?_ (by omega))) | exact HB.out)) hb); clear HB; have HB := n0_; clear n0_ hb) | (go_at_call 14; (with_reducible refine ((k2 _).out).mono ?_); rintro e w1 ⟨rfl, hb⟩; have n0_ := Aside0.mk (below_step (w := w) (by repeat (first | (with_reducible first | exact HB.out | apply below_alloc | apply pw_below_drewN | apply below_drew1 | (refine below_set ?_ (by omega))) | exact HB.out)) hb); clear HB; have HB := n0_; clear n0_ hb) | (go_at_call 14; (with_reducible refine ((k3 _).out).mono ?_); rintro e w1 ⟨rfl, hb⟩; have n0_ := Aside0.mk (below_step (w := w) (by repeat (first | (with_reducible first | exact HB.out | apply below_alloc | apply pw_below_drewN | apply below_drew1 | (refine below_set ?_ (by omega))) | exact HB.out)) hb); clear HB; have HB := n0_; clear n0_ hb) | (go_at_call 14; (with_reducible refine ((k4 _).out).mono ?_); rintro e w1 ⟨rfl, hb⟩; have n0_ := Aside0.mk (below_step (w := w) (by repeat (first | (with_reducible first | exact HB.out | apply below_alloc | apply pw_below_drewN | apply below_drew1 | (refine below_set ?_ (by omega))) | exact HB.out)) hb); clear HB; have HB := n0_; clear n0_ hb) | (go_at_call 14; (with_reducible refine ((k7 _).out).mono ?_); rintro e w1 ⟨rfl, hb⟩; have n0_ := Aside0.mk (below_step (w := w) (by repeat (first | (with_reducible first | exact HB.out | apply below_alloc | apply pw_below_drewN | apply below_drew1 | (refine below_set ?_ (by omega))) | exact HB.out)) hb); clear HB; have HB := n0_; clear n0_ hb) | (go_at_call 17; (with_reducible refine ((k5 _).out).mono ?_); rintro e w1 ⟨rfl, hb⟩; have n0_ := Aside0.mk (below_step (w := w) (by repeat (first | (with_reducible first | exact HB.out | apply below_alloc | apply pw_below_drewN | apply below_drew1 | (refine below_set ?_ (by omega))) | exact HB.out)) hb); clear HB; have HB := n0_; clear n0_ hb) | (go_at_call 17; (with_reducible refine ((k6 _).out).mono ?_); rintro e w1 ⟨rfl, hb⟩; have n0_ := Aside0.mk (below_step (w := w) (by repeat (first | (with_reducible first | exact HB.out | apply below_alloc | apply pw_below_drewN | apply below_drew1 | (refine below_set ?_ (by omega))) | exact HB.out)) hb); clear HB; have HB := n0_; clear n0_ hb))
  go_ret
  refine ⟨?_, HB.out⟩
  have d1 : decide (0 < s) = false := decide_eq_false (by omega)
  simp [d1]
set_option maxHeartbeats 4000000 in
set_option maxRecDepth 100000 in
theorem turns_down (a m s n c : Int) (w : World) (hm : a.tmod 1099511627776 = m) (m1 : -1099511627776 < m) (m2 : m < 1099511627776) (n1 : 0 ≤ n) (n2 : n < 65536) (s1 : -65536 ≤ s) (s2 : s ≤ 65536)
    (hz : (m - n).tmod 65536 = 0) (e0 : Aside0 (sin m = s)) (e1 : Aside0 (m % 65536 = n)) (e2 : Aside0 (cos m = c)) (h1 : s ≤ 0) (h2 : 0 < n) (h3 : 32768 ≤ n) : Ret 3 #[.int .i64 a] w (.bool true) := by
  have HB := Aside0.mk (Below.refl w.heap.size w)
  have k0 := fun w => Aside0.mk (ret_of e0.out (c14 m w))
  have k1 := fun w => Aside0.mk (ret_of (b := -s) (by rw [sin_half, e0.out]) (c14 (m + 32768) w))
  have k2 := fun w => Aside0.mk (ret_of (b := s) (by rw [← e0.out]; exact sin_of (by omega)) (c14 (m + 65536) w))
  have k3 := fun w => Aside0.mk (ret_of (b := s) (by rw [sin_round, e0.out]) (c14 (32768 - m) w))
  have k4 := fun w => Aside0.mk (ret_of (b := -s) (by rw [sin_neg, e0.out]) (c14 (-m) w))
  have k5 := fun w => Aside0.mk (ret_of (b := c) (by rw [← e2.out, cos_eq, ← sin_round, show 32768 - (-m + 16384) = m + 16384 by omega, ← cos_eq]) (c17 (-m) w))
  have k6 := fun w => Aside0.mk (ret_of e2.out (c17 m w))
  have k7 := fun w => Aside0.mk (ret_of (b := c) (by rw [← e2.out, cos_eq]) (c14 (m + 16384) w))
  have k8 := fun w => Aside0.mk (ret_of e1.out (c15 m w))
  go_enter Try.func3, Try.ntmps3
  go_wp2_with (first | (go_at_call 16; (with_reducible refine (c16 _).mono ?_); rintro e w1 ⟨rfl, hb⟩; have n0_ := Aside0.mk (below_step (w := w) (by repeat (first | (with_reducible first | exact HB.out | apply below_alloc | apply pw_below_drewN | apply below_drew1 | (refine below_set ?_ (by omega))) | exact HB.out)) hb); clear HB; have HB := n0_; clear n0_ hb) | (go_at_call 15; (with_reducible refine ((k8 _).out).mono ?_); rintro e w1 ⟨rfl, hb⟩; have n0_ := Aside0.mk (below_step (w := w) (by repeat (first | (with_reducible first | exact HB.out | apply below_alloc | apply pw_below_drewN | apply below_drew1 | (refine below_set ?_ (by omega))) | exact HB.out)) hb); clear HB; have HB := n0_; clear n0_ hb) | (go_at_call 14; (with_reducible refine ((k0 _).out).mono ?_); rintro e w1 ⟨rfl, hb⟩; have n0_ := Aside0.mk (below_step (w := w) (by repeat (first | (with_reducible first | exact HB.out | apply below_alloc | apply pw_below_drewN | apply below_drew1 | (refine below_set ?_ (by omega))) | exact HB.out)) hb); clear HB; have HB := n0_; clear n0_ hb) | (go_at_call 14; (with_reducible refine ((k1 _).out).mono ?_); rintro e w1 ⟨rfl, hb⟩; have n0_ := Aside0.mk (below_step (w := w) (by repeat (first | (with_reducible first | exact HB.out | apply below_alloc | apply pw_below_drewN | apply below_drew1 | (refine below_set ?_ (by omega))) | exact HB.out)) hb); clear HB; have HB := n0_; clear n0_ hb) | (go_at_call 14; (with_reducible refine ((k2 _).out).mono ?_); rintro e w1 ⟨rfl, hb⟩; have n0_ := Aside0.mk (below_step (w := w) (by repeat (first | (with_reducible first | exact HB.out | apply below_alloc | apply pw_below_drewN | apply below_drew1 | (refine below_set ?_ (by omega))) | exact HB.out)) hb); clear HB; have HB := n0_; clear n0_ hb) | (go_at_call 14; (with_reducible refine ((k3 _).out).mono ?_); rintro e w1 ⟨rfl, hb⟩; have n0_ := Aside0.mk (below_step (w := w) (by repeat (first | (with_reducible first | exact HB.out | apply below_alloc | apply pw_below_drewN | apply below_drew1 | (refine below_set ?_ (by omega))) | exact HB.out)) hb); clear HB; have HB := n0_; clear n0_ hb) | (go_at_call 14; (with_reducible refine ((k4 _).out).mono ?_); rintro e w1 ⟨rfl, hb⟩; have n0_ := Aside0.mk (below_step (w := w) (by repeat (first | (with_reducible first | exact HB.out | apply below_alloc | apply pw_below_drewN | apply below_drew1 | (refine below_set ?_ (by omega))) | exact HB.out)) hb); clear HB; have HB := n0_; clear n0_ hb) | (go_at_call 14; (with_reducible refine ((k7 _).out).mono ?_); rintro e w1 ⟨rfl, hb⟩; have n0_ := Aside0.mk (below_step (w := w) (by repeat (first | (with_reducible first | exact HB.out | apply below_alloc | apply pw_below_drewN | apply below_drew1 | (refine below_set ?_ (by omega))) | exact HB.out)) hb); clear HB; have HB := n0_; clear n0_ hb) | (go_at_call 17; (with_reducible refine ((k5 _).out).mono ?_); rintro e w1 ⟨rfl, hb⟩; have n0_ := Aside0.mk (below_step (w := w) (by repeat (first | (with_reducible first | exact HB.out | apply below_alloc | apply pw_below_drewN | apply below_drew1 | (refine below_set ?_ (by omega))) | exact HB.out)) hb); clear HB; have HB := n0_; clear n0_ hb) | (go_at_call 17; (with_reducible refine ((k6 _).out).mono ?_); rintro e w1 ⟨rfl, hb⟩; have n0_ := Aside0.mk (below_step (w := w) (by repeat (first | (with_reducible first | exact HB.out | apply below_alloc | apply pw_below_drewN | apply below_drew1 | (refine below_set ?_ (by omega))) | exact HB.out)) hb); clear HB; have HB := n0_; clear n0_ hb))
  go_ret
  refine ⟨?_, HB.out⟩
  have d1 : decide (0 < s) = false := decide_eq_false (by omega)
  have d2 : decide (n < 32768) = false := decide_eq_false (by omega)
  simp [d1, d2]
theorem walk (a0 : Int) (w : World) (_ : (Lit.int .i64 a0).wf = true) : Ret 3 #[.int .i64 a0] w (.bool true) := by
  have m1 := Int.lt_tmod_of_pos a0 (show (0 : Int) < 1099511627776 by omega)
  have m2 := Int.tmod_lt_of_pos a0 (show (0 : Int) < 1099511627776 by omega)
  have sb := sin_bd (a0.tmod 1099511627776)
  have sp := sin_pos (a0.tmod 1099511627776)
  have hz : (a0.tmod 1099511627776 - a0.tmod 1099511627776 % 65536).tmod 65536 = 0 := by
    rw [show a0.tmod 1099511627776 - a0.tmod 1099511627776 % 65536 = (a0.tmod 1099511627776 / 65536) * 65536 by omega]
    exact Int.mul_tmod_left _ _
  have n0 : 0 ≤ a0.tmod 1099511627776 % 65536 ∧ a0.tmod 1099511627776 % 65536 < 65536 := by omega
  by_cases h1 : 0 < sin (a0.tmod 1099511627776)
  · have := sp.1 h1
    exact turns_up a0 _ _ _ _ w rfl m1 m2 n0.1 n0.2 sb.1 sb.2 hz ⟨rfl⟩ ⟨rfl⟩ ⟨rfl⟩ h1 this.1 this.2
  · by_cases h2 : 0 < a0.tmod 1099511627776 % 65536
    · exact turns_down a0 _ _ _ _ w rfl m1 m2 n0.1 n0.2 sb.1 sb.2 hz ⟨rfl⟩ ⟨rfl⟩ ⟨rfl⟩ (by omega) h2 (by
        by_cases h3 : a0.tmod 1099511627776 % 65536 < 32768
        · exact (h1 (sp.2 ⟨h2, h3⟩)).elim
        · omega)
    · exact turns_nil a0 _ _ _ _ w rfl m1 m2 n0.1 n0.2 sb.1 sb.2 hz ⟨rfl⟩ ⟨rfl⟩ ⟨rfl⟩ (by omega) (by omega)

end Go.Proofs.Ytaohkdieigbccaa.WalkAngleTurns
