/- PixelParts returns true at every input. -/
import Derived.Test.YtkeacdpphmdodaaPixCon
namespace Go.Proofs.Ytkeacdpphmdodaa.WalkPixelParts
open Go.RowKit Go.Proofs.YtkeacdpphmdodaaW.PrintWords Go.Proofs.YtkeacdpphmdodaaW.PrintLast Go.Proofs.YtkeacdpphmdodaaW.PrintMore Go.Proofs.Ytkeacdpphmdodaa.PPixelTells Go.Proofs.Ytkeacdpphmdodaa.M Go.Proofs.Ytkeacdpphmdodaa.PixQ Go.Proofs.Ytkeacdpphmdodaa.PixCon
attribute [local go_sem] max2_int min2_int max_two min_two max_three min_three max_four min_four
set_option linter.unusedVariables false
set_option linter.unusedSimpArgs false

set_option maxHeartbeats 4000000 in
set_option maxRecDepth 100000 in
theorem parts (x0 x1 x2 a b c p m lo hi pl ph : Int) (w : World)
    (K0 : ∀ w, Ret 14 #[.int .i64 x0, .int .i64 256] w (.int .i64 a)) (K1 : ∀ w, Ret 14 #[.int .i64 x1, .int .i64 256] w (.int .i64 b)) (K2 : ∀ w, Ret 14 #[.int .i64 x2, .int .i64 256] w (.int .i64 c))
    (P0 : ∀ w, Ret 15 #[.int .i64 a, .int .i64 b] w (.int .i64 p)) (P1 : ∀ w, Ret 15 #[.int .i64 b, .int .i64 a] w (.int .i64 p)) (P2 : ∀ w, Ret 15 #[.int .i64 a, .int .i64 255] w (.int .i64 a)) (P3 : ∀ w, Ret 15 #[.int .i64 a, .int .i64 0] w (.int .i64 0))
    (P4 : ∀ w, Ret 15 #[.int .i64 lo, .int .i64 a] w (.int .i64 pl)) (P5 : ∀ w, Ret 15 #[.int .i64 hi, .int .i64 a] w (.int .i64 ph))
    (T0 : ∀ w, Ret 18 #[px a b c 255] w (px a b c 255)) (T1 : ∀ w, Ret 17 #[px a b c 255] w (px a b c 255))
    (M0 : (if b < a then b else a) = m) (M1 : (if c < b then c else b) = lo) (M2 : (if b < c then c else b) = hi) (h0 : 0 ≤ p) (h1 : p ≤ m) (h2 : pl ≤ ph) :
    Ret 3 #[.int .i64 x0, .int .i64 x1, .int .i64 x2] w (.bool true) := by
  have HB := Aside0.mk (Below.refl w.heap.size w)
  have hE : ∀ (w : World) (x0 y0 x1 y1 x2 y2 x3 y3 : Int), (Op.equalIn 10000 25 (.agg #[.int .i64 x0, .int .i64 x1, .int .i64 x2, .int .i64 x3]) (.agg #[.int .i64 y0, .int .i64 y1, .int .i64 y2, .int .i64 y3])).run Try.prog w = .ok (x0 == y0 && (x1 == y1 && (x2 == y2 && (x3 == y3)))) w := fun w x0 y0 x1 y1 x2 y2 x3 y3 => eqA25 9998 w x0 y0 x1 y1 x2 y2 x3 y3
  go_enter Try.func3, Try.ntmps3
  go_wp2_with (first | (go_at_call 14; (with_reducible refine (K0 _).mono ?_); rintro e w1 ⟨rfl, hb⟩; have n0_ := Aside0.mk (below_step (w := w) (by repeat (first | (with_reducible first | exact HB.out | apply below_alloc | apply pw_below_drewN | apply below_drew1 | (refine below_set ?_ (by omega))) | exact HB.out)) hb); clear HB; have HB := n0_; clear n0_ hb) | (go_at_call 14; (with_reducible refine (K1 _).mono ?_); rintro e w1 ⟨rfl, hb⟩; have n0_ := Aside0.mk (below_step (w := w) (by repeat (first | (with_reducible first | exact HB.out | apply below_alloc | apply pw_below_drewN | apply below_drew1 | (refine below_set ?_ (by omega))) | exact HB.out)) hb); clear HB; have HB := n0_; clear n0_ hb) | (go_at_call 14; (with_reducible refine (K2 _).mono ?_); rintro e w1 ⟨rfl, hb⟩; have n0_ := Aside0.mk (below_step (w := w) (by repeat (first | (with_reducible first | exact HB.out | apply below_alloc | apply pw_below_drewN | apply below_drew1 | (refine below_set ?_ (by omega))) | exact HB.out)) hb); clear HB; have HB := n0_; clear n0_ hb) | (go_at_call 16; (with_reducible refine (c16 _).mono ?_); rintro e w1 ⟨rfl, hb⟩; have n0_ := Aside0.mk (below_step (w := w) (by repeat (first | (with_reducible first | exact HB.out | apply below_alloc | apply pw_below_drewN | apply below_drew1 | (refine below_set ?_ (by omega))) | exact HB.out)) hb); clear HB; have HB := n0_; clear n0_ hb) | (go_at_call 15; (with_reducible refine (P0 _).mono ?_); rintro e w1 ⟨rfl, hb⟩; have n0_ := Aside0.mk (below_step (w := w) (by repeat (first | (with_reducible first | exact HB.out | apply below_alloc | apply pw_below_drewN | apply below_drew1 | (refine below_set ?_ (by omega))) | exact HB.out)) hb); clear HB; have HB := n0_; clear n0_ hb) | (go_at_call 15; (with_reducible refine (P1 _).mono ?_); rintro e w1 ⟨rfl, hb⟩; have n0_ := Aside0.mk (below_step (w := w) (by repeat (first | (with_reducible first | exact HB.out | apply below_alloc | apply pw_below_drewN | apply below_drew1 | (refine below_set ?_ (by omega))) | exact HB.out)) hb); clear HB; have HB := n0_; clear n0_ hb) | (go_at_call 15; (with_reducible refine (P2 _).mono ?_); rintro e w1 ⟨rfl, hb⟩; have n0_ := Aside0.mk (below_step (w := w) (by repeat (first | (with_reducible first | exact HB.out | apply below_alloc | apply pw_below_drewN | apply below_drew1 | (refine below_set ?_ (by omega))) | exact HB.out)) hb); clear HB; have HB := n0_; clear n0_ hb) | (go_at_call 15; (with_reducible refine (P3 _).mono ?_); rintro e w1 ⟨rfl, hb⟩; have n0_ := Aside0.mk (below_step (w := w) (by repeat (first | (with_reducible first | exact HB.out | apply below_alloc | apply pw_below_drewN | apply below_drew1 | (refine below_set ?_ (by omega))) | exact HB.out)) hb); clear HB; have HB := n0_; clear n0_ hb) | (go_at_call 15; (with_reducible refine (P4 _).mono ?_); rintro e w1 ⟨rfl, hb⟩; have n0_ := Aside0.mk (below_step (w := w) (by repeat (first | (with_reducible first | exact HB.out | apply below_alloc | apply pw_below_drewN | apply below_drew1 | (refine below_set ?_ (by omega))) | exact HB.out)) hb); clear HB; have HB := n0_; clear n0_ hb) | (go_at_call 15; (with_reducible refine (P5 _).mono ?_); rintro e w1 ⟨rfl, hb⟩; have n0_ := Aside0.mk (below_step (w := w) (by repeat (first | (with_reducible first | exact HB.out | apply below_alloc | apply pw_below_drewN | apply below_drew1 | (refine below_set ?_ (by omega))) | exact HB.out)) hb); clear HB; have HB := n0_; clear n0_ hb) | (go_at_call 18; (with_reducible refine (T0 _).mono ?_); rintro e w1 ⟨rfl, hb⟩; have n0_ := Aside0.mk (below_step (w := w) (by repeat (first | (with_reducible first | exact HB.out | apply below_alloc | apply pw_below_drewN | apply below_drew1 | (refine below_set ?_ (by omega))) | exact HB.out)) hb); clear HB; have HB := n0_; clear n0_ hb) | (go_at_call 17; (with_reducible refine (T1 _).mono ?_); rintro e w1 ⟨rfl, hb⟩; have n0_ := Aside0.mk (below_step (w := w) (by repeat (first | (with_reducible first | exact HB.out | apply below_alloc | apply pw_below_drewN | apply below_drew1 | (refine below_set ?_ (by omega))) | exact HB.out)) hb); clear HB; have HB := n0_; clear n0_ hb))
  go_ret
  exact ⟨rfl, HB.out⟩
theorem walk (a0 a1 a2 : Int) (w : World) (_ : (Lit.int .i64 a0).wf = true) (_ : (Lit.int .i64 a1).wf = true) (_ : (Lit.int .i64 a2).wf = true) : Ret 3 #[.int .i64 a0, .int .i64 a1, .int .i64 a2] w (.bool true) := by
  have q0 : 0 ≤ a0 % 256 ∧ a0 % 256 ≤ 255 := by omega
  have q1 : 0 ≤ a1 % 256 ∧ a1 % 256 ≤ 255 := by omega
  have q2 : 0 ≤ a2 % 256 ∧ a2 % 256 ≤ 255 := by omega
  have K0 := fun w => c14 a0 256 w (by omega) (by omega)
  have K1 := fun w => c14 a1 256 w (by omega) (by omega)
  have K2 := fun w => c14 a2 256 w (by omega) (by omega)
  generalize a0 % 256 = a at *
  generalize a1 % 256 = b at *
  generalize a2 % 256 = c at *
  have t : tk a b c 255 = (a, b, c, 255) := by unfold tk; rw [if_pos (right_iff.2 ⟨q0, q1, q2, by omega⟩)]
  have e1 : pre a b c 255 = (a, b, c, 255) := by unfold pre; rw [t]; simp only [part_full q0.1 q0.2, part_full q1.1 q1.2, part_full q2.1 q2.2]
  have bf : ∀ n : Int, 0 ≤ n → n ≤ 255 → bare n 255 = n := fun n h h' => by unfold bare mn; omega
  have e2 : bar a b c 255 = (a, b, c, 255) := by unfold bar; rw [t]; simp [bf a q0.1 q0.2, bf b q1.1 q1.2, bf c q2.1 q2.2]
  have T0 : ∀ w, Ret 18 #[px a b c 255] w (px a b c 255) := fun w => by have h := c18 a b c 255 w; rw [e1] at h; exact h
  have T1 : ∀ w, Ret 17 #[px a b c 255] w (px a b c 255) := fun w => by have h := c17bar a b c 255 w; rw [e2] at h; exact h
  have l1 := part_le (b := b) q0.1 q0.2
  have l2 := part_le (b := a) q1.1 q1.2
  rw [part_comm b a] at l2
  refine parts a0 a1 a2 a b c _ _ _ _ _ _ w K0 K1 K2 (fun w => c15 a b w) (fun w => ret_of (part_comm b a) (c15 b a w)) (fun w => ret_of (part_full q0.1 q0.2) (c15 a 255 w)) (fun w => ret_of (part_nil a) (c15 a 0 w)) (fun w => c15 _ a w) (fun w => c15 _ a w) T0 T1 rfl rfl rfl (part_bd a b).1 ?_ ?_
  · split <;> omega
  · apply part_mono; split <;> split <;> omega

end Go.Proofs.Ytkeacdpphmdodaa.WalkPixelParts
