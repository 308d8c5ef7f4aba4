/- LinearTells returns true at every input. -/
import Derived.Test.YtkeacdpphmdodaaLinCon
namespace Go.Proofs.Ytkeacdpphmdodaa.WalkLinearTells
open Go.RowKit Go.Proofs.YtkeacdpphmdodaaW.PrintWords Go.Proofs.YtkeacdpphmdodaaW.PrintLast Go.Proofs.YtkeacdpphmdodaaW.PrintMore Go.Proofs.Ytkeacdpphmdodaa.PLinearTells Go.Proofs.Ytkeacdpphmdodaa.M Go.Proofs.Ytkeacdpphmdodaa.LinCon
attribute [local go_sem] max2_int min2_int max_two min_two max_three min_three max_four min_four
set_option linter.unusedVariables false
set_option linter.unusedSimpArgs false

theorem bcell {W w1 : World} (hb : Below W.heap.size W w1) : (∀ b o, b < W.heap.size → w1.cell? ⟨b, o, none⟩ = W.cell? ⟨b, o, none⟩) ∧ (∀ b o, b < W.heap.size → w1.frozen? ⟨b, o, none⟩ = W.frozen? ⟨b, o, none⟩) :=
  ⟨fun b o h => hb.cell (p := ⟨b, o, none⟩) h, fun b o h => hb.frozen (p := ⟨b, o, none⟩) h⟩
set_option maxHeartbeats 4000000 in
set_option maxRecDepth 100000 in
theorem tells_raw (x0 x1 x2 x3 x4 x5 x6 x7 : Int) (w : World) : Ret 5 #[.agg #[.int .i64 x0, .int .i64 x1, .int .i64 x2, .int .i64 x3, .int .i64 x4, .int .i64 x5, .int .i64 x6, .int .i64 x7], .bool true] w (.bool true) := by
  have HB := Aside0.mk (Below.refl w.heap.size w)
  go_enter Try.func5, Try.ntmps5
  go_wp2_with (first | (go_at_call 21; (with_reducible refine (c21 _).mono ?_); rintro e w1 ⟨rfl, hb⟩; have n0_ := Aside0.mk (below_step (w := w) (by repeat (first | (with_reducible first | exact HB.out | apply below_alloc | apply pw_below_drewN | apply below_drew1 | (refine below_set ?_ (by omega))) | exact HB.out)) hb); clear HB; have HB := n0_; clear n0_ hb) | (go_at_call 19; (with_reducible refine (c19 _ _ _ _ _ _ _ _ _).mono ?_); rintro e w1 ⟨rfl, hb⟩; obtain ⟨hc, hf⟩ := bcell hb; have n0_ := Aside0.mk (below_step (w := w) (by repeat (first | (with_reducible first | exact HB.out | apply below_alloc | apply pw_below_drewN | apply below_drew1 | (refine below_set ?_ (by omega))) | exact HB.out)) hb); clear HB; have HB := n0_; clear n0_ hb) | (go_at_call 23; (with_reducible refine (c23 _ _ _ _ _ _ _ _ _).mono ?_); rintro e w1 ⟨rfl, hb⟩; have n0_ := Aside0.mk (below_step (w := w) (by repeat (first | (with_reducible first | exact HB.out | apply below_alloc | apply pw_below_drewN | apply below_drew1 | (refine below_set ?_ (by omega))) | exact HB.out)) hb); clear HB; have HB := n0_; clear n0_ hb))
  go_ret
  exact ⟨rfl, HB.out⟩
set_option maxHeartbeats 8000000 in
set_option maxRecDepth 100000 in
theorem tells_num (x0 x1 x2 x3 x4 x5 x6 x7 v0 v1 v2 v3 v4 v5 v6 v7 : Int) (w : World) (h0 : Aside0 (versalhand_Num.f x0 = some v0)) (h1 : Aside0 (versalhand_Num.f x1 = some v1)) (h2 : Aside0 (versalhand_Num.f x2 = some v2)) (h3 : Aside0 (versalhand_Num.f x3 = some v3)) (h4 : Aside0 (versalhand_Num.f x4 = some v4)) (h5 : Aside0 (versalhand_Num.f x5 = some v5)) (h6 : Aside0 (versalhand_Num.f x6 = some v6)) (h7 : Aside0 (versalhand_Num.f x7 = some v7)) : Ret 5 #[.agg #[.int .i64 x0, .int .i64 x1, .int .i64 x2, .int .i64 x3, .int .i64 x4, .int .i64 x5, .int .i64 x6, .int .i64 x7], .bool false] w (.bool true) := by
  have HB := Aside0.mk (Below.refl w.heap.size w)
  go_enter Try.func5, Try.ntmps5
  go_wp2
  refine wp_loop_rounds 9 ?_
  rw [rounds_succ]
  go_wp2_with (go_at_call 22; (with_reducible refine (c22 x0 v0 _ h0.out).mono ?_); rintro e w1 ⟨rfl, ⟨nd, rfl⟩⟩)
  rw [rounds_succ]
  go_wp2_with (go_at_call 22; (with_reducible refine (c22 x1 v1 _ h1.out).mono ?_); rintro e w1 ⟨rfl, ⟨nd, rfl⟩⟩)
  rw [rounds_succ]
  go_wp2_with (go_at_call 22; (with_reducible refine (c22 x2 v2 _ h2.out).mono ?_); rintro e w1 ⟨rfl, ⟨nd, rfl⟩⟩)
  rw [rounds_succ]
  go_wp2_with (go_at_call 22; (with_reducible refine (c22 x3 v3 _ h3.out).mono ?_); rintro e w1 ⟨rfl, ⟨nd, rfl⟩⟩)
  rw [rounds_succ]
  go_wp2_with (go_at_call 22; (with_reducible refine (c22 x4 v4 _ h4.out).mono ?_); rintro e w1 ⟨rfl, ⟨nd, rfl⟩⟩)
  rw [rounds_succ]
  go_wp2_with (go_at_call 22; (with_reducible refine (c22 x5 v5 _ h5.out).mono ?_); rintro e w1 ⟨rfl, ⟨nd, rfl⟩⟩)
  rw [rounds_succ]
  go_wp2_with (go_at_call 22; (with_reducible refine (c22 x6 v6 _ h6.out).mono ?_); rintro e w1 ⟨rfl, ⟨nd, rfl⟩⟩)
  rw [rounds_succ]
  go_wp2_with (go_at_call 22; (with_reducible refine (c22 x7 v7 _ h7.out).mono ?_); rintro e w1 ⟨rfl, ⟨nd, rfl⟩⟩)
  rw [rounds_succ]
  go_wp2_with (first | (go_at_call 21; (with_reducible refine (c21 _).mono ?_); rintro e w1 ⟨rfl, hb⟩; have n0_ := Aside0.mk (below_step (w := w) (by repeat (first | (with_reducible first | exact HB.out | apply below_alloc | apply pw_below_drewN | apply below_drew1 | (refine below_set ?_ (by omega))) | exact HB.out)) hb); clear HB; have HB := n0_; clear n0_ hb) | (go_at_call 19; (with_reducible refine (c19 _ _ _ _ _ _ _ _ _).mono ?_); rintro e w1 ⟨rfl, hb⟩; obtain ⟨hc, hf⟩ := bcell hb; have n0_ := Aside0.mk (below_step (w := w) (by repeat (first | (with_reducible first | exact HB.out | apply below_alloc | apply pw_below_drewN | apply below_drew1 | (refine below_set ?_ (by omega))) | exact HB.out)) hb); clear HB; have HB := n0_; clear n0_ hb) | (go_at_call 23; (with_reducible refine (c23 _ _ _ _ _ _ _ _ _).mono ?_); rintro e w1 ⟨rfl, hb⟩; have n0_ := Aside0.mk (below_step (w := w) (by repeat (first | (with_reducible first | exact HB.out | apply below_alloc | apply pw_below_drewN | apply below_drew1 | (refine below_set ?_ (by omega))) | exact HB.out)) hb); clear HB; have HB := n0_; clear n0_ hb))

  go_ret
  exact ⟨rfl, HB.out⟩
theorem walk (z0 : List Int) (a1 : Bool) (w : World) (l0 : z0.length = 8) (w0 : ∀ z ∈ z0, (Lit.int .i64 z).wf = true) : Ret 5 #[.agg (z0.map (Value.int .i64)).toArray, .bool a1] w (.bool true) := by
  match z0, l0, w0 with
  | [x0, x1, x2, x3, x4, x5, x6, x7], _, w0 =>
    obtain ⟨v0, h0, _, _⟩ := num_f (w0 x0 (by simp))
    obtain ⟨v1, h1, _, _⟩ := num_f (w0 x1 (by simp))
    obtain ⟨v2, h2, _, _⟩ := num_f (w0 x2 (by simp))
    obtain ⟨v3, h3, _, _⟩ := num_f (w0 x3 (by simp))
    obtain ⟨v4, h4, _, _⟩ := num_f (w0 x4 (by simp))
    obtain ⟨v5, h5, _, _⟩ := num_f (w0 x5 (by simp))
    obtain ⟨v6, h6, _, _⟩ := num_f (w0 x6 (by simp))
    obtain ⟨v7, h7, _, _⟩ := num_f (w0 x7 (by simp))
    cases a1 with
    | true => exact tells_raw x0 x1 x2 x3 x4 x5 x6 x7 w
    | false => exact tells_num x0 x1 x2 x3 x4 x5 x6 x7 v0 v1 v2 v3 v4 v5 v6 v7 w ⟨h0⟩ ⟨h1⟩ ⟨h2⟩ ⟨h3⟩ ⟨h4⟩ ⟨h5⟩ ⟨h6⟩ ⟨h7⟩

end Go.Proofs.Ytkeacdpphmdodaa.WalkLinearTells
