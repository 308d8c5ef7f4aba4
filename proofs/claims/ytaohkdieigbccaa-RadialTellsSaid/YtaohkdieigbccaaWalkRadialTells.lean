/- RadialTells returns true at every input. -/
import Derived.Test.YtaohkdieigbccaaRadC
namespace Go.Proofs.Ytaohkdieigbccaa.WalkRadialTells
open Go.RowKit Go.Proofs.YtaohkdieigbccaaW.PrintWords Go.Proofs.YtaohkdieigbccaaW.PrintLast Go.Proofs.YtaohkdieigbccaaW.PrintMore Go.Proofs.Ytaohkdieigbccaa.PRadialTells Go.Proofs.Ytaohkdieigbccaa.M Go.Proofs.Ytaohkdieigbccaa.RadQ Go.Proofs.Ytaohkdieigbccaa.RadT Go.Proofs.Ytaohkdieigbccaa.RadC
attribute [local go_sem] max2_int min2_int max_two min_two max_three min_three max_four min_four
set_option linter.unusedVariables false
set_option linter.unusedSimpArgs false

theorem bcell {W w1 : World} (hb : Below W.heap.size W w1) : (∀ b o, b < W.heap.size → w1.cell? ⟨b, o, none⟩ = W.cell? ⟨b, o, none⟩) ∧ (∀ b o, b < W.heap.size → w1.frozen? ⟨b, o, none⟩ = W.frozen? ⟨b, o, none⟩) :=
  ⟨fun b o h => hb.cell (p := ⟨b, o, none⟩) h, fun b o h => hb.frozen (p := ⟨b, o, none⟩) h⟩
theorem num_ex (a : Int) : ∃ v, versalhand_Num.f a = some v := by
  unfold versalhand_Num.f
  simp only [pick_f (show (0:Int) < 8 by omega) (by omega), pick_f (show (0:Int) < 2001 by omega) (by omega), pick_f (show (0:Int) < 9 by omega) (by omega), pick_f (show (0:Int) < 1310720 by omega) (by omega), Option.bind_some]
  split
  · exact ⟨_, rfl⟩
  · split
    · exact ⟨_, rfl⟩
    · split
      · exact ⟨_, rfl⟩
      · split
        · exact ⟨_, rfl⟩
        · exact ⟨_, rfl⟩
/-- two blocks of eight whole numbers each, and all that was there before as it was -/
structure Rel (w wr : World) : Prop where
  below : Below w.heap.size w wr
  room : w.heap.size + 2 ≤ wr.heap.size
  given : ∀ j, j < 8 → ∃ z, wr.cell? ⟨w.heap.size, j, none⟩ = some (.int .i64 z)
  own : ∀ j, j < 8 → ∃ z, wr.cell? ⟨w.heap.size + 1, j, none⟩ = some (.int .i64 z)
  free : ∀ j, wr.frozen? ⟨w.heap.size + 1, j, none⟩ = false
theorem Rel.drewN {w wr : World} (h : Rel w wr) (n : Nat) : Rel w (wr.drewN n) := ⟨pw_below_drewN h.below n, h.room, h.given, h.own, h.free⟩
theorem Rel.next {w wr w1 : World} (h : Rel w wr) (hb : Below wr.heap.size wr w1) : Rel w w1 := by
  obtain ⟨hc, hf⟩ := bcell hb
  have h1 := h.room
  have h2 := hb.size
  refine ⟨below_step (w := w) h.below hb, by omega, fun j hj => ?_, fun j hj => ?_, fun j => ?_⟩
  · rw [hc _ _ (by omega)]; exact h.given j hj
  · rw [hc _ _ (by omega)]; exact h.own j hj
  · rw [hf _ _ (by omega)]; exact h.free j
theorem Rel.set {w wr : World} (h : Rel w wr) (k : Nat) (v : Int) : Rel w (wr.setCell ⟨w.heap.size + 1, k, none⟩ (.int .i64 v)) := by
  have far : ∀ q : Addr, (⟨w.heap.size + 1, k, none⟩ : Addr) ≠ q → (wr.setCell ⟨w.heap.size + 1, k, none⟩ (.int .i64 v)).cell? q = wr.cell? q := fun q hq => World.cell?_setCell_other _ _ _ _ hq
  refine ⟨below_set h.below (by omega), by have := h.room; simpa [World.setCell] using this, fun j hj => ?_, fun j hj => ?_, fun j => ?_⟩
  · obtain ⟨z, hz⟩ := h.given j hj
    exact ⟨z, by rw [far _ (by simp)]; exact hz⟩
  · obtain ⟨z, hz⟩ := h.own j hj
    by_cases e : k = j
    · subst e
      exact ⟨v, World.cell?_setCell_same _ _ _ hz⟩
    · exact ⟨z, by rw [far _ (by simp [e])]; exact hz⟩
  · rw [World.frozen?_setCell]; exact h.free j
theorem c31any (a : Int) (w : World) : Ret 31 #[.int .i64 a] w (.int .i64 (wrap64 (a * 65536))) := c31 a _ w rfl
theorem d31 (a : Int) (w : World) : Calls Try.prog 31 #[.int .i64 a] w fun e w' => e = .returned (.int .i64 (wrap64 (a * 65536))) ∧ Drawn0 w w' := versallaw22_w.calls a _ w rfl

set_option maxHeartbeats 4000000 in
set_option maxRecDepth 100000 in
theorem tells_raw (x0 x1 x2 x3 x4 x5 x6 x7 : Int) (w : World) : Ret 11 #[.agg #[.int .i64 x0, .int .i64 x1, .int .i64 x2, .int .i64 x3, .int .i64 x4, .int .i64 x5, .int .i64 x6, .int .i64 x7], .bool true] w (.bool true) := by
  have HB := Aside0.mk (Below.refl w.heap.size w)
  go_enter Try.func11, Try.ntmps11
  go_wp2_with (first | (go_at_call 32; (with_reducible refine (c32 _).mono ?_); rintro e w1 ⟨rfl, hb⟩; have n0_ := Aside0.mk (below_step (w := w) (by repeat (first | (with_reducible first | exact HB.out | apply below_alloc | apply pw_below_drewN | apply below_drew1 | (refine below_set ?_ (by omega))) | exact HB.out)) hb); clear HB; have HB := n0_; clear n0_ hb) | (go_at_call 30; (with_reducible refine (c30 _ _ _ _ _ _ _ _ _).mono ?_); rintro e w1 ⟨rfl, hb⟩; obtain ⟨hc, hf⟩ := bcell hb; have n0_ := Aside0.mk (below_step (w := w) (by repeat (first | (with_reducible first | exact HB.out | apply below_alloc | apply pw_below_drewN | apply below_drew1 | (refine below_set ?_ (by omega))) | exact HB.out)) hb); clear HB; have HB := n0_; clear n0_ hb) | (go_at_call 33; (with_reducible refine (c33 _ _ _ _ _ _ _ _ _).mono ?_); rintro e w1 ⟨rfl, hb⟩; have n0_ := Aside0.mk (below_step (w := w) (by repeat (first | (with_reducible first | exact HB.out | apply below_alloc | apply pw_below_drewN | apply below_drew1 | (refine below_set ?_ (by omega))) | exact HB.out)) hb); clear HB; have HB := n0_; clear n0_ hb))
  go_ret
  exact ⟨rfl, HB.out⟩
set_option maxHeartbeats 8000000 in
set_option maxRecDepth 100000 in
theorem tells_num (x0 x1 x2 x3 x4 x5 x6 x7 : Int) (w : World) : Ret 11 #[.agg #[.int .i64 x0, .int .i64 x1, .int .i64 x2, .int .i64 x3, .int .i64 x4, .int .i64 x5, .int .i64 x6, .int .i64 x7], .bool false] w (.bool true) := by
  have HB := Aside0.mk (Below.refl w.heap.size w)
  go_enter Try.func11, Try.ntmps11
  go_wp2
  go_loopw [6] (fun i wr => ∃ k : Nat, k ≤ 8 ∧ i = .int .i64 k ∧ Rel w wr) (fun i _ => 8 - (intOf i).toNat)
  case atStart =>
    refine ⟨0, by omega, rfl, ⟨below_alloc (below_alloc HB.out _) _, by simp, fun j hj => ?_, fun j hj => ?_, fun j => ?_⟩⟩
    · have : j = 0 ∨ j = 1 ∨ j = 2 ∨ j = 3 ∨ j = 4 ∨ j = 5 ∨ j = 6 ∨ j = 7 := by omega
      rcases this with rfl | rfl | rfl | rfl | rfl | rfl | rfl | rfl
      · exact ⟨x0, by go_simp⟩
      · exact ⟨x1, by go_simp⟩
      · exact ⟨x2, by go_simp⟩
      · exact ⟨x3, by go_simp⟩
      · exact ⟨x4, by go_simp⟩
      · exact ⟨x5, by go_simp⟩
      · exact ⟨x6, by go_simp⟩
      · exact ⟨x7, by go_simp⟩
    · have : j = 0 ∨ j = 1 ∨ j = 2 ∨ j = 3 ∨ j = 4 ∨ j = 5 ∨ j = 6 ∨ j = 7 := by omega
      rcases this with rfl | rfl | rfl | rfl | rfl | rfl | rfl | rfl
      · exact ⟨x0, by go_simp⟩
      · exact ⟨x1, by go_simp⟩
      · exact ⟨x2, by go_simp⟩
      · exact ⟨x3, by go_simp⟩
      · exact ⟨x4, by go_simp⟩
      · exact ⟨x5, by go_simp⟩
      · exact ⟨x6, by go_simp⟩
      · exact ⟨x7, by go_simp⟩
    · go_simp
  case round =>
    obtain ⟨k, hk, rfl, hR⟩ := hrel
    by_cases hlt : k < 8
    · obtain ⟨z, hz⟩ := hR.given k hlt
      obtain ⟨y, hy⟩ := hR.own k hlt
      have hf := hR.free k
      obtain ⟨v, hv'⟩ := num_ex z
      have hv := Aside0.mk hv'
      clear hv'
      have HR := Aside0.mk hR
      clear hR
      go_wp2_with (first | (go_at_call 22; (with_reducible refine (d22 _ _ _ (by decide) (by decide)).mono ?_); rintro e w1 ⟨rfl, ⟨nd, rfl⟩⟩) | (go_at_call 31; (with_reducible refine (d31 _ _).mono ?_); rintro e w1 ⟨rfl, ⟨nd, rfl⟩⟩) | (go_at_call 18; (with_reducible refine (d18 z v _ hv.out).mono ?_); rintro e w1 ⟨rfl, ⟨nd, rfl⟩⟩))
      all_goals
        go_roundw
        case rel => exact ⟨k + 1, by omega, by go_num, by repeat (with_reducible first | exact HR.out | apply Rel.drewN | apply Rel.set)⟩
        case measure => simp [intOf]; omega
    · obtain ⟨y0, g0⟩ := hR.own 0 (by omega)
      obtain ⟨y1, g1⟩ := hR.own 1 (by omega)
      obtain ⟨y2, g2⟩ := hR.own 2 (by omega)
      obtain ⟨y3, g3⟩ := hR.own 3 (by omega)
      obtain ⟨y4, g4⟩ := hR.own 4 (by omega)
      obtain ⟨y5, g5⟩ := hR.own 5 (by omega)
      obtain ⟨y6, g6⟩ := hR.own 6 (by omega)
      obtain ⟨y7, g7⟩ := hR.own 7 (by omega)
      have hroom : w.heap.size + 1 < wr.heap.size := by have := hR.room; omega
      clear HB
      have HB := Aside0.mk hR.below
      clear hR
      go_wp2_with (first | (go_at_call 32; (with_reducible refine (c32 _).mono ?_); rintro e w1 ⟨rfl, hb⟩; have n0_ := Aside0.mk (below_step (w := w) (by repeat (first | (with_reducible first | exact HB.out | apply below_alloc | apply pw_below_drewN | apply below_drew1 | (refine below_set ?_ (by omega))) | exact HB.out)) hb); clear HB; have HB := n0_; clear n0_ hb) | (go_at_call 30; (with_reducible refine (c30 _ _ _ _ _ _ _ _ _).mono ?_); rintro e w1 ⟨rfl, hb⟩; obtain ⟨hc, hf⟩ := bcell hb; have n0_ := Aside0.mk (below_step (w := w) (by repeat (first | (with_reducible first | exact HB.out | apply below_alloc | apply pw_below_drewN | apply below_drew1 | (refine below_set ?_ (by omega))) | exact HB.out)) hb); clear HB; have HB := n0_; clear n0_ hb) | (go_at_call 33; (with_reducible refine (c33 _ _ _ _ _ _ _ _ _).mono ?_); rintro e w1 ⟨rfl, hb⟩; have n0_ := Aside0.mk (below_step (w := w) (by repeat (first | (with_reducible first | exact HB.out | apply below_alloc | apply pw_below_drewN | apply below_drew1 | (refine below_set ?_ (by omega))) | exact HB.out)) hb); clear HB; have HB := n0_; clear n0_ hb))
      go_ret
      exact ⟨rfl, HB.out⟩
theorem walk (z0 : List Int) (a1 : Bool) (w : World) (l0 : z0.length = 8) (_ : ∀ z ∈ z0, (Lit.int .i64 z).wf = true) : Ret 11 #[.agg (z0.map (Value.int .i64)).toArray, .bool a1] w (.bool true) := by
  match z0, l0 with
  | [x0, x1, x2, x3, x4, x5, x6, x7], _ =>
    cases a1 with
    | true => exact tells_raw x0 x1 x2 x3 x4 x5 x6 x7 w
    | false => exact tells_num x0 x1 x2 x3 x4 x5 x6 x7 w

end Go.Proofs.Ytaohkdieigbccaa.WalkRadialTells
