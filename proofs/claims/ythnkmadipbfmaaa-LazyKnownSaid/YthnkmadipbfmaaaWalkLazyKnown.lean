/- LazyKnown returns true: a closed sentence. -/
import Derived.Test.YthnkmadipbfmaaaLzH
namespace Go.Proofs.Ythnkmadipbfmaaa.WalkLazyKnown
open Go.RowKit Go.Proofs.YthnkmadipbfmaaaW.PrintWords Go.Proofs.YthnkmadipbfmaaaW.PrintLast Go.Proofs.YthnkmadipbfmaaaW.PrintMore Go.Proofs.Ythnkmadipbfmaaa.M Go.Proofs.Ythnkmadipbfmaaa.Reg Go.Proofs.Ythnkmadipbfmaaa.Rgw Go.Proofs.Ythnkmadipbfmaaa.Rwd Go.Proofs.Ythnkmadipbfmaaa.Chp Go.Proofs.Ythnkmadipbfmaaa.LzA Go.Proofs.Ythnkmadipbfmaaa.LzB Go.Proofs.Ythnkmadipbfmaaa.LzC Go.Proofs.Ythnkmadipbfmaaa.LzD Go.Proofs.Ythnkmadipbfmaaa.LzE Go.Proofs.Ythnkmadipbfmaaa.LzF Go.Proofs.Ythnkmadipbfmaaa.LzG Go.Proofs.Ythnkmadipbfmaaa.LzH
attribute [local go_sem] max2_mx min2_mn max_two min_two max_three min_three max_four min_four
set_option linter.unusedVariables false
set_option linter.unusedSimpArgs false

theorem clo15 (N : Nat) (w : World) (hN : w.heap[N]? = some (.cells #[.int .i64 0] 3 (0, 0))) : Calls Try.prog 15 #[ptr N] w fun e w' => ends e none ∧ w' = w.setCell ⟨N, 0, none⟩ (.int .i64 1) := by
  have c0 : w.cell? ⟨N, 0, none⟩ = some (.int .i64 0) := at_cell hN 0
  have z0 : w.frozen? ⟨N, 0, none⟩ = false := at_free hN 0
  go_enter Try.func15, Try.ntmps15
  go_wp2
  exact ⟨rfl, ⟨_, _, rfl⟩, rfl⟩
structure LSt (q : Bool) (w0 : World) (N B C T : Nat) (n d d2 t : Int) (w : World) : Prop where
  bel : Below w0.heap.size w0 w
  hN : w.heap[N]? = some (.cells #[.int .i64 n] 3 (0, 0))
  hB : w.heap[B]? = some (cel (.func (.func 15) #[] #[ptr N]) d 0 (.int .u32 0) d (.int .i64 0))
  hC : w.heap[C]? = some (cel .nilFunc d2 0 (.int .u32 0) d2 (.int .i64 0))
  hT : q = true → w.heap[T]? = some (.cells #[.int .i64 t] 40 (0, 0))
  oN : w0.heap.size ≤ N
  oB : w0.heap.size ≤ B
  oC : w0.heap.size ≤ C
  oT : w0.heap.size ≤ T
section
variable {q : Bool} {w0 w : World} {N B C T : Nat} {n d d2 t : Int}
theorem LSt.step (h : LSt q w0 N B C T n d d2 t w) {w1 : World} (hb : Below w.heap.size w w1) : LSt q w0 N B C T n d d2 t w1 := by
  have k : Ch (fun _ => False) w w1 := Ch.of_below hb (fun k hk hk' => by omega)
  exact ⟨Reg.below_then' h.bel hb, k.at h.hN id, k.at h.hB id, k.at h.hC id, fun hq => k.at (h.hT hq) id, h.oN, h.oB, h.oC, h.oT⟩
theorem ldone1 (h : LSt q w0 N B C T n d d2 t w) : Calls Try.prog 11 #[ptr B] w fun e w' => e = .returned (.bool (d != 0)) ∧ w' = w := done_ B _ _ _ d 0 d w h.hB
theorem ldone2 (h : LSt q w0 N B C T n d d2 t w) : Calls Try.prog 11 #[ptr C] w fun e w' => e = .returned (.bool (d2 != 0)) ∧ w' = w := done_ C _ _ _ d2 0 d2 w h.hC
theorem lnow (h : LSt true w0 N B C T n d d2 t w) : Calls Try.prog 18 #[ptr T] w fun e w' => e = .returned (.int .i64 t) ∧ w' = w := now_ ⟨T, 0, none⟩ t w (at_cell (h.hT rfl) 0)
theorem LSt.turn (h : LSt true w0 N B C T n d d2 t w) (u : Int) : LSt true w0 N B C T n d d2 u (w.setCell ⟨T, 0, none⟩ (.int .i64 u)) := by
  have k : Ch (· = T) w (w.setCell ⟨T, 0, none⟩ (.int .i64 u)) := Ch.set _ _ _ rfl
  refine ⟨h.bel.setCell h.oT _, k.at h.hN (fun e => ?_), k.at h.hB (fun e => ?_), k.at h.hC (fun e => ?_), fun _ => at_set (h.hT rfl) 0 _, h.oN, h.oB, h.oC, h.oT⟩
  · have := h.hN; rw [e, h.hT rfl] at this; cases this
  · have := h.hB; rw [e, h.hT rfl] at this; cases this
  · have := h.hC; rw [e, h.hT rfl] at this; cases this
theorem ladd {m : Int} (h : LSt true w0 N B C T n d d2 t w) (h1 : -9223372036854775808 ≤ t + m) (h2 : t + m ≤ 9223372036854775807) : Calls Try.prog 17 #[ptr T, .int .i64 m] w fun e w' => e = .returned (.int .i64 (t + m)) ∧ LSt true w0 N B C T n d d2 (t + m) w' := by
  refine (add_ ⟨T, 0, none⟩ t m w (at_cell (h.hT rfl) 0) (at_free (h.hT rfl) 0) h1 h2).mono ?_
  rintro e w' ⟨rfl, rfl⟩
  exact ⟨rfl, h.turn _⟩
theorem lraise {m : Int} (h : LSt true w0 N B C T n d d2 t w) : Calls Try.prog 16 #[ptr T, .int .i64 m] w fun e w' => e = .returned (.bool (decide (t < m))) ∧ LSt true w0 N B C T n d d2 (if t < m then m else t) w' := by
  refine (raise_ ⟨T, 0, none⟩ t m w (at_cell (h.hT rfl) 0) (at_free (h.hT rfl) 0)).mono ?_
  rintro e w' ⟨rfl, rfl⟩
  refine ⟨rfl, ?_⟩
  split
  · exact h.turn _
  · exact h
theorem lnobody (h : LSt q w0 N B C T n d 0 t w) : Calls Try.prog 14 #[ptr C] w fun e w' => e = .returned (.int .i64 0) ∧ LSt q w0 N B C T n d 1 t w' := by
  refine (get_nil w h.hC).mono ?_
  rintro e w' ⟨rfl, k, h1⟩
  refine ⟨rfl, ?_, k.at h.hN (fun e => ?_), k.at h.hB (fun e => ?_), h1, fun hq => k.at (h.hT hq) (fun e => ?_), h.oN, h.oB, h.oC, h.oT⟩
  · have oC := h.oC; exact h.bel.trans (k.below h.bel.size (fun k hk => by rintro rfl; omega))
  · have := h.hN; rw [e, h.hC] at this; cases this
  · have := h.hB; rw [e, h.hC] at this; cases this
  · have := h.hT hq; rw [e, h.hC] at this; cases this
theorem lget2 (h : LSt q w0 N B C T n 1 d2 t w) : Calls Try.prog 12 #[ptr B] w fun e w' => e = .returned (.tuple #[.int .i64 0, .bool false]) ∧ LSt q w0 N B C T n 1 d2 t w' := by
  refine (get_ (ptr B) w (some 0) (fun _ => False) (fun _ => True) (fun _ x => x.elim) (fun _ _ => trivial) (fun w1 hb => ?_)).mono ?_
  · refine (get_done (by decide) w1 (h.step hb).hB).mono ?_
    rintro e w' ⟨rfl, hb'⟩
    exact ⟨rfl, Ch.of_below hb' (fun k hk hk' => by omega), trivial⟩
  · rintro e w' ⟨rfl, k, _⟩
    exact ⟨rfl, h.step (k.below (Nat.le_refl _) (fun _ _ x => x))⟩
theorem lget1 (h : LSt q w0 N B C T 0 0 d2 t w) : Calls Try.prog 12 #[ptr B] w fun e w' => e = .returned (.tuple #[.int .i64 0, .bool true]) ∧ LSt q w0 N B C T 1 1 d2 t w' := by
  have hNB : N ≠ B := fun e => by have := h.hN; rw [e, h.hB] at this; cases this
  have hCN : C ≠ N := fun e => by have := h.hC; rw [e, h.hN] at this; cases this
  have hCB : C ≠ B := fun e => by have := h.hC; rw [e, h.hB] at this; cases this
  have hTN : q = true → T ≠ N := fun hq e => by have := h.hT hq; rw [e, h.hN] at this; cases this
  have hTB : q = true → T ≠ B := fun hq e => by have := h.hT hq; rw [e, h.hB] at this; cases this
  have ltN := at_lt h.hN
  have ltB := at_lt h.hB
  refine (get_ (ptr B) w none (fun k => k = N ∨ k = B) (fun w' => w'.heap[N]? = some (.cells #[.int .i64 1] 3 (0, 0)) ∧ w'.heap[B]? = some (cel (.func (.func 15) #[] #[ptr N]) 1 0 (.int .u32 0) 1 (.int .i64 0))) (fun k hk => by rcases hk with rfl | rfl <;> assumption) (fun k hk => ⟨k.at hk.1 (by omega), k.at hk.2 (by omega)⟩) (fun w1 hb => ?_)).mono ?_
  · have h' := h.step hb
    refine (get_first 15 #[ptr N] (fun _ => rfl) w1 none (· = N) (fun w' => w'.heap[N]? = some (.cells #[.int .i64 1] 3 (0, 0))) h'.hB (fun k hk => by subst hk; exact ⟨at_lt h'.hN, hNB⟩) (fun k hk => k.at hk hNB) ?_).mono ?_
    · intro w2 k1
      have h1 := k1.at h'.hN hNB
      refine (clo15 N w2 h1).mono ?_
      rintro e w' ⟨he, rfl⟩
      exact ⟨he, Ch.set _ _ _ rfl, at_set h1 0 _⟩
    · rintro e w' ⟨he, k, h2, h3⟩
      exact ⟨he, k, h2, h3⟩
  · rintro e w' ⟨rfl, k, h2, h3⟩
    refine ⟨rfl, ?_, h2, h3, k.at h.hC (by rintro (x | x) <;> contradiction), fun hq => k.at (h.hT hq) (by rintro (x | x); exact hTN hq x; exact hTB hq x), h.oN, h.oB, h.oC, h.oT⟩
    have oN := h.oN; have oB := h.oB
    exact h.bel.trans (k.below h.bel.size (fun k hk => by rintro (x | x) <;> subst x <;> omega))
theorem r1 (h : LSt true w0 N B C T n d d2 0 w) : Calls Try.prog 16 #[ptr T, .int .i64 (-5)] w fun e w' => e = .returned (.bool false) ∧ LSt true w0 N B C T n d d2 0 w' := lraise (m := -5) h
theorem r2 (h : LSt true w0 N B C T n d d2 0 w) : Calls Try.prog 16 #[ptr T, .int .i64 7] w fun e w' => e = .returned (.bool true) ∧ LSt true w0 N B C T n d d2 7 w' := lraise (m := 7) h
theorem r3 (h : LSt true w0 N B C T n d d2 7 w) : Calls Try.prog 16 #[ptr T, .int .i64 7] w fun e w' => e = .returned (.bool false) ∧ LSt true w0 N B C T n d d2 7 w' := lraise (m := 7) h
theorem r4 (h : LSt true w0 N B C T n d d2 (-3) w) : Calls Try.prog 16 #[ptr T, .int .i64 9223372036854775807] w fun e w' => e = .returned (.bool true) ∧ LSt true w0 N B C T n d d2 9223372036854775807 w' := lraise (m := 9223372036854775807) h
theorem a1 (h : LSt true w0 N B C T n d d2 7 w) : Calls Try.prog 17 #[ptr T, .int .i64 (-10)] w fun e w' => e = .returned (.int .i64 (-3)) ∧ LSt true w0 N B C T n d d2 (-3) w' := ladd (m := -10) h (by decide) (by decide)
theorem LSt.newT (h : LSt false w0 N B C T n d d2 t w) : LSt true w0 N B C w.heap.size n d d2 0 (w.alloc (.cells #[.int .i64 0] 40 (0, 0))) := by
  have k := Ch.alloc (fun _ => False) w (.cells #[.int .i64 0] 40 (0, 0))
  exact ⟨h.bel.alloc h.bel.size _, k.at h.hN id, k.at h.hB id, k.at h.hC id, fun _ => heap_alloc_new _ _, h.oN, h.oB, h.oC, h.bel.size⟩
theorem lknown (h : LSt q w0 N B C T n d d2 t w) : Calls Try.prog 7 #[] w fun e w' => e = .returned (.bool true) ∧ LSt q w0 N B C T n d d2 t w' := by
  refine (known_ w).mono ?_
  rintro e w' ⟨rfl, hb⟩
  exact ⟨rfl, h.step hb⟩
end
set_option maxHeartbeats 4000000 in
theorem walk (w : World) : Calls Try.prog 5 #[] w fun e w' => e = .returned (.bool true) ∧ Below w.heap.size w w' := by
  have hmf : ∀ (fn : Fn) (first cap : Array Value) (w : World), (Instr.makeFunc fn first cap).run Try.prog w = .ok (.func fn first cap) w := fun _ _ _ _ => rfl
  go_enter Try.func5, Try.ntmps5
  go_wp2_with (go_at_call 8; first | ((with_reducible refine (new_ 15 _ _).mono ?_); rintro e w' ⟨rfl, rfl⟩) | ((with_reducible refine (new_nil _).mono ?_); rintro e w' ⟨rfl, rfl⟩))
  have hK : LSt false w w.heap.size (w.heap.size + 1) (w.heap.size + 1 + 1) w.heap.size 0 0 0 0 (((w.alloc (.cells #[.int .i64 0] 3 (0, 0))).alloc (cel (.func (.func 15) #[] #[ptr w.heap.size]) 0 0 (.int .u32 0) 0 (.int .i64 0))).alloc (cel .nilFunc 0 0 (.int .u32 0) 0 (.int .i64 0))) := by
    refine ⟨(((Below.refl _ _).alloc (Nat.le_refl _) _).alloc (by simp) _).alloc (by simp; omega) _, ?_, ?_, ?_, (fun h => by cases h), Nat.le_refl _, by omega, by omega, Nat.le_refl _⟩
    · exact (Ch.alloc (fun _ => False) _ _).at ((Ch.alloc (fun _ => False) _ _).at (heap_alloc_new _ _) id) id
    · exact (Ch.alloc (fun _ => False) _ _).at (by have := heap_alloc_new (w.alloc (.cells #[.int .i64 0] 3 (0, 0))) (cel (.func (.func 15) #[] #[ptr w.heap.size]) 0 0 (.int .u32 0) 0 (.int .i64 0)); simpa using this) id
    · have := heap_alloc_new ((w.alloc (.cells #[.int .i64 0] 3 (0, 0))).alloc (cel (.func (.func 15) #[] #[ptr w.heap.size]) 0 0 (.int .u32 0) 0 (.int .i64 0))) (cel .nilFunc 0 0 (.int .u32 0) 0 (.int .i64 0)); simpa using this
  revert hK
  generalize (((w.alloc (.cells #[.int .i64 0] 3 (0, 0))).alloc (cel (.func (.func 15) #[] #[ptr w.heap.size]) 0 0 (.int .u32 0) 0 (.int .i64 0))).alloc (cel .nilFunc 0 0 (.int .u32 0) 0 (.int .i64 0))) = w1
  generalize w.heap.size + 1 + 1 = C
  generalize w.heap.size + 1 = B
  generalize hNe : w.heap.size = N
  intro hK
  go_wp2_with (first | (go_at_call 7; (have h_ := lknown hK); (with_reducible refine Calls.mono h_ ?_); clear h_; rintro e w' ⟨rfl, hK'⟩; clear hK; have hK := hK'; clear hK') | (go_at_call 12; (have h_ := lget1 hK); (with_reducible refine Calls.mono h_ ?_); clear h_; rintro e w' ⟨rfl, hK'⟩; clear hK; have hK := hK'; clear hK') | (go_at_call 12; (have h_ := lget2 hK); (with_reducible refine Calls.mono h_ ?_); clear h_; rintro e w' ⟨rfl, hK'⟩; clear hK; have hK := hK'; clear hK'; have cN : w'.cell? ⟨N, 0, none⟩ = some (.int .i64 1) := at_cell hK.hN 0) | (go_at_call 14; (have h_ := lnobody hK); (with_reducible refine Calls.mono h_ ?_); clear h_; rintro e w' ⟨rfl, hK'⟩; clear hK; have hK := hK'; clear hK'; have cN : w'.cell? ⟨N, 0, none⟩ = some (.int .i64 1) := at_cell hK.hN 0) | (go_at_call 16; (have h_ := r1 hK.newT); (with_reducible refine Calls.mono h_ ?_); clear h_; rintro e w' ⟨rfl, hK'⟩; clear hK; have hK := hK'; clear hK') | (go_at_call 16; (have h_ := r2 hK); (with_reducible refine Calls.mono h_ ?_); clear h_; rintro e w' ⟨rfl, hK'⟩; clear hK; have hK := hK'; clear hK') | (go_at_call 16; (have h_ := r3 hK); (with_reducible refine Calls.mono h_ ?_); clear h_; rintro e w' ⟨rfl, hK'⟩; clear hK; have hK := hK'; clear hK') | (go_at_call 17; (have h_ := a1 hK); (with_reducible refine Calls.mono h_ ?_); clear h_; rintro e w' ⟨rfl, hK'⟩; clear hK; have hK := hK'; clear hK') | (go_at_call 16; (have h_ := r4 hK); (with_reducible refine Calls.mono h_ ?_); clear h_; rintro e w' ⟨rfl, hK'⟩; clear hK; have hK := hK'; clear hK'; have cN : w'.cell? ⟨N, 0, none⟩ = some (.int .i64 1) := at_cell hK.hN 0) | (go_at_call 11; (have h_ := ldone1 hK); (with_reducible refine Calls.mono h_ ?_); clear h_; rintro e w' ⟨rfl, rfl⟩) | (go_at_call 11; (have h_ := ldone2 hK); (with_reducible refine Calls.mono h_ ?_); clear h_; rintro e w' ⟨rfl, rfl⟩) | (go_at_call 18; (have h_ := lnow hK); (with_reducible refine Calls.mono h_ ?_); clear h_; rintro e w' ⟨rfl, rfl⟩))
  go_ret
  exact ⟨rfl, hNe ▸ hK.bel⟩

end Go.Proofs.Ythnkmadipbfmaaa.WalkLazyKnown
