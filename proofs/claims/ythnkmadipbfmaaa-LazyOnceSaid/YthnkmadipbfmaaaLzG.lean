/- Chapter 1's known: true. -/
import Derived.Test.YthnkmadipbfmaaaLzE
import Derived.Test.YthnkmadipbfmaaaLzF
namespace Go.Proofs.Ythnkmadipbfmaaa.LzG
open Go.RowKit Go.Proofs.YthnkmadipbfmaaaW.PrintWords Go.Proofs.YthnkmadipbfmaaaW.PrintLast Go.Proofs.YthnkmadipbfmaaaW.PrintMore Go.Proofs.Ythnkmadipbfmaaa.M Go.Proofs.Ythnkmadipbfmaaa.Reg Go.Proofs.Ythnkmadipbfmaaa.Rgw Go.Proofs.Ythnkmadipbfmaaa.Rwd Go.Proofs.Ythnkmadipbfmaaa.Chp Go.Proofs.Ythnkmadipbfmaaa.LzA Go.Proofs.Ythnkmadipbfmaaa.LzB Go.Proofs.Ythnkmadipbfmaaa.LzC Go.Proofs.Ythnkmadipbfmaaa.LzD Go.Proofs.Ythnkmadipbfmaaa.LzE Go.Proofs.Ythnkmadipbfmaaa.LzF
attribute [local go_sem] max2_mx min2_mn max_two min_two max_three min_three max_four min_four
set_option linter.unusedVariables false
set_option linter.unusedSimpArgs false

abbrev ptr (N : Nat) : Value := .pointer (some ⟨N, 0, none⟩)
theorem clo19 (N : Nat) (w : World) (hN : w.heap[N]? = some (.cells #[.int .i64 0] 3 (0, 0))) : Calls Try.prog 19 #[ptr N] w fun e w' => e = .returned (.int .i64 41) ∧ w' = w.setCell ⟨N, 0, none⟩ (.int .i64 1) := by
  have c0 : w.cell? ⟨N, 0, none⟩ = some (.int .i64 0) := at_cell hN 0
  have z0 : w.frozen? ⟨N, 0, none⟩ = false := at_free hN 0
  have c1 : (w.setCell ⟨N, 0, none⟩ (.int .i64 1)).cell? ⟨N, 0, none⟩ = some (.int .i64 1) := at_cell (at_set hN 0 _) 0
  go_enter Try.func19, Try.ntmps19
  go_wp2
  go_ret
  exact ⟨rfl, rfl⟩
structure KSt (w0 : World) (N B T : Nat) (n d a t : Int) (w : World) : Prop where
  bel : Below w0.heap.size w0 w
  hN : w.heap[N]? = some (.cells #[.int .i64 n] 3 (0, 0))
  hB : w.heap[B]? = some (cel (.func (.func 19) #[] #[ptr N]) d 0 (.int .u32 0) d (.int .i64 a))
  hT : w.heap[T]? = some (.cells #[.int .i64 t] 40 (0, 0))
  oN : w0.heap.size ≤ N
  oB : w0.heap.size ≤ B
  oT : w0.heap.size ≤ T
section
variable {w0 w : World} {N B T : Nat} {n d a t : Int}
theorem kdone (h : KSt w0 N B T n d a t w) : Calls Try.prog 11 #[ptr B] w fun e w' => e = .returned (.bool (d != 0)) ∧ w' = w := done_ B _ _ _ d 0 d w h.hB
theorem know (h : KSt w0 N B T n d a t w) : Calls Try.prog 18 #[ptr T] w fun e w' => e = .returned (.int .i64 t) ∧ w' = w := now_ ⟨T, 0, none⟩ t w (at_cell h.hT 0)
theorem kadd (h : KSt w0 N B T n d a 0 w) : Calls Try.prog 17 #[ptr T, .int .i64 3] w fun e w' => e = .returned (.int .i64 3) ∧ KSt w0 N B T n d a 3 w' := by
  refine (add_ ⟨T, 0, none⟩ 0 3 w (at_cell h.hT 0) (at_free h.hT 0) (by decide) (by decide)).mono ?_
  rintro e w' ⟨rfl, rfl⟩
  have k : Ch (· = T) w (w.setCell ⟨T, 0, none⟩ (.int .i64 (0 + 3))) := Ch.set _ _ _ rfl
  refine ⟨rfl, h.bel.setCell h.oT _, k.at h.hN (fun e => ?_), k.at h.hB (fun e => ?_), at_set h.hT 0 _, h.oN, h.oB, h.oT⟩
  · have := h.hN; rw [e, h.hT] at this; cases this
  · have := h.hB; rw [e, h.hT] at this; cases this
theorem kget2 {a : Int} (h : KSt w0 N B T n 1 a t w) : Calls Try.prog 14 #[ptr B] w fun e w' => e = .returned (.int .i64 a) ∧ KSt w0 N B T n 1 a t w' := by
  refine (get_done (by decide) w h.hB).mono ?_
  rintro e w' ⟨rfl, hb⟩
  have k : Ch (fun _ => False) w w' := Ch.of_below hb (fun k hk hk' => by omega)
  exact ⟨rfl, Reg.below_then' h.bel hb, k.at h.hN id, k.at h.hB id, k.at h.hT id, h.oN, h.oB, h.oT⟩
theorem kget1 (h : KSt w0 N B T 0 0 0 t w) : Calls Try.prog 14 #[ptr B] w fun e w' => e = .returned (.int .i64 41) ∧ KSt w0 N B T 1 1 41 t w' := by
  have hNB : N ≠ B := fun e => by have := h.hN; rw [e, h.hB] at this; cases this
  have hNT : T ≠ N := fun e => by have := h.hT; rw [e, h.hN] at this; cases this
  have hBT : T ≠ B := fun e => by have := h.hT; rw [e, h.hB] at this; cases this
  refine (get_first 19 #[ptr N] (fun _ => rfl) w (some 41) (· = N) (fun w' => w'.heap[N]? = some (.cells #[.int .i64 1] 3 (0, 0))) h.hB (fun k hk => by subst hk; exact ⟨at_lt h.hN, hNB⟩) (fun k hk => k.at hk hNB) ?_).mono ?_
  · intro w1 k1
    have h1 := k1.at h.hN hNB
    refine (clo19 N w1 h1).mono ?_
    rintro e w' ⟨rfl, rfl⟩
    exact ⟨rfl, Ch.set _ _ _ rfl, at_set h1 0 _⟩
  · rintro e w' ⟨rfl, k, h2, h3⟩
    refine ⟨rfl, ?_, h2, h3, k.at h.hT (by rintro (x | x) <;> contradiction), h.oN, h.oB, h.oT⟩
    have oN := h.oN; have oB := h.oB
    exact h.bel.trans (k.below h.bel.size (fun k hk => by rintro (x | x) <;> subst x <;> omega))
end
theorem known_ (w : World) : Calls Try.prog 7 #[] w fun e w' => e = .returned (.bool true) ∧ Below w.heap.size w w' := by
  have hmf : ∀ (fn : Fn) (first cap : Array Value) (w : World), (Instr.makeFunc fn first cap).run Try.prog w = .ok (.func fn first cap) w := fun _ _ _ _ => rfl
  go_enter Try.func7, Try.ntmps7
  go_wp2_with (go_at_call 8; refine (new_ 19 _ _).mono ?_; rintro e w' ⟨rfl, rfl⟩)
  have hK : KSt w w.heap.size (w.heap.size + 1) (w.heap.size + 1 + 1) 0 0 0 0 (((w.alloc (.cells #[.int .i64 0] 3 (0, 0))).alloc (cel (.func (.func 19) #[] #[ptr w.heap.size]) 0 0 (.int .u32 0) 0 (.int .i64 0))).alloc (.cells #[.int .i64 0] 40 (0, 0))) := by
    refine ⟨(((Below.refl _ _).alloc (Nat.le_refl _) _).alloc (by simp) _).alloc (by simp; omega) _, ?_, ?_, ?_, Nat.le_refl _, by omega, by omega⟩
    · exact (Ch.alloc (fun _ => False) _ _).at ((Ch.alloc (fun _ => False) _ _).at (heap_alloc_new _ _) id) id
    · exact (Ch.alloc (fun _ => False) _ _).at (by have := heap_alloc_new (w.alloc (.cells #[.int .i64 0] 3 (0, 0))) (cel (.func (.func 19) #[] #[ptr w.heap.size]) 0 0 (.int .u32 0) 0 (.int .i64 0)); simpa using this) id
    · have := heap_alloc_new ((w.alloc (.cells #[.int .i64 0] 3 (0, 0))).alloc (cel (.func (.func 19) #[] #[ptr w.heap.size]) 0 0 (.int .u32 0) 0 (.int .i64 0))) (.cells #[.int .i64 0] 40 (0, 0)); simpa using this
  revert hK
  generalize (((w.alloc (.cells #[.int .i64 0] 3 (0, 0))).alloc (cel (.func (.func 19) #[] #[ptr w.heap.size]) 0 0 (.int .u32 0) 0 (.int .i64 0))).alloc (.cells #[.int .i64 0] 40 (0, 0))) = w1
  generalize w.heap.size + 1 + 1 = T
  generalize w.heap.size + 1 = B
  generalize hNe : w.heap.size = N
  intro hK
  go_wp2_with (first | (go_at_call 11; refine (kdone hK).mono ?_; rintro e w' ⟨rfl, rfl⟩) | (go_at_call 14; refine (kget1 hK).mono ?_; rintro e w' ⟨rfl, hK'⟩; clear hK; have hK := hK'; clear hK') | (go_at_call 14; refine (kget2 hK).mono ?_; rintro e w' ⟨rfl, hK'⟩; clear hK; have hK := hK'; clear hK'; have cN : w'.cell? ⟨N, 0, none⟩ = some (.int .i64 1) := at_cell hK.hN 0) | (go_at_call 18; refine (know hK).mono ?_; rintro e w' ⟨rfl, rfl⟩) | (go_at_call 17; refine (kadd hK).mono ?_; rintro e w' ⟨rfl, hK'⟩; clear hK; have hK := hK'; clear hK'))
  go_ret
  exact ⟨rfl, hNe ▸ hK.bel⟩

end Go.Proofs.Ythnkmadipbfmaaa.LzG
