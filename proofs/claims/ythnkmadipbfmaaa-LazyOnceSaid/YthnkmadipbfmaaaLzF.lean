/- Counts: contracts. -/
import Derived.Test.YthnkmadipbfmaaaLzA
namespace Go.Proofs.Ythnkmadipbfmaaa.LzF
open Go.RowKit Go.Proofs.YthnkmadipbfmaaaW.PrintWords Go.Proofs.YthnkmadipbfmaaaW.PrintLast Go.Proofs.YthnkmadipbfmaaaW.PrintMore Go.Proofs.Ythnkmadipbfmaaa.M Go.Proofs.Ythnkmadipbfmaaa.Reg Go.Proofs.Ythnkmadipbfmaaa.Rgw Go.Proofs.Ythnkmadipbfmaaa.Rwd Go.Proofs.Ythnkmadipbfmaaa.Chp Go.Proofs.Ythnkmadipbfmaaa.LzA
attribute [local go_sem] max2_mx min2_mn max_two min_two max_three min_three max_four min_four
set_option linter.unusedVariables false
set_option linter.unusedSimpArgs false

theorem now_ (a : Addr) (n : Int) (w : World) (hc : w.cell? a = some (.int .i64 n)) : Calls Try.prog 18 #[.pointer (some a)] w fun e w' => e = .returned (.int .i64 n) ∧ w' = w := by
  have hl := run_call_load (P := Try.prog) Try.func32 (by kernel_rfl) (by kernel_rfl) (by kernel_rfl) .i64 (by kernel_rfl) hc
  go_enter Try.func18, Try.ntmps18
  go_wp2
  go_ret
  exact ⟨rfl, rfl⟩
theorem add_ (a : Addr) (n m : Int) (w : World) (hc : w.cell? a = some (.int .i64 n)) (hz : w.frozen? a = false) (h1 : -9223372036854775808 ≤ n + m) (h2 : n + m ≤ 9223372036854775807) :
    Calls Try.prog 17 #[.pointer (some a), .int .i64 m] w fun e w' => e = .returned (.int .i64 (n + m)) ∧ w' = w.setCell a (.int .i64 (n + m)) := by
  have hadd := run_call_add (P := Try.prog) Try.func34 (by kernel_rfl) (by kernel_rfl) (by kernel_rfl) .i64 (by kernel_rfl) (y := m) (s := n + m) hc hz (by simp [go_sem]; rw [IntKind.wrap_i64]; omega)
  go_enter Try.func17, Try.ntmps17
  go_wp2
  go_ret
  exact ⟨rfl, rfl⟩
theorem load64 (a : Addr) (n : Int) (w : World) (hc : w.cell? a = some (.int .i64 n)) : Calls Try.prog 25 #[.pointer (some a)] w fun e w' => e = .returned (.int .i64 n) ∧ w' = w := by
  have hl := run_call_load (P := Try.prog) Try.func32 (by kernel_rfl) (by kernel_rfl) (by kernel_rfl) .i64 (by kernel_rfl) hc
  go_enter Try.func25, Try.ntmps25
  go_wp2
  go_ret
  exact ⟨rfl, rfl⟩
theorem cas64 (a : Addr) (n m : Int) (w : World) (hc : w.cell? a = some (.int .i64 n)) (hz : w.frozen? a = false) : Calls Try.prog 26 #[.pointer (some a), .int .i64 n, .int .i64 m] w fun e w' => e = .returned (.bool true) ∧ w' = w.setCell a (.int .i64 m) := by
  have hcas := run_call_cas_hit (P := Try.prog) Try.func33 (by kernel_rfl) (by kernel_rfl) (by kernel_rfl) .i64 (by kernel_rfl) (y := m) hc hz
  go_enter Try.func26, Try.ntmps26
  go_wp2
  go_ret
  exact ⟨rfl, rfl⟩
set_option maxHeartbeats 2000000 in
theorem raise_ (a : Addr) (n m : Int) (w : World) (hc : w.cell? a = some (.int .i64 n)) (hz : w.frozen? a = false) :
    Calls Try.prog 16 #[.pointer (some a), .int .i64 m] w fun e w' => e = .returned (.bool (decide (n < m))) ∧ w' = if n < m then w.setCell a (.int .i64 m) else w := by
  by_cases h : n < m
  · rw [if_pos h]
    have h2 : ¬ m ≤ n := by omega
    have h' := h
    go_enter Try.func16, Try.ntmps16
    go_wp2_with (fail)
    refine wp_loop_rounds 1 ?_
    refine rounds_next ?_
    go_wp2_with (first | (go_at_call 25; refine (load64 a n _ hc).mono ?_; rintro e w' ⟨rfl, rfl⟩) | (go_at_call 26; refine (cas64 a n m _ hc hz).mono ?_; rintro e w' ⟨rfl, rfl⟩))
    go_ret
    exact ⟨by simp [h'], rfl⟩
  · rw [if_neg h]
    have h' : m ≤ n := by omega
    go_enter Try.func16, Try.ntmps16
    go_wp2_with (fail)
    refine wp_loop_rounds 1 ?_
    refine rounds_next ?_
    go_wp2_with (first | (go_at_call 25; refine (load64 a n _ hc).mono ?_; rintro e w' ⟨rfl, rfl⟩) | (go_at_call 26; refine (cas64 a n m _ hc hz).mono ?_; rintro e w' ⟨rfl, rfl⟩))
    go_ret
    exact ⟨by simp [Int.not_lt.2 h'], rfl⟩

end Go.Proofs.Ythnkmadipbfmaaa.LzF
