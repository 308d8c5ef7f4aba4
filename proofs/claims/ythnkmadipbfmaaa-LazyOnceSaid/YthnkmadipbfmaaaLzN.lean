/- A slice that is made: zeros, in a block of its own; an array whose elements are said by a function. -/
import Derived.Test.YthnkmadipbfmaaaLzK
import Derived.Laws.MakeOwn
namespace Go.Proofs.Ythnkmadipbfmaaa.LzN
open Go.RowKit Go.Proofs.YthnkmadipbfmaaaW.PrintWords Go.Proofs.YthnkmadipbfmaaaW.PrintLast Go.Proofs.YthnkmadipbfmaaaW.PrintMore Go.Proofs.Ythnkmadipbfmaaa.M Go.Proofs.Ythnkmadipbfmaaa.Reg Go.Proofs.Ythnkmadipbfmaaa.Rgw Go.Proofs.Ythnkmadipbfmaaa.Rwd Go.Proofs.Ythnkmadipbfmaaa.Chp Go.Proofs.Ythnkmadipbfmaaa.LzA Go.Proofs.Ythnkmadipbfmaaa.LzB Go.Proofs.Ythnkmadipbfmaaa.LzC Go.Proofs.Ythnkmadipbfmaaa.LzD Go.Proofs.Ythnkmadipbfmaaa.LzE Go.Proofs.Ythnkmadipbfmaaa.LzF Go.Proofs.Ythnkmadipbfmaaa.LzG Go.Proofs.Ythnkmadipbfmaaa.LzJ Go.Proofs.Ythnkmadipbfmaaa.LzK
attribute [local go_sem] max2_mx min2_mn max_two min_two max_three min_three max_four min_four
set_option linter.unusedVariables false
set_option linter.unusedSimpArgs false

def ar (k : IntKind) (z : Nat → Int) (n : Nat) : Array Value := ((List.range n).map fun j => Value.int k (z j)).toArray
def arb (z : Nat → Bool) (n : Nat) : Array Value := ((List.range n).map fun j => Value.bool (z j)).toArray
theorem ar_get (k : IntKind) (z : Nat → Int) {n i : Nat} (hi : i < n) : (ar k z n)[i]? = some (.int k (z i)) := by simp [ar, hi]
theorem arb_get (z : Nat → Bool) {n i : Nat} (hi : i < n) : (arb z n)[i]? = some (.bool (z i)) := by simp [arb, hi]
theorem ar_set (k : IntKind) (z : Nat → Int) {n i : Nat} (hi : i < n) (u : Int) : (ar k z n).setIfInBounds i (.int k u) = ar k (fun j => if j = i then u else z j) n := by
  apply Array.ext_getElem?
  intro j
  by_cases e : i = j
  · subst e; simp [ar, hi]
  · rw [Array.getElem?_setIfInBounds_ne e]
    by_cases hj : j < n
    · simp [ar, hj, Ne.symm e]
    · simp [ar, hj]
theorem arb_set (z : Nat → Bool) {n i : Nat} (hi : i < n) (u : Bool) : (arb z n).setIfInBounds i (.bool u) = arb (fun j => if j = i then u else z j) n := by
  apply Array.ext_getElem?
  intro j
  by_cases e : i = j
  · subst e; simp [arb, hi]
  · rw [Array.getElem?_setIfInBounds_ne e]
    by_cases hj : j < n
    · simp [arb, hj, Ne.symm e]
    · simp [arb, hj]
theorem made_ints (n : Nat) : madeCells #[.int .i64 0] n = ar .i64 (fun _ => 0) n := by
  apply Array.ext_getElem?
  intro j
  by_cases hj : j < n <;> simp [madeCells, ar, hj, Nat.mod_one]
theorem made_bools (n : Nat) : madeCells #[.bool false] n = arb (fun _ => false) n := by
  apply Array.ext_getElem?
  intro j
  by_cases hj : j < n <;> simp [madeCells, arb, hj, Nat.mod_one]
theorem make_ints (n : Nat) (hn : n ≤ 1000) (w : World) : (Instr.makeSlice 22 (.int .i64 (n : Int)) (.int .i64 (n : Int))).run Try.prog w = .ok (.slice (some ⟨w.heap.size, 0, none⟩) n n) (w.alloc (.cells (ar .i64 (fun _ => 0) n) 3 (0, 0))) := by
  obtain ⟨i0, hi, hzz⟩ := Option.map_eq_some_iff.1 (show (Try.prog.info? 3).map (fun i => (i.zero, i.size, i.bytes)) = some (some (.int .i64 0), 1, 8) by kernel_rfl)
  simp only [Prod.mk.injEq] at hzz
  obtain ⟨hz0, hz1, hz2⟩ := hzz
  have hr := run_make (P := Try.prog) w 22 3 i0 (.int .i64 0) (by kernel_rfl) hi hz0 .i64 .i64 (n : Int) (n : Int) (by omega) (by omega) (by rw [hz2]; omega) (by omega)
  rw [hr, hz1]
  simp only [Int.toNat_natCast, Nat.mul_one]
  rw [show (Value.int IntKind.i64 0).cells = #[.int .i64 0] from rfl, made_ints]
theorem make_bools (n : Nat) (hn : n ≤ 1000) (w : World) : (Instr.makeSlice 23 (.int .i64 (n : Int)) (.int .i64 (n : Int))).run Try.prog w = .ok (.slice (some ⟨w.heap.size, 0, none⟩) n n) (w.alloc (.cells (arb (fun _ => false) n) 4 (0, 0))) := by
  obtain ⟨i0, hi, hzz⟩ := Option.map_eq_some_iff.1 (show (Try.prog.info? 4).map (fun i => (i.zero, i.size, i.bytes)) = some (some (.bool false), 1, 1) by kernel_rfl)
  simp only [Prod.mk.injEq] at hzz
  obtain ⟨hz0, hz1, hz2⟩ := hzz
  have hr := run_make (P := Try.prog) w 23 4 i0 (.bool false) (by kernel_rfl) hi hz0 .i64 .i64 (n : Int) (n : Int) (by omega) (by omega) (by rw [hz2]; omega) (by omega)
  rw [hr, hz1]
  simp only [Int.toNat_natCast, Nat.mul_one]
  rw [show (Value.bool false).cells = #[.bool false] from rfl, made_bools]
def zf (ans : Nat → Int) (i : Nat) (s : Int) : Nat → Int := fun j => if j < i then tell ans j else if j = i then s else 0
theorem zf_set (ans : Nat → Int) (i : Nat) (s u : Int) : (fun j => if j = i then u else zf ans i s j) = zf ans i u := by
  funext j; unfold zf; by_cases e : j = i <;> simp [e]
theorem zf_start (ans : Nat → Int) (i : Nat) (u : Int) : (fun j : Nat => if j = i then u else if (j : Int) < (i : Int) then tell ans j else 0) = zf ans i u := by
  funext j; unfold zf; by_cases e : j = i
  · simp [e]
  · by_cases h : j < i <;> simp [e, h]
theorem zf_end (ans : Nat → Int) (i : Nat) : zf ans i (tell ans i) = fun j : Nat => if (j : Int) < (i : Int) + 1 then tell ans j else 0 := by
  funext j; unfold zf; by_cases e : j = i
  · subst e; simp; omega
  · by_cases h : j < i
    · rw [if_pos h, if_pos (by omega)]
    · rw [if_neg h, if_neg e, if_neg (by omega)]
theorem zf_at (ans : Nat → Int) (i : Nat) (s : Int) : zf ans i s i = s := by simp [zf]
theorem zf_lt (ans : Nat → Int) {i j : Nat} (s : Int) (h : j < i) : zf ans i s j = tell ans j := by simp [zf, h]

end Go.Proofs.Ythnkmadipbfmaaa.LzN
