/- A cell without a function: what its Get comes to. -/
import Derived.Test.YthnkmadipbfmaaaLzG
namespace Go.Proofs.Ythnkmadipbfmaaa.LzH
open Go.RowKit Go.Proofs.YthnkmadipbfmaaaW.PrintWords Go.Proofs.YthnkmadipbfmaaaW.PrintLast Go.Proofs.YthnkmadipbfmaaaW.PrintMore Go.Proofs.Ythnkmadipbfmaaa.M Go.Proofs.Ythnkmadipbfmaaa.Reg Go.Proofs.Ythnkmadipbfmaaa.Rgw Go.Proofs.Ythnkmadipbfmaaa.Rwd Go.Proofs.Ythnkmadipbfmaaa.Chp Go.Proofs.Ythnkmadipbfmaaa.LzA Go.Proofs.Ythnkmadipbfmaaa.LzB Go.Proofs.Ythnkmadipbfmaaa.LzC Go.Proofs.Ythnkmadipbfmaaa.LzD Go.Proofs.Ythnkmadipbfmaaa.LzE Go.Proofs.Ythnkmadipbfmaaa.LzF Go.Proofs.Ythnkmadipbfmaaa.LzG
attribute [local go_sem] max2_mx min2_mn max_two min_two max_three min_three max_four min_four
set_option linter.unusedVariables false
set_option linter.unusedSimpArgs false

theorem inner_nil {B V : Nat} {s a : Value} (w : World) (hV : w.heap[V]? = some (.cells #[.pointer (some ⟨B, 0, none⟩)] 26 (0, 0))) (hh : w.heap[B]? = some (cel .nilFunc 0 1 s 0 a)) :
    Calls Try.prog 23 #[.pointer (some ⟨V, 0, none⟩)] w (fun e w' => e = .returned (.tuple #[]) ∧ Ch (· = B) w w' ∧ w'.heap[B]? = some (cel .nilFunc 0 1 s 1 a)) := by
  have c0 : w.cell? ⟨V, 0, none⟩ = some (.pointer (some ⟨B, 0, none⟩)) := at_cell hV 0
  have c1 : w.cell? ⟨B, 0, none⟩ = some .nilFunc := at_cell hh 0
  have hne : ∀ w, (binOp .neq 28 .nilFunc .nilFunc).run Try.prog w = .ok (.bool false) w := fun _ => rfl
  go_enter_defers Try.func23, Try.ntmps23
  go_wp2
  refine leaves_cons (f := 24) (args := #[.pointer (some ⟨B, 4, none⟩), .bool true]) (by simp) (by simp [go_sem]) ?_
  refine (store_deferred ⟨B, 4, none⟩ (.int .u32 0) _ _ (at_cell hh 4) (at_free hh 4)).mono ?_
  rintro e u' w'' ⟨rfl, rfl, rfl⟩
  exact ⟨_, results_none rfl _ _ _, rfl, (Ch.drew (· = B) _).trans (Ch.set _ _ _ rfl), at_set (at_drew hh) 4 _⟩
theorem get_nil {B : Nat} {s : Value} {v : Int} (w : World) (hh : w.heap[B]? = some (cel .nilFunc 0 0 s 0 (.int .i64 v))) :
    Calls Try.prog 14 #[.pointer (some ⟨B, 0, none⟩)] w (fun e w' => e = .returned (.int .i64 v) ∧ Ch (· = B) w w' ∧ w'.heap[B]? = some (cel .nilFunc 1 0 s 1 (.int .i64 v))) := by
  have hmf : ∀ (fn : Fn) (first cap : Array Value) (w : World), (Instr.makeFunc fn first cap).run Try.prog w = .ok (.func fn first cap) w := fun _ _ _ _ => rfl
  have ka : Ch (fun _ => False) w (w.alloc (.cells #[.pointer (some ⟨B, 0, none⟩)] 26 (0, 0))) := Ch.alloc _ _ _
  have hlt := at_lt hh
  have hVB : w.heap.size ≠ B := fun e => by omega
  have k0 : Ch (· = B) (w.alloc (.cells #[.pointer (some ⟨B, 0, none⟩)] 26 (0, 0))) ((w.alloc (.cells #[.pointer (some ⟨B, 0, none⟩)] 26 (0, 0))).setCell ⟨B, 2, none⟩ (.int .i32 1)) := Ch.set _ _ _ rfl
  have hd : Calls Try.prog 22 #[.pointer (some ⟨B, 1, none⟩), .func (.func 23) #[] #[.pointer (some ⟨w.heap.size, 0, none⟩)]] (w.alloc (.cells #[.pointer (some ⟨B, 0, none⟩)] 26 (0, 0))) (fun e w' => e = .returned (.tuple #[]) ∧ Ch (· = B) (w.alloc (.cells #[.pointer (some ⟨B, 0, none⟩)] 26 (0, 0))) w' ∧ w'.heap[B]? = some (cel .nilFunc 1 0 s 1 (.int .i64 v))) := by
    refine do_first 23 _ (fun w => rfl) _ _ (ka.at hh id) (Calls.mono (inner_nil _ (k0.at (heap_alloc_new _ _) hVB) (at_set (ka.at hh id) 2 _)) ?_)
    rintro e w3 ⟨rfl, h1, h2⟩
    exact ⟨.inl rfl, ⟨_, _, _, _, h2⟩, rfl, k0.trans (h1.trans ((Ch.drew (· = B) _).trans ((Ch.set (S := (· = B)) _ _ _ rfl).trans (Ch.set (S := (· = B)) _ _ _ rfl)))), at_set (at_set (at_drew h2) 1 _) 2 _⟩
  go_enter Try.func14, Try.ntmps14
  go_wp2_with (fail)
  refine Calls.mono hd ?_
  rintro e w' ⟨rfl, h1, h3⟩
  clear hd
  have kc : Ch (· = B) w w' := (ka.mono (fun _ _ x => x.elim)).trans h1
  have c5 : w'.cell? ⟨B, 5, none⟩ = some (.int .i64 v) := at_cell h3 5
  have cV : w'.cell? ⟨w.heap.size, 0, none⟩ = some (.pointer (some ⟨B, 0, none⟩)) := at_cell (h1.at (heap_alloc_new w (.cells #[.pointer (some ⟨B, 0, none⟩)] 26 (0, 0))) hVB) 0
  clear hh ka h1 hlt k0
  generalize w.heap.size = V at *
  go_wp2
  go_ret
  exact ⟨rfl, kc, h3⟩

end Go.Proofs.Ythnkmadipbfmaaa.LzH
