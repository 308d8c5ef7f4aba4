/- sync.Once's Do, a cell's Get, Done, New, in the run of one goroutine: contracts for any closure. -/
import Derived.Test.YthnkmadipbfmaaaLzA
namespace Go.Proofs.Ythnkmadipbfmaaa.LzB
open Go.RowKit Go.Proofs.YthnkmadipbfmaaaW.PrintWords Go.Proofs.YthnkmadipbfmaaaW.PrintLast Go.Proofs.YthnkmadipbfmaaaW.PrintMore Go.Proofs.Ythnkmadipbfmaaa.M Go.Proofs.Ythnkmadipbfmaaa.Reg Go.Proofs.Ythnkmadipbfmaaa.Rgw Go.Proofs.Ythnkmadipbfmaaa.Rwd Go.Proofs.Ythnkmadipbfmaaa.Chp Go.Proofs.Ythnkmadipbfmaaa.LzA
attribute [local go_sem] max2_mx min2_mn max_two min_two max_three min_three max_four min_four
set_option linter.unusedVariables false
set_option linter.unusedSimpArgs false

theorem do_first {B : Nat} {f s a : Value} {d' : Int} (G : FuncId) (gc : Array Value) (hG : ∀ w, (callFunc G gc).run Try.prog w = .ok (.enter G gc) w) (w : World) (R : Ending → World → Prop) (hh : w.heap[B]? = some (cel f 0 0 s d' a))
    (H : Calls Try.prog G gc (w.setCell ⟨B, 2, none⟩ (.int .i32 1)) (fun e w2 => Fin e ∧ (∃ f' s' e' a', w2.heap[B]? = some (cel f' 0 1 s' e' a')) ∧ R e ((w2.drew.setCell ⟨B, 1, none⟩ (.int .u32 1)).setCell ⟨B, 2, none⟩ (.int .i32 0)))) :
    Calls Try.prog 22 #[.pointer (some ⟨B, 1, none⟩), .func (.func G) #[] gc] w R := by
  have h1 : w.cell? ⟨B, 1, none⟩ = some (.int .u32 0) := at_cell hh 1
  have hnot : ∀ (x : Bool) (w : World), (Op.unary .not (.bool x)).run Try.prog w = .ok (.bool (!x)) w := fun _ _ => rfl
  go_enter Try.func22, Try.ntmps22
  go_wp2_with (first | (go_at_call 20; refine (load_bool ⟨B, 1, none⟩ 0 _ h1).mono ?_; rintro e w' ⟨rfl, rfl⟩) | (go_at_call 29; refine slow G gc hG _ _ hh (Calls.mono H ?_); rintro e w2 ⟨hf, hx, hR⟩; refine ⟨hf, hx, ?_⟩; clear hx; generalize (w2.drew.setCell ⟨B, 1, none⟩ (.int .u32 1)).setCell ⟨B, 2, none⟩ (.int .i32 0) = w3 at *; obtain rfl | ⟨t, pv, rfl⟩ := hf))
  · go_end0; exact hR
  · exact ⟨rfl, hR⟩
theorem do_done (a : Addr) (d : Int) (hd : ¬ d = 0) (fv : Value) (w : World) (h0 : w.cell? a = some (.int .u32 d)) : Calls Try.prog 22 #[.pointer (some a), fv] w fun e w' => e = .returned (.tuple #[]) ∧ w' = w := by
  have hnot : ∀ (x : Bool) (w : World), (Op.unary .not (.bool x)).run Try.prog w = .ok (.bool (!x)) w := fun _ _ => rfl
  have hd' : (d != 0) = true := by simp [hd]
  go_enter Try.func22, Try.ntmps22
  go_wp2_with (first | (go_at_call 20; refine (load_bool a d _ h0).mono ?_; rintro e w' ⟨rfl, rfl⟩))
  go_end0
  exact ⟨rfl, rfl⟩
theorem new_ (F : FuncId) (caps : Array Value) (w : World) : Calls Try.prog 8 #[.func (.func F) #[] caps] w fun e w' => e = .returned (.pointer (some ⟨w.heap.size, 0, none⟩)) ∧ w' = w.alloc (cel (.func (.func F) #[] caps) 0 0 (.int .u32 0) 0 (.int .i64 0)) := by
  go_enter Try.func8, Try.ntmps8
  go_wp2
  go_ret
  exact ⟨rfl, rfl⟩
theorem new_nil (w : World) : Calls Try.prog 8 #[.nilFunc] w fun e w' => e = .returned (.pointer (some ⟨w.heap.size, 0, none⟩)) ∧ w' = w.alloc (cel .nilFunc 0 0 (.int .u32 0) 0 (.int .i64 0)) := by
  go_enter Try.func8, Try.ntmps8
  go_wp2
  go_ret
  exact ⟨rfl, rfl⟩
theorem done_ (B : Nat) (f s a : Value) (d l d' : Int) (w : World) (hh : w.heap[B]? = some (cel f d l s d' a)) : Calls Try.prog 11 #[.pointer (some ⟨B, 0, none⟩)] w fun e w' => e = .returned (.bool (d' != 0)) ∧ w' = w := by
  have h1 : w.cell? ⟨B, 4, none⟩ = some (.int .u32 d') := at_cell hh 4
  go_enter Try.func11, Try.ntmps11
  go_wp2_with (first | (go_at_call 20; refine (load_bool ⟨B, 4, none⟩ d' _ h1).mono ?_; rintro e w' ⟨rfl, rfl⟩))
  go_ret
  exact ⟨rfl, rfl⟩
def ends (e : Ending) : Option Int → Prop
  | some v => e = .returned (.int .i64 v)
  | none => ∃ t pv, e = .panicked [{ v := .iface t pv, recovered := false }]
def ends0 (e : Ending) : Option Int → Prop
  | some v => e = .returned (.tuple #[])
  | none => ∃ t pv, e = .panicked [{ v := .iface t pv, recovered := false }]
def val (o : Option Int) (a : Value) : Value := match o with | some v => .int .i64 v | none => a

end Go.Proofs.Ythnkmadipbfmaaa.LzB
