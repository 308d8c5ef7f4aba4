/- sync.Once, the mutex, atomics, in the run of one goroutine: contracts for any closure. -/
import Derived.Test.YthnkmadipbfmaaaRows
import Derived.Test.YthnkmadipbfmaaaMath
import Derived.Test.YthnkmadipbfmaaaRwd
import Derived.Test.YthnkmadipbfmaaaLpj
import Derived.Test.YthnkmadipbfmaaaChp
import Derived.Defers
import Derived.Recover
import Derived.Laws.LoneSync
import Derived.RegionCalls
import Derived.Laws.Pointers
import Derived.Laws.NewBlocks
namespace Go.Proofs.Ythnkmadipbfmaaa.LzA
open Go.RowKit Go.Proofs.YthnkmadipbfmaaaW.PrintWords Go.Proofs.YthnkmadipbfmaaaW.PrintLast Go.Proofs.YthnkmadipbfmaaaW.PrintMore Go.Proofs.Ythnkmadipbfmaaa.M Go.Proofs.Ythnkmadipbfmaaa.Reg Go.Proofs.Ythnkmadipbfmaaa.Rgw Go.Proofs.Ythnkmadipbfmaaa.Rwd Go.Proofs.Ythnkmadipbfmaaa.Chp
attribute [local go_sem] max2_mx min2_mn max_two min_two max_three min_three max_four min_four
set_option linter.unusedVariables false
set_option linter.unusedSimpArgs false

abbrev cel (f : Value) (d l : Int) (s : Value) (d' : Int) (a : Value) : Obj := .cells #[f, .int .u32 d, .int .i32 l, s, .int .u32 d', a] 60 (0, 0)
theorem disable (w : World) : (callFunc 39 #[]).run Try.prog w = .ok (.value (.tuple #[])) w := run_call_mark0 Try.func39 (by kernel_rfl) (by kernel_rfl) (by kernel_rfl) .disable (by kernel_rfl) w
theorem enable (w : World) : (callFunc 41 #[]).run Try.prog w = .ok (.value (.tuple #[])) w := run_call_mark0 Try.func41 (by kernel_rfl) (by kernel_rfl) (by kernel_rfl) .enable (by kernel_rfl) w
theorem acquire (a : Addr) (w : World) : (callFunc 42 #[.pointer (some a)]).run Try.prog w = .ok (.value (.tuple #[])) w := run_call_marked Try.func42 (by kernel_rfl) (by kernel_rfl) (by kernel_rfl) .acquire (by kernel_rfl) a w
theorem releaseMerge (a : Addr) (w : World) : (callFunc 44 #[.pointer (some a)]).run Try.prog w = .ok (.value (.tuple #[])) w := run_call_marked Try.func44 (by kernel_rfl) (by kernel_rfl) (by kernel_rfl) .releaseMerge (by kernel_rfl) a w
theorem store_deferred (a : Addr) (x : Value) (u : FrameMode) (w : World) (hc : w.cell? a = some x) (hz : w.frozen? a = false) :
    CallsD Try.prog 24 #[.pointer (some a), .bool true] u w fun e u' w' => u' = u ∧ (e = .returned (.tuple #[]) ∧ w' = w.drew.setCell a (.int .u32 1)) := by
  have hc' : w.drew.cell? a = some x := by go_simp
  have hz' : w.drew.frozen? a = false := by go_simp
  have hst := run_call_store (P := Try.prog) Try.func30 (by kernel_rfl) (by kernel_rfl) (by kernel_rfl) (by kernel_rfl) (k := .u32) (y := 1) hc' hz'
  go_enter_d Try.func24, Try.ntmps24
  go_wp2
  go_region_calls
  all_goals (go_end0; exact ⟨rfl, rfl⟩)
theorem unlock_deferred (a : Addr) (u : FrameMode) (w : World) (hc : w.cell? a = some (.int .i32 1)) (hz : w.frozen? a = false) :
    CallsD Try.prog 36 #[.pointer (some a)] u w fun e u' w' => u' = u ∧ (e = .returned (.tuple #[]) ∧ w' = w.setCell a (.int .i32 0)) := by
  have hd := disable
  have he := enable
  have hr := releaseMerge
  have hadd := run_call_add (P := Try.prog) Try.func45 (by kernel_rfl) (by kernel_rfl) (by kernel_rfl) .i32 (by kernel_rfl) (y := -1) (s := 0) hc hz (by simp [go_sem]; rfl)
  have hcv := run_convert_to_unsafe (P := Try.prog) (src := 79) (dst := 83) Try.underlying79 Try.underlying83 (by kernel_rfl) hc
  go_enter_d Try.func36, Try.ntmps36
  go_wp2
  repeat' (first | go_end0 | (simp only [Exit.inBlock, Exit.then]; refine bodyPost_ret (results_none rfl _ _ _) rfl ?_) | (refine bodyPost_ret (results_none rfl _ _ _) rfl ?_) | exact ⟨rfl, rfl⟩ | go_wp2)
theorem lock_free (a : Addr) (w : World) (hc : w.cell? a = some (.int .i32 0)) (hz : w.frozen? a = false) :
    Calls Try.prog 35 #[.pointer (some a)] w fun e w' => e = .returned (.tuple #[]) ∧ w' = w.setCell a (.int .i32 1) := by
  have hd := disable
  have he := enable
  have ha := acquire
  have hcas := run_call_cas_hit (P := Try.prog) Try.func40 (by kernel_rfl) (by kernel_rfl) (by kernel_rfl) .i32 (by kernel_rfl) (y := 1) hc hz
  have hc' : (w.setCell a (.int .i32 1)).cell? a = some (.int .i32 1) := World.cell?_setCell_same w a _ hc
  have hcv := run_convert_to_unsafe (P := Try.prog) (src := 79) (dst := 83) Try.underlying79 Try.underlying83 (by kernel_rfl) hc'
  go_enter Try.func35, Try.ntmps35
  go_wp2
  repeat' (first | go_end0 | (simp only [Exit.inBlock, Exit.then]; refine bodyPost_ret (results_none rfl _ _ _) rfl ?_) | (refine bodyPost_ret (results_none rfl _ _ _) rfl ?_) | exact ⟨rfl, rfl⟩ | go_wp2)
theorem load_bool (a : Addr) (d : Int) (w : World) (hc : w.cell? a = some (.int .u32 d)) : Calls Try.prog 20 #[.pointer (some a)] w fun e w' => e = .returned (.bool (d != 0)) ∧ w' = w := by
  have hl := run_call_load (P := Try.prog) Try.func28 (by kernel_rfl) (by kernel_rfl) (by kernel_rfl) .u32 (by kernel_rfl) hc
  go_enter Try.func20, Try.ntmps20
  go_wp2
  go_ret
  exact ⟨rfl, rfl⟩
/-- how a closure ends that is handed to a Once -/
def Fin (e : Ending) : Prop := e = .returned (.tuple #[]) ∨ ∃ t pv, e = .panicked [{ v := .iface t pv, recovered := false }]
theorem slow_door {B : Nat} {w2 : World} {f s a : Value} {d' : Int} (hh : w2.heap[B]? = some (cel f 0 1 s d' a)) (u : FrameMode) (hu : settle u = u) (hr : u ≠ .run) (tmps : Array Value) (R : Ending → World → Prop)
    (h : Leaves Try.prog Try.f29 tmps R [] u ((w2.drew.setCell ⟨B, 1, none⟩ (.int .u32 1)).setCell ⟨B, 2, none⟩ (.int .i32 0))) :
    Leaves Try.prog Try.f29 tmps R [{ target := Target.fn (Fn.func 24) #[], args := #[.pointer (some ⟨B, 1, none⟩), .bool true] }, { target := Target.fn (Fn.func 36) #[], args := #[.pointer (some ⟨B, 2, none⟩)] }] u w2 := by
  have h1 : w2.cell? ⟨B, 1, none⟩ = some (.int .u32 0) := at_cell hh 1
  have h2 : w2.cell? ⟨B, 2, none⟩ = some (.int .i32 1) := at_cell hh 2
  have z1 : w2.frozen? ⟨B, 1, none⟩ = false := at_free hh 1
  have z2 : w2.frozen? ⟨B, 2, none⟩ = false := at_free hh 2
  refine leaves_cons (f := 24) (args := #[.pointer (some ⟨B, 1, none⟩), .bool true]) hr (by simp [go_sem]) ?_
  refine (store_deferred ⟨B, 1, none⟩ (.int .u32 0) u _ h1 z1).mono ?_
  rintro e u' w'' ⟨rfl, rfl, rfl⟩
  dsimp only
  rw [hu]
  refine leaves_cons (f := 36) (args := #[.pointer (some ⟨B, 2, none⟩)]) hr (by simp [go_sem]) ?_
  refine (unlock_deferred ⟨B, 2, none⟩ _ _ ?_ (by simp [z2])).mono ?_
  · refine (World.cell?_setCell_other _ ⟨B, 1, none⟩ ⟨B, 2, none⟩ _ (by simp)).trans ?_
    rw [World.cell?_drew]; exact h2
  rintro e u' w'' ⟨rfl, rfl, rfl⟩
  dsimp only
  rw [hu]
  exact h
theorem slow {B : Nat} {f s a : Value} {d' : Int} (G : FuncId) (gc : Array Value) (hG : ∀ w, (callFunc G gc).run Try.prog w = .ok (.enter G gc) w) (w : World) (R : Ending → World → Prop) (hh : w.heap[B]? = some (cel f 0 0 s d' a))
    (H : Calls Try.prog G gc (w.setCell ⟨B, 2, none⟩ (.int .i32 1)) (fun e w2 => Fin e ∧ (∃ f' s' e' a', w2.heap[B]? = some (cel f' 0 1 s' e' a')) ∧ R e ((w2.drew.setCell ⟨B, 1, none⟩ (.int .u32 1)).setCell ⟨B, 2, none⟩ (.int .i32 0)))) :
    Calls Try.prog 29 #[.pointer (some ⟨B, 1, none⟩), .func (.func G) #[] gc] w R := by
  have h1 : w.cell? ⟨B, 1, none⟩ = some (.int .u32 0) := at_cell hh 1
  have h2 : w.cell? ⟨B, 2, none⟩ = some (.int .i32 0) := at_cell hh 2
  have z1 : w.frozen? ⟨B, 1, none⟩ = false := at_free hh 1
  have z2 : w.frozen? ⟨B, 2, none⟩ = false := at_free hh 2
  have hnot : ∀ (x : Bool) (w : World), (Op.unary .not (.bool x)).run Try.prog w = .ok (.bool (!x)) w := fun _ _ => rfl
  go_enter_defers Try.func29, Try.ntmps29
  go_wp2_with (first | (go_at_call 35; refine (lock_free ⟨B, 2, none⟩ _ h2 z2).mono ?_; rintro e w' ⟨rfl, rfl⟩) | (go_at_call 20; refine (load_bool ⟨B, 1, none⟩ 0 _ ((World.cell?_setCell_other _ ⟨B, 2, none⟩ ⟨B, 1, none⟩ _ (by simp)).trans h1)).mono ?_; rintro e w' ⟨rfl, rfl⟩))
  rename_i K hK
  refine Calls.mono H ?_
  rintro e w2 ⟨rfl | ⟨t, pv, rfl⟩, ⟨f', s', e', a', hh2⟩, hR⟩
  · refine hK _ _ (wpList_nil ?_)
    refine slow_door hh2 .returning rfl (by simp) _ R ?_
    exact ⟨_, results_none rfl _ _ _, hR⟩
  · refine slow_door hh2 (.panicking _) rfl (by simp) _ R ?_
    exact hR

end Go.Proofs.Ythnkmadipbfmaaa.LzA
