/- A cell's Get, and the asking that lets no panic go on: contracts for any closure. -/
import Derived.Test.YthnkmadipbfmaaaLzC
namespace Go.Proofs.Ythnkmadipbfmaaa.LzD
open Go.RowKit Go.Proofs.YthnkmadipbfmaaaW.PrintWords Go.Proofs.YthnkmadipbfmaaaW.PrintLast Go.Proofs.YthnkmadipbfmaaaW.PrintMore Go.Proofs.Ythnkmadipbfmaaa.M Go.Proofs.Ythnkmadipbfmaaa.Reg Go.Proofs.Ythnkmadipbfmaaa.Rgw Go.Proofs.Ythnkmadipbfmaaa.Rwd Go.Proofs.Ythnkmadipbfmaaa.Chp Go.Proofs.Ythnkmadipbfmaaa.LzA Go.Proofs.Ythnkmadipbfmaaa.LzB Go.Proofs.Ythnkmadipbfmaaa.LzC
attribute [local go_sem] max2_mx min2_mn max_two min_two max_three min_three max_four min_four
set_option linter.unusedVariables false
set_option linter.unusedSimpArgs false

theorem do_cell {B V : Nat} {s a : Value} (F : FuncId) (caps : Array Value) (hF : ∀ w, (callFunc F caps).run Try.prog w = .ok (.enter F caps) w) (w : World) (o : Option Int) (S : Nat → Prop) (R : World → Prop)
    (hV : w.heap[V]? = some (.cells #[.pointer (some ⟨B, 0, none⟩)] 26 (0, 0))) (hh : w.heap[B]? = some (cel (.func (.func F) #[] caps) 0 0 s 0 a)) (hSB : ¬ S B) (hSV : ¬ S V)
    (hR : ∀ {w2 w3}, Ch (· = B) w2 w3 → R w2 → R w3) (H : ∀ w1, Ch (· = B) w w1 → Calls Try.prog F caps w1 (fun e w2 => ends e o ∧ Ch S w1 w2 ∧ R w2)) :
    Calls Try.prog 22 #[.pointer (some ⟨B, 1, none⟩), .func (.func 23) #[] #[.pointer (some ⟨V, 0, none⟩)]] w (fun e w' => ends0 e o ∧ Ch (fun k => S k ∨ k = B) w w' ∧ R w' ∧ w'.heap[B]? = some (cel (.func (.func F) #[] caps) 1 0 s 1 (val o a))) := by
  have hBV : V ≠ B := fun e => by rw [← e, hV] at hh; cases hh
  have k0 : Ch (· = B) w (w.setCell ⟨B, 2, none⟩ (.int .i32 1)) := Ch.set _ _ _ rfl
  refine do_first 23 _ (fun w => rfl) w _ hh (Calls.mono (inner F caps hF _ o S R (k0.at hV hBV) (at_set hh 2 _) hSB hSV (fun w1 h => H w1 (k0.trans (h.mono (fun _ _ x => x.elim))))) ?_)
  rintro e w3 ⟨he, w2, h1, h2, h3, h4⟩
  refine ⟨?_, ⟨_, _, _, _, h4⟩, he, ?_, ?_, at_set (at_set (at_drew h4) 1 _) 2 _⟩
  · cases o with
    | none => exact .inr he
    | some v => exact .inl he
  · exact (k0.mono (fun _ _ x => .inr x)).trans ((h1.mono (fun _ _ x => .inl x)).trans ((h3.mono (fun _ _ x => .inr x)).trans ((Ch.drew _ _).trans ((Ch.set _ _ _ (.inr rfl)).trans (Ch.set _ _ _ (.inr rfl))))))
  · exact hR ((Ch.drew (· = B) _).trans ((Ch.set (S := (· = B)) _ _ _ rfl).trans (Ch.set (S := (· = B)) _ _ _ rfl))) (hR h3 h2)
theorem get_first {B : Nat} {s a : Value} (F : FuncId) (caps : Array Value) (hF : ∀ w, (callFunc F caps).run Try.prog w = .ok (.enter F caps) w) (w : World) (o : Option Int) (S : Nat → Prop) (R : World → Prop)
    (hh : w.heap[B]? = some (cel (.func (.func F) #[] caps) 0 0 s 0 a)) (hS : ∀ k, S k → k < w.heap.size ∧ k ≠ B)
    (hR : ∀ {w2 w3}, Ch (· = B) w2 w3 → R w2 → R w3) (H : ∀ w1, Ch (· = B) w w1 → Calls Try.prog F caps w1 (fun e w2 => ends e o ∧ Ch S w1 w2 ∧ R w2)) :
    Calls Try.prog 14 #[.pointer (some ⟨B, 0, none⟩)] w (fun e w' => ends e o ∧ Ch (fun k => S k ∨ k = B) w w' ∧ R w' ∧ w'.heap[B]? = some (cel (.func (.func F) #[] caps) 1 0 s 1 (val o a))) := by
  have hmf : ∀ (fn : Fn) (first cap : Array Value) (w : World), (Instr.makeFunc fn first cap).run Try.prog w = .ok (.func fn first cap) w := fun _ _ _ _ => rfl
  have ka : Ch (fun _ => False) w (w.alloc (.cells #[.pointer (some ⟨B, 0, none⟩)] 26 (0, 0))) := Ch.alloc _ _ _
  have hlt := at_lt hh
  have hSV : ¬ S w.heap.size := fun h => Nat.lt_irrefl _ (hS _ h).1
  have hd := do_cell F caps hF (w.alloc (.cells #[.pointer (some ⟨B, 0, none⟩)] 26 (0, 0))) o S R (heap_alloc_new _ _) (ka.at hh id) (fun h => (hS _ h).2 rfl) hSV hR (fun w1 h => H w1 ((ka.mono (fun _ _ x => x.elim)).trans h))
  go_enter Try.func14, Try.ntmps14
  go_wp2_with (fail)
  refine Calls.mono hd ?_
  rintro e w' ⟨he, h1, h2, h3⟩
  clear hd
  have kc : Ch (fun k => S k ∨ k = B) w w' := (ka.mono (fun _ _ x => x.elim)).trans h1
  have c5 := at_cell h3 5
  have cV := at_cell (h1.at (heap_alloc_new w (.cells #[.pointer (some ⟨B, 0, none⟩)] 26 (0, 0))) (fun x => by rcases x with x | x; exact hSV x; omega)) 0
  clear hh hS H ka hSV h1 hlt
  cases o with
  | none =>
    obtain ⟨t, pv, rfl⟩ := he
    exact ⟨rfl, ⟨_, _, rfl⟩, kc, h2, h3⟩
  | some v =>
    obtain rfl := he
    generalize w.heap.size = V at *
    have c5' : w'.cell? ⟨B, 5, none⟩ = some (.int .i64 v) := c5
    have cV' : w'.cell? ⟨V, 0, none⟩ = some (.pointer (some ⟨B, 0, none⟩)) := cV
    clear c5 cV
    go_wp2
    go_ret
    exact ⟨rfl, kc, h2, h3⟩
theorem get_done {B : Nat} {f s : Value} {d d' : Int} (hd : ¬ d = 0) {v : Int} (w : World) (hh : w.heap[B]? = some (cel f d 0 s d' (.int .i64 v))) :
    Calls Try.prog 14 #[.pointer (some ⟨B, 0, none⟩)] w (fun e w' => e = .returned (.int .i64 v) ∧ Below w.heap.size w w') := by
  have hmf : ∀ (fn : Fn) (first cap : Array Value) (w : World), (Instr.makeFunc fn first cap).run Try.prog w = .ok (.func fn first cap) w := fun _ _ _ _ => rfl
  have ka : Ch (fun _ => False) w (w.alloc (.cells #[.pointer (some ⟨B, 0, none⟩)] 26 (0, 0))) := Ch.alloc _ _ _
  have a1 : (w.alloc (.cells #[.pointer (some ⟨B, 0, none⟩)] 26 (0, 0))).cell? ⟨B, 1, none⟩ = some (.int .u32 d) := at_cell (ka.at hh id) 1
  have a5 : (w.alloc (.cells #[.pointer (some ⟨B, 0, none⟩)] 26 (0, 0))).cell? ⟨B, 5, none⟩ = some (.int .i64 v) := at_cell (ka.at hh id) 5
  go_enter Try.func14, Try.ntmps14
  go_wp2_with (go_at_call 22; refine (do_done ⟨B, 1, none⟩ d hd _ _ a1).mono ?_; rintro e w' ⟨rfl, rfl⟩)
  go_ret
  exact ⟨rfl, ka.below (Nat.le_refl _) (fun _ _ x => x)⟩

end Go.Proofs.Ythnkmadipbfmaaa.LzD
