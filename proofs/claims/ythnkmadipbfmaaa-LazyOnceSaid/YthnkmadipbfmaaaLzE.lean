/- The asking of a cell that lets no panic go on: a contract over the cell's Get. -/
import Derived.Test.YthnkmadipbfmaaaLzD
namespace Go.Proofs.Ythnkmadipbfmaaa.LzE
open Go.RowKit Go.Proofs.YthnkmadipbfmaaaW.PrintWords Go.Proofs.YthnkmadipbfmaaaW.PrintLast Go.Proofs.YthnkmadipbfmaaaW.PrintMore Go.Proofs.Ythnkmadipbfmaaa.M Go.Proofs.Ythnkmadipbfmaaa.Reg Go.Proofs.Ythnkmadipbfmaaa.Rgw Go.Proofs.Ythnkmadipbfmaaa.Rwd Go.Proofs.Ythnkmadipbfmaaa.Chp Go.Proofs.Ythnkmadipbfmaaa.LzA Go.Proofs.Ythnkmadipbfmaaa.LzB Go.Proofs.Ythnkmadipbfmaaa.LzC Go.Proofs.Ythnkmadipbfmaaa.LzD
attribute [local go_sem] max2_mx min2_mn max_two min_two max_three min_three max_four min_four
set_option linter.unusedVariables false
set_option linter.unusedSimpArgs false

theorem catch_panicking (p q : Addr) (hpq : p ≠ q) (x y : Value) (u : TypeId) (pv : Value) (older : List PanicEntry) (w : World) (hx : w.cell? p = some x) (hz : w.frozen? p = false) (hy : w.cell? q = some y) (hz' : w.frozen? q = false) :
    CallsD Try.prog 21 #[.pointer (some p), .pointer (some q)] (.panicking ({ v := .iface u pv, recovered := false } :: older)) w fun e u' w' =>
      e = .returned (.tuple #[]) ∧ u' = .panicking ({ v := .iface u pv, recovered := true } :: older) ∧ w' = (w.setCell p (.int .i64 0)).setCell q (.bool true) := by
  have hy2 : (w.setCell p (.int .i64 0)).cell? q = some y := (World.cell?_setCell_other _ _ _ _ hpq).trans hy
  refine callsD_of_wpS Try.func21 rfl fun c₀ cs hu => ?_
  apply wpS_seq
  apply wpS_region
  simp [wpOpsS, go_sem, recoverD, hu, Try.ntmps21, Exit.thenS]
  refine wpS_cond (t := true) (by simp [Act.eval, Array.replicate]) ?_
  simp only [if_true]
  apply wpS_seq
  apply wpS_region
  simp [wpOpsS, go_sem, hx, hz, Exit.thenS]
  apply wpS_region
  simp [wpOpsS, go_sem, hy2, hz', bodyPostS, results, Try.results21]
theorem catch_idle (p q : Addr) (w : World) :
    CallsD Try.prog 21 #[.pointer (some p), .pointer (some q)] .returning w fun e u' w' => e = .returned (.tuple #[]) ∧ u' = .returning ∧ w' = w := by
  refine callsD_of_wpS Try.func21 rfl fun c₀ cs hu => ?_
  apply wpS_seq
  apply wpS_region
  simp [wpOpsS, go_sem, recoverD, hu, Try.ntmps21, Exit.thenS]
  refine wpS_cond (t := false) (by simp [Act.eval, Array.replicate]) ?_
  simp only [Bool.false_eq_true, if_false]
  refine wpS_of_wp (wp_skip ?_)
  cases c₀
  simp_all [bodyPostS, results, Try.results21]
theorem get_ (p : Value) (w : World) (o : Option Int) (S : Nat → Prop) (R : World → Prop) (hS : ∀ k, S k → k < w.heap.size) (hR : ∀ {w2 w3}, Ch (fun k => w.heap.size ≤ k) w2 w3 → R w2 → R w3)
    (H : ∀ w1, Below w.heap.size w w1 → Calls Try.prog 14 #[p] w1 (fun e w2 => ends e o ∧ Ch S w1 w2 ∧ R w2)) :
    Calls Try.prog 12 #[p] w (fun e w' => e = .returned (.tuple #[.int .i64 (o.getD 0), .bool o.isNone]) ∧ Ch S w w' ∧ R w') := by
  have hmf : ∀ (fn : Fn) (first cap : Array Value) (w : World), (Instr.makeFunc fn first cap).run Try.prog w = .ok (.func fn first cap) w := fun _ _ _ _ => rfl
  go_enter_defers Try.func12, Try.ntmps12
  go_wp2_with (fail)
  have k0 : Below w.heap.size w (w.alloc (.cells #[.int .i64 0] 3 (0, 0))) := (Below.refl _ _).alloc (Nat.le_refl _) _
  have k1 : Below w.heap.size w ((w.alloc (.cells #[.int .i64 0] 3 (0, 0))).alloc (.cells #[.bool false] 4 (0, 0))) := k0.alloc (by simp) _
  refine Calls.mono (H _ k1) ?_
  rintro e w2 ⟨he, h1, h2⟩
  have hSn : ∀ k, w.heap.size ≤ k → ¬ S k := fun k hk h => by have := hS k h; omega
  have b1 : w2.heap[w.heap.size]? = some (.cells #[.int .i64 0] 3 (0, 0)) := h1.at ((Ch.alloc (fun _ => False) (w.alloc (.cells #[.int .i64 0] 3 (0, 0))) (.cells #[.bool false] 4 (0, 0))).at (heap_alloc_new _ _) id) (hSn _ (Nat.le_refl _))
  have b2 : w2.heap[w.heap.size + 1]? = some (.cells #[.bool false] 4 (0, 0)) := h1.at (by have := heap_alloc_new (w.alloc (.cells #[.int .i64 0] 3 (0, 0))) (.cells #[.bool false] 4 (0, 0)); simpa using this) (hSn _ (by omega))
  have ks : Ch S w w2 := (Ch.of_below k1 (fun k hk hk' => by omega)).trans h1
  have lt1 := at_lt b1
  have lt2 := at_lt b2
  clear H k0 k1 h1 hSn hS
  have hR' : ∀ {w3}, Ch (fun k => w.heap.size ≤ k) w2 w3 → R w3 := fun h => hR h h2
  have ks' : ∀ {w3}, Ch (fun k => w.heap.size ≤ k) w2 w3 → Ch S w w3 := fun {w3} h => ⟨h.os.trans ks.os, h.tape.trans ks.tape, h.output.trans ks.output, Nat.le_trans ks.size h.size, fun k hk hn => (h.keep k (Nat.lt_of_lt_of_le hk ks.size) (by omega)).trans (ks.keep k hk hn)⟩
  clear hR ks h2
  generalize w.heap.size = N at *
  have hn : (⟨N, 0, none⟩ : Addr) ≠ ⟨N + 1, 0, none⟩ := fun e => by injection e with e _; omega
  cases o with
  | none =>
    obtain ⟨t, pv, rfl⟩ := he
    show Leaves _ _ _ _ _ _ _
    refine leaves_cons (f := 21) (args := #[.pointer (some ⟨N, 0, none⟩), .pointer (some ⟨N + 1, 0, none⟩)]) (by simp) (by simp [go_sem]) ?_
    refine (catch_panicking ⟨N, 0, none⟩ ⟨N + 1, 0, none⟩ hn _ _ t pv [] _ (at_cell b1 0) (at_free b1 0) (at_cell b2 0) (at_free b2 0)).mono ?_
    rintro e u' w'' ⟨rfl, rfl, rfl⟩
    have f1 : ((w2.setCell ⟨N, 0, none⟩ (.int .i64 0)).setCell ⟨N + 1, 0, none⟩ (.bool true)).cell? ⟨N, 0, none⟩ = some (.int .i64 0) := (World.cell?_setCell_other _ _ _ _ (Ne.symm hn)).trans (World.cell?_setCell_same _ _ _ (at_cell b1 0))
    have f2 : ((w2.setCell ⟨N, 0, none⟩ (.int .i64 0)).setCell ⟨N + 1, 0, none⟩ (.bool true)).cell? ⟨N + 1, 0, none⟩ = some (.bool true) := World.cell?_setCell_same _ _ _ ((World.cell?_setCell_other _ _ _ _ hn).trans (at_cell b2 0))
    have kk : Ch (fun k => N ≤ k) w2 ((w2.setCell ⟨N, 0, none⟩ (.int .i64 0)).setCell ⟨N + 1, 0, none⟩ (.bool true)) := (Ch.set (S := fun k => N ≤ k) _ _ _ (Nat.le_refl _)).trans (Ch.set (S := fun k => N ≤ k) _ _ _ (Nat.le_succ _))
    refine ⟨.tuple #[.int .i64 0, .bool true], ?_, rfl, ks' kk, hR' kk⟩
    simp [results, Try.results12, go_sem, f1, f2]
  | some v =>
    obtain rfl := he
    have c1 : w2.cell? ⟨N, 0, none⟩ = some (.int .i64 0) := at_cell b1 0
    have z1 : w2.frozen? ⟨N, 0, none⟩ = false := at_free b1 0
    have c2 : w2.cell? ⟨N + 1, 0, none⟩ = some (.bool false) := at_cell b2 0
    have z2 : w2.frozen? ⟨N + 1, 0, none⟩ = false := at_free b2 0
    have c2' : (w2.setCell ⟨N, 0, none⟩ (.int .i64 v)).cell? ⟨N + 1, 0, none⟩ = some (.bool false) := (World.cell?_setCell_other _ _ _ _ hn).trans c2
    go_wp2
    refine leaves_cons (f := 21) (args := #[.pointer (some ⟨N, 0, none⟩), .pointer (some ⟨N + 1, 0, none⟩)]) (by simp) (by simp [go_sem]) ?_
    refine (catch_idle ⟨N, 0, none⟩ ⟨N + 1, 0, none⟩ _).mono ?_
    rintro e u' w'' ⟨rfl, rfl, rfl⟩
    have f1 : ((w2.setCell ⟨N, 0, none⟩ (.int .i64 v)).setCell ⟨N + 1, 0, none⟩ (.bool false)).cell? ⟨N, 0, none⟩ = some (.int .i64 v) := (World.cell?_setCell_other _ _ _ _ (Ne.symm hn)).trans (World.cell?_setCell_same _ _ _ (at_cell b1 0))
    have f2 : ((w2.setCell ⟨N, 0, none⟩ (.int .i64 v)).setCell ⟨N + 1, 0, none⟩ (.bool false)).cell? ⟨N + 1, 0, none⟩ = some (.bool false) := World.cell?_setCell_same _ _ _ c2'
    have kk : Ch (fun k => N ≤ k) w2 ((w2.setCell ⟨N, 0, none⟩ (.int .i64 v)).setCell ⟨N + 1, 0, none⟩ (.bool false)) := (Ch.set (S := fun k => N ≤ k) _ _ _ (Nat.le_refl _)).trans (Ch.set (S := fun k => N ≤ k) _ _ _ (Nat.le_succ _))
    refine ⟨.tuple #[.int .i64 v, .bool false], ?_, rfl, ks' kk, hR' kk⟩
    simp [results, Try.results12, go_sem, f1, f2]

end Go.Proofs.Ythnkmadipbfmaaa.LzE
