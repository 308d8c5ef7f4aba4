/- A cell's Get, and the asking that lets no panic go on: contracts for any closure. -/
import Derived.Test.YthnkmadipbfmaaaLzB
namespace Go.Proofs.Ythnkmadipbfmaaa.LzC
open Go.RowKit Go.Proofs.YthnkmadipbfmaaaW.PrintWords Go.Proofs.YthnkmadipbfmaaaW.PrintLast Go.Proofs.YthnkmadipbfmaaaW.PrintMore Go.Proofs.Ythnkmadipbfmaaa.M Go.Proofs.Ythnkmadipbfmaaa.Reg Go.Proofs.Ythnkmadipbfmaaa.Rgw Go.Proofs.Ythnkmadipbfmaaa.Rwd Go.Proofs.Ythnkmadipbfmaaa.Chp Go.Proofs.Ythnkmadipbfmaaa.LzA Go.Proofs.Ythnkmadipbfmaaa.LzB
attribute [local go_sem] max2_mx min2_mn max_two min_two max_three min_three max_four min_four
set_option linter.unusedVariables false
set_option linter.unusedSimpArgs false

theorem inner {B V : Nat} {s a : Value} (F : FuncId) (caps : Array Value) (hF : ∀ w, (callFunc F caps).run Try.prog w = .ok (.enter F caps) w) (w : World) (o : Option Int) (S : Nat → Prop) (R : World → Prop)
    (hV : w.heap[V]? = some (.cells #[.pointer (some ⟨B, 0, none⟩)] 26 (0, 0))) (hh : w.heap[B]? = some (cel (.func (.func F) #[] caps) 0 1 s 0 a)) (hSB : ¬ S B) (hSV : ¬ S V)
    (H : ∀ w1, Ch (fun _ => False) w w1 → Calls Try.prog F caps w1 (fun e w2 => ends e o ∧ Ch S w1 w2 ∧ R w2)) :
    Calls Try.prog 23 #[.pointer (some ⟨V, 0, none⟩)] w (fun e w' => ends0 e o ∧ ∃ w2, Ch S w w2 ∧ R w2 ∧ Ch (· = B) w2 w' ∧ w'.heap[B]? = some (cel (.func (.func F) #[] caps) 0 1 s 1 (val o a))) := by
  have hBV : B ≠ V := fun e => by rw [e, hV] at hh; cases hh
  have c0 : w.cell? ⟨V, 0, none⟩ = some (.pointer (some ⟨B, 0, none⟩)) := at_cell hV 0
  have c1 : w.cell? ⟨B, 0, none⟩ = some (.func (.func F) #[] caps) := at_cell hh 0
  have hne : ∀ w, (binOp .neq 28 (.func (.func F) #[] caps) .nilFunc).run Try.prog w = .ok (.bool true) w := fun _ => rfl
  have q0 : ∀ {w1 : World}, Ch (fun _ => False) w w1 → w1.cell? ⟨V, 0, none⟩ = some (.pointer (some ⟨B, 0, none⟩)) := fun h => at_cell (h.at hV id) 0
  have q1 : ∀ {w2 : World}, (o = some (o.getD 0) ∧ Ch S w w2 ∧ R w2) → w2.cell? ⟨V, 0, none⟩ = some (.pointer (some ⟨B, 0, none⟩)) := fun h => at_cell (h.2.1.at hV hSV) 0
  have q2 : ∀ {w3 : World}, (∃ w2, o = some (o.getD 0) ∧ Ch S w w2 ∧ R w2 ∧ w3 = w2.setCell ⟨B, 5, none⟩ (val o a)) → w3.cell? ⟨V, 0, none⟩ = some (.pointer (some ⟨B, 0, none⟩)) := fun ⟨w2, _, h, _, e⟩ => by
    subst e; exact (World.cell?_setCell_other _ _ _ _ (by simp)).trans (at_cell (h.at hV hSV) 0)
  have door : ∀ (u : FrameMode) (tmps : Array Value) (w2 w3 : World) (Q : Ending → World → Prop), settle u = u → u ≠ .run → Ch S w w2 → R w2 → Ch (· = B) w2 w3 → w3.heap[B]? = some (cel (.func (.func F) #[] caps) 0 1 s 0 (val o a)) →
      (∀ w', (∃ w2, Ch S w w2 ∧ R w2 ∧ Ch (· = B) w2 w' ∧ w'.heap[B]? = some (cel (.func (.func F) #[] caps) 0 1 s 1 (val o a))) → Leaves Try.prog Try.f23 tmps Q [] u w') →
      Leaves Try.prog Try.f23 tmps Q [{ target := Target.fn (Fn.func 24) #[], args := #[.pointer (some ⟨B, 4, none⟩), .bool true] }] u w3 := by
    intro u tmps w2 w3 Q hu hr h2 hR h3 hb hQ
    refine leaves_cons (f := 24) (args := #[.pointer (some ⟨B, 4, none⟩), .bool true]) hr (by simp [go_sem]) ?_
    refine (store_deferred ⟨B, 4, none⟩ (.int .u32 0) u _ (at_cell hb 4) (at_free hb 4)).mono ?_
    rintro e u' w'' ⟨rfl, rfl, rfl⟩
    dsimp only
    rw [hu]
    exact hQ _ ⟨w2, h2, hR, (h3.trans (Ch.drew _ _)).trans (Ch.set _ _ _ rfl), at_set (at_drew hb) 4 _⟩
  go_enter_defers Try.func23, Try.ntmps23
  go_wp2
  (with_reducible refine gate_region 2 true ?_)
  refine region_p 5 8 (Ch (fun _ => False) w) (fun w2 => o = some (o.getD 0) ∧ Ch S w w2 ∧ R w2) (fun w3 => ∃ w2, o = some (o.getD 0) ∧ Ch S w w2 ∧ R w2 ∧ w3 = w2.setCell ⟨B, 5, none⟩ (val o a)) _ (fun ch w2 => o = none ∧ Ch S w w2 ∧ R w2 ∧ ∃ t pv, ch = [{ v := .iface t pv, recovered := false }]) (by kernel_rfl) (by kernel_rfl) rfl (?hX) (by simp) (Ch.drew _ _) ?_
  rotate_left 1
  refine p_val (v := ?_) (a' := ?_) rfl (fun _ => by rfl) (by rfl) ?_ ?_ ?_
  rotate_left 2
  · intro l c w' hc hB; have f_ := hB.any (F := fun w => w.cell? ⟨V, 0, none⟩ = some (.pointer (some ⟨B, 0, none⟩))) q0 q1 q2; go_simp; (try go_ints); (with_reducible rfl)
  · intro c; simp only [u_0, u_1, u_2, u_3, Nat.reduceAdd]; rfl
  refine p_val (v := ?_) (a' := ?_) rfl (fun _ => by rfl) (by rfl) ?_ ?_ ?_
  rotate_left 2
  · intro l c w' hc hB; have f_ := hB.any (F := fun w => w.cell? ⟨V, 0, none⟩ = some (.pointer (some ⟨B, 0, none⟩))) q0 q1 q2; go_simp; (try go_ints); (with_reducible rfl)
  · intro c; simp only [u_0, u_1, u_2, u_3, Nat.reduceAdd]; rfl
  refine p_val (v := ?_) (a' := ?_) rfl (fun _ => by rfl) (by rfl) ?_ ?_ ?_
  rotate_left 2
  · intro l c w' hc hB; go_simp; (try go_ints); (with_reducible rfl)
  · intro c; simp only [u_0, u_1, u_2, u_3, Nat.reduceAdd]; rfl
  refine p_val (v := ?_) (a' := ?_) rfl (fun _ => by rfl) (by rfl) ?_ ?_ ?_
  rotate_left 2
  · intro l c w' hc hB; go_simp; (try go_ints); (with_reducible rfl)
  · intro c; simp only [u_0, u_1, u_2, u_3, Nat.reduceAdd]; rfl
  refine p_val (v := ?_) (a' := ?_) rfl (fun _ => by rfl) (by rfl) ?_ ?_ ?_
  rotate_left 2
  · intro l c w' hc hB; have h9_ := hB.pre hc (by kernel_rfl) (by kernel_rfl); have f_ := at_cell (h9_.at hh id) 0; go_simp; (try go_ints); (with_reducible rfl)
  · intro c; simp only [u_0, u_1, u_2, u_3, Nat.reduceAdd]; rfl
  refine p_call (v := (.int .i64 (o.getD 0))) (a' := ?_) rfl (fun _ => by rfl) (by rfl) (F) (caps) ?_ (fun _ _ => by kernel_rfl) ?_ ?_ ?_
  rotate_left 1
  · intro l c w' hc h0_; go_simp; (first | done | rfl)
  · intro w' h0_; refine Calls.mono (H w' h0_) ?_; rintro e w2 ⟨he, h1, h2⟩; cases o with | none => exact .inr (by obtain ⟨t, pv, rfl⟩ := he; exact ⟨_, rfl, rfl, Ch.trans (h0_.mono (fun _ _ h => h.elim)) h1, h2, _, _, rfl⟩) | some v => exact .inl ⟨he, rfl, Ch.trans (h0_.mono (fun _ _ h => h.elim)) h1, h2⟩
  · intro c; simp only [u_0, u_1, u_2, u_3, Nat.reduceAdd]; rfl
  refine p_val (v := ?_) (a' := ?_) rfl (fun _ => by rfl) (by rfl) ?_ ?_ ?_
  rotate_left 2
  · intro l c w' hc hB; go_simp; (try go_ints); (with_reducible rfl)
  · intro c; simp only [u_0, u_1, u_2, u_3, Nat.reduceAdd]; rfl
  refine p_val (v := ?_) (a' := ?_) rfl (fun _ => by rfl) (by rfl) ?_ ?_ ?_
  rotate_left 2
  · intro l c w' hc hB; go_simp; (try go_ints); (with_reducible rfl)
  · intro c; simp only [u_0, u_1, u_2, u_3, Nat.reduceAdd]; rfl
  refine p_store rfl (fun _ => by rfl) (by kernel_rfl) ?_ ?_
  · intro l c w' hc h1_; obtain ⟨e1, h2, h3⟩ := h1_; have hb := h2.at hh hSB; have c5 := at_cell hb 5; have z5 := at_free hb 5; refine ⟨w'.setCell ⟨B, 5, none⟩ (val o a), ?_, w', e1, h2, h3, rfl⟩; generalize o.getD 0 = v0 at *; subst e1; go_simp; (first | done | rfl)
  refine p_nil ?_
  intro c_ W_ HP_
  (try simp only [Exit.then])
  (try dsimp only)
  clear c_
  skip
  · obtain ⟨w2, e1, h2, h3, rfl⟩ := HP_
    refine door .returning _ w2 _ _ rfl (by simp) h2 h3 (Ch.set _ _ _ rfl) (at_set (h2.at hh hSB) 5 _) (fun w' hw' => ⟨_, results_none rfl _ _ _, ?_, hw'⟩)
    generalize o.getD 0 = v0 at *
    subst e1
    rfl
  case hX =>
    rintro ch a' w' ⟨rfl, h2, h3, t, pv, rfl⟩ hd
    show Leaves _ _ _ _ a'.defers _ _
    rw [hd]
    exact door (.panicking _) _ w' _ _ rfl (by simp) h2 h3 (Ch.refl _ _) (h2.at hh hSB) (fun w' hw' => ⟨⟨_, _, rfl⟩, hw'⟩)

end Go.Proofs.Ythnkmadipbfmaaa.LzC
