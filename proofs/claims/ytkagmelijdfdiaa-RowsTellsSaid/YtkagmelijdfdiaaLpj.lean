/- Loops whose invariant speaks of memory and of a slice that grows; steps of a region in the text's order, one by one. No conditions of ours. -/
import Derived.Test.YtkagmelijdfdiaaLps
namespace Go.Proofs.Ytkagmelijdfdiaa.Reg
open Go Go.RowKit Go.Proofs.YtkagmelijdfdiaaW.PrintWords

def putF2 (a : Act) (S : List Tmp) (g : Tmp → Value) (sp : List (Tmp × Value)) : Act := { a with tmps := sp.foldl (fun t x => t.setIfInBounds x.1 x.2) (S.foldl (fun t s => t.setIfInBounds s (g s)) a.tmps) }
theorem loop_a {P : Program} {c : Code} {Q : Exit → Act → World → Prop} (J : Int → Act → World → Prop) (n : Int) (hn : 0 ≤ n) {a : Act} {W : World} (h0 : J 0 a W)
    (step : ∀ k a W, 0 ≤ k → k < n → J k a W → c.wp P (Exit.then (fun a' W' => J (k + 1) a' W') Q) a W) (last : ∀ a W, J n a W → c.wp P (Exit.then (fun _ _ => False) Q) a W) : (Code.loop c).wp P Q a W := by
  have mono : ∀ {c : Code} {Q Q' : Exit → Act → World → Prop} {a : Act} {w : World}, (∀ e a w, Q e a w → Q' e a w) → c.wp P Q a w → c.wp P Q' a w := by
    intro c Q Q' a w hQ h b k cs
    obtain ⟨e, a', w', hq, harr⟩ := h b k cs
    exact ⟨e, a', w', hQ _ _ _ hq, harr⟩
  have key : ∀ (d : Nat) (k : Int) (a : Act) (W : World), 0 ≤ k → n - k = d → J k a W → Code.rounds P c Q (d + 1) a W := by
    intro d
    induction d with
    | zero =>
      intro k a W h1 h2 hJ
      have e : k = n := by omega
      subst e
      refine rounds_next (mono (fun e a w h => ?_) (last a W hJ))
      cases e <;> first | exact h | exact h.elim
    | succ d ih =>
      intro k a W h1 h2 hJ
      refine rounds_next (mono (fun e a w h => ?_) (step k a W h1 (by omega) hJ))
      cases e <;> first | exact h | exact ih (k + 1) a w (by omega) (by omega) h
  exact wp_loop_rounds _ (key n.toNat 0 a W (by omega) (by omega) h0)
theorem loop_m {P : Program} {c : Code} {Q : Exit → Act → World → Prop} {a0 : Act} {W : World} (M : Int → World → Prop) (S : List Tmp) (sp : Int → List (Tmp × Value)) (n : Int) (hn : 0 ≤ n) (h0 : putF2 a0 S (fun s => a0.tmps.getD s undef) (sp 0) = a0) (hM : M 0 W)
    (step : ∀ (k : Int) (g : Tmp → Value) (W : World), 0 ≤ k → k < n → M k W → c.wp P (Exit.then (fun a' W' => ∃ g', putF2 a0 S g' (sp (k + 1)) = a' ∧ M (k + 1) W') Q) (putF2 a0 S g (sp k)) W)
    (last : ∀ (g : Tmp → Value) (W : World), M n W → c.wp P (Exit.then (fun _ _ => False) Q) (putF2 a0 S g (sp n)) W) : (Code.loop c).wp P Q a0 W := by
  refine loop_a (fun k a W => ∃ g, putF2 a0 S g (sp k) = a ∧ M k W) n hn ⟨_, h0, hM⟩ ?_ ?_
  · rintro k a W h1 h2 ⟨g, rfl, h⟩; exact step k g W h1 h2 h
  · rintro a W ⟨g, rfl, h⟩; exact last g W h
theorem loop_l {P : Program} {c : Code} {Q : Exit → Act → World → Prop} {a0 : Act} {w0 W : World} {α : Type} (d : Kd α) (e : Nat) (S : List Tmp) (sp : Int → Value → List (Tmp × Value)) (n : Int) (hn : 0 ≤ n) (v0 : Value) (h0 : putF2 a0 S (fun s => a0.tmps.getD s undef) (sp 0 v0) = a0) (R : Int → List α → Prop) (hR0 : R 0 [])
    (hV : Kd.R d e W w0.heap.size (fun _ => True) v0 []) (hB : Below w0.heap.size w0 W)
    (step : ∀ (k : Int) (g : Tmp → Value) (v : Value) (L : List α) (W : World), 0 ≤ k → k < n → R k L → Kd.R d e W w0.heap.size (fun _ => True) v L → Below w0.heap.size w0 W →
      c.wp P (Exit.then (fun a' W' => ∃ g' v' L', putF2 a0 S g' (sp (k + 1) v') = a' ∧ R (k + 1) L' ∧ Kd.R d e W' w0.heap.size (fun _ => True) v' L' ∧ Below w0.heap.size w0 W') Q) (putF2 a0 S g (sp k v)) W)
    (last : ∀ (g : Tmp → Value) (v : Value) (L : List α) (W : World), R n L → Kd.R d e W w0.heap.size (fun _ => True) v L → Below w0.heap.size w0 W → c.wp P (Exit.then (fun _ _ => False) Q) (putF2 a0 S g (sp n v)) W) : (Code.loop c).wp P Q a0 W := by
  refine loop_a (fun k a W => ∃ g v L, putF2 a0 S g (sp k v) = a ∧ R k L ∧ Kd.R d e W w0.heap.size (fun _ => True) v L ∧ Below w0.heap.size w0 W) n hn ⟨_, _, _, h0, hR0, hV, hB⟩ ?_ ?_
  · rintro k a W h1 h2 ⟨g, v, L, rfl, h3, h4, h5⟩; exact step k g v L W h1 h2 h3 h4 h5
  · rintro a W ⟨g, v, L, rfl, h3, h4, h5⟩; exact last g v L W h3 h4 h5
theorem round_l {α : Type} {F : (Tmp → Value) → Value → Act} {a' : Act} {R : Value → List α → Prop} (v : Value) (L : List α) (p : R v L) (h : F (fun s => a'.tmps.getD s undef) v = a') : ∃ g' v' L', F g' v' = a' ∧ R v' L' := ⟨_, v, L, h, p⟩
/-- one operation of a region in the text's order -/
theorem q_val {P : Program} {ops : Array Oper} {Q : Exit → Act → World → Prop} {a a' : Act} {w w1 : World} {rest : List Oper} {o : Oper} {v : Value} {N : Option Tmp} (hN : o.dst = N) (hw : Region.wanted o (yielded ops a.tmps) = true) (hrun : (execOp a.eval o).run P w = .ok (.value v) w1) (ha : a.put N v = a')
    (h : wpList P ops Q rest a' w1) : wpList P ops Q (o :: rest) a w := by
  subst hN; subst ha
  refine wpList_step fun K hK => ?_
  rw [if_pos hw]
  unfold Oper.wp
  rw [hrun]
  exact hK _ _ h
theorem q_v {P : Program} {ops : Array Oper} {Q : Exit → Act → World → Prop} {a a' : Act} {w : World} {rest : List Oper} {o : Oper} {v : Value} {N : Option Tmp} (hN : o.dst = N) (hw : Region.wanted o (yielded ops a.tmps) = true) (hrun : (execOp a.eval o).run P w = .ok (.value v) w) (ha : a.put N v = a')
    (h : wpList P ops Q rest a' w) : wpList P ops Q (o :: rest) a w := q_val hN hw hrun ha h
end Go.Proofs.Ytkagmelijdfdiaa.Reg
