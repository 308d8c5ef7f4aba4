/- A loop that counts from 0 up to a number: what holds of memory at the head of each round; what the slots hold besides is left open. No conditions of ours. -/
import Derived.Test.YtfddmjjdnpkleaaReg
import Derived.Laws.Tables
namespace Go.Proofs.Ytfddmjjdnpkleaa.Reg
open Go Go.RowKit

def putF (a : Act) (S : List Tmp) (g : Tmp → Value) (i : Tmp) (k : Int) : Act := { a with tmps := (S.foldl (fun t s => t.setIfInBounds s (g s)) a.tmps).setIfInBounds i (.int .i64 k) }
theorem St.take {w0 w : World} {L : List Blk} (h : St w0 L w) (n : Nat) : St w0 (L.take n) w := h.sub (List.take_sublist n L)
theorem round_end {w0 : World} {L : List Blk} {a0 a' : Act} {S : List Tmp} {i : Tmp} {k : Int} {W : World} (hS : St w0 L W) (h : putF a0 S (fun s => a'.tmps.getD s undef) i k = a') : ∃ g', putF a0 S g' i k = a' ∧ St w0 L W := ⟨_, h, hS⟩
theorem round_end' {F : (Tmp → Value) → Act} {a' : Act} {R : Prop} (p : R) (h : F (fun s => a'.tmps.getD s undef) = a') : ∃ g', F g' = a' ∧ R := ⟨_, h, p⟩
theorem loop_st {P : Program} {c : Code} {Q : Exit → Act → World → Prop} {w0 : World} {L : List Blk} {a0 : Act} {W : World} (i : Tmp) (S : List Tmp) (n : Int) (hn : 0 ≤ n) (h0 : putF a0 S (fun s => a0.tmps.getD s undef) i 0 = a0) (hS : St w0 L W)
    (step : ∀ (k : Int) (g : Tmp → Value) (W : World), 0 ≤ k → k < n → St w0 L W → c.wp P (Exit.then (fun a' W' => ∃ g', putF a0 S g' i (k + 1) = a' ∧ St w0 L W') Q) (putF a0 S g i k) W)
    (last : ∀ (g : Tmp → Value) (W : World), St w0 L W → c.wp P (Exit.then (fun _ _ => False) Q) (putF a0 S g i n) W) : (Code.loop c).wp P Q a0 W := by
  have mono : ∀ {c : Code} {Q Q' : Exit → Act → World → Prop} {a : Act} {w : World}, (∀ e a w, Q e a w → Q' e a w) → c.wp P Q a w → c.wp P Q' a w := by
    intro c Q Q' a w hQ h b k cs
    obtain ⟨e, a', w', hq, harr⟩ := h b k cs
    exact ⟨e, a', w', hQ _ _ _ hq, harr⟩
  have key : ∀ (d : Nat) (k : Int) (g : Tmp → Value) (W : World), 0 ≤ k → n - k = d → St w0 L W → Code.rounds P c Q (d + 1) (putF a0 S g i k) W := by
    intro d
    induction d with
    | zero =>
      intro k g W h1 h2 hS
      have e : k = n := by omega
      subst e
      refine rounds_next (mono (fun e a w h => ?_) (last g W hS))
      cases e <;> first | exact h | exact h.elim
    | succ d ih =>
      intro k g W h1 h2 hS
      refine rounds_next (mono (fun e a w h => ?_) (step k g W h1 (by omega) hS))
      cases e <;> first | exact h | skip
      obtain ⟨g', rfl, hS'⟩ := h
      exact ih (k + 1) g' w (by omega) (by omega) hS'
  rw [← h0]
  exact wp_loop_rounds _ (key n.toNat 0 _ W (by omega) (by omega) hS)
theorem Turn.row {k : Nat} {w : World} {old cells : Array Value} {t : TypeId} (h : w.heap[k]? = some (.cells old t (0, 0))) : Turn k (.cells cells t (0, 0)) w (w.setRow k cells) :=
  ⟨rfl, rfl, rfl, by simp [World.setRow], fun j hj => by simp [World.setRow, Array.getElem?_modify, Ne.symm hj], by simp [World.setRow, Array.getElem?_modify, h]⟩
/-- one whole variable is written: a great one too. -/
theorem run_whole {P : Program} {o : Oper} {ev : Operand → Value} {w : World} (ty : TypeId) (x y : Operand) (ho : o.op = .store ty x y) {g : Nat} {cells old : Array Value} {t : TypeId} (hg : w.heap[g]? = some (.cells old t (0, 0)))
    (hx : ev x = .pointer (some ⟨g, 0, none⟩)) (hy : ev y = .agg cells) (hi : (P.info? ty).map (·.size) = some cells.size) (hold : old.size = cells.size) (h1 : cells.all (·.oneCell') = true) :
    (execOp ev o).run P w = .ok .skip (w.setRow g cells) := by
  unfold execOp
  simp only [ho, hx, hy, Instr.storeAt, Instr.sureAddr, Sem.run_bind, Sem.run_pure, Result.andThen_ok, run_storeVar_row w g t ty old cells hg hi hold h1]
theorem hold_loop {P : Program} {c : Code} {Q : Exit → Act → World → Prop} {a : Act} {w : World} (h : Hold ((Code.loop c).wp P Q a w)) : (Code.loop c).wp P Q a w := h.out
end Go.Proofs.Ytfddmjjdnpkleaa.Reg
