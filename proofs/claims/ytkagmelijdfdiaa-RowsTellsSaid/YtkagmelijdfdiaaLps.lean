/- A loop that counts from 0 up to a number: what holds of memory at the head of each round; what the slots hold besides is left open. No conditions of ours. -/
import Derived.Test.YtkagmelijdfdiaaReg
import Derived.Laws.Tables
namespace Go.Proofs.Ytkagmelijdfdiaa.Reg
open Go Go.RowKit

def putF (a : Act) (S : List Tmp) (g : Tmp → Value) (i : Tmp) (k : Int) : Act := { a with tmps := (S.foldl (fun t s => t.setIfInBounds s (g s)) a.tmps).setIfInBounds i (.int .i64 k) }
theorem St.take {w0 w : World} {L : List Blk} (h : St w0 L w) (n : Nat) : St w0 (L.take n) w := h.sub (List.take_sublist n L)
theorem round_end {w0 : World} {L : List Blk} {a0 a' : Act} {S : List Tmp} {i : Tmp} {k : Int} {W : World} (hS : St w0 L W) (h : putF a0 S (fun s => a'.tmps.getD s undef) i k = a') : ∃ g', putF a0 S g' i k = a' ∧ St w0 L W := ⟨_, h, hS⟩
theorem round_end' {F : (Tmp → Value) → Act} {a' : Act} {R : Prop} (p : R) (h : F (fun s => a'.tmps.getD s undef) = a') : ∃ g', F g' = a' ∧ R := ⟨_, h, p⟩
theorem loop_st {P : Program} {c : Code} {Q : Exit → Act → World → Prop} {w0 : World} {L : List Blk} {a0 : Act} {W : World} (i : Tmp) (S : List Tmp) (n : Int) (hn : 0 ≤ n) (h0 : putF a0 S (fun s => a0.tmps.getD s undef) i 0 = a0) (hS : St w0 L W)
    (step : ∀ (k : Int) (g : Tmp → Value) (W : World), 0 ≤ k → k < n → St w0 L W → c.wp P (Exit.then (fun a' W' => ∃ g', putF a0 S g' i (k + 1) = a' ∧ St w0 L W') Q) (putF a0 S g i k) W)
    (last : ∀ (g : Tmp → Value) (W : World), St w0 L W → c.wp P (Exit.then (fun _ _ => False) Q) (putF a0 S g i n) W) : (Code.loop c).wp P Q a0 W := by
  have mono : ∀ {c : Code} {Q Q' : Exit → Act → World → Prop} {a : Act} {w : World}, (∀ e a w, Q e a w → Q' e a w) → c.wp P Q a w → c.wp P Q' a w := by
    intro c Q Q' a w hQ h b k cs
    obtain ⟨e, a', w', hq, harr⟩ := h b k cs
    exact ⟨e, a', w', hQ _ _ _ hq, harr⟩
  have key : ∀ (d : Nat) (k : Int) (g : Tmp → Value) (W : World), 0 ≤ k → n - k = d → St w0 L W → Code.rounds P c Q (d + 1) (putF a0 S g i k) W := by
    intro d
    induction d with
    | zero =>
      intro k g W h1 h2 hS
      have e : k = n := by omega
      subst e
      refine rounds_next (mono (fun e a w h => ?_) (last g W hS))
      cases e <;> first | exact h | exact h.elim
    | succ d ih =>
      intro k g W h1 h2 hS
      refine rounds_next (mono (fun e a w h => ?_) (step k g W h1 (by omega) hS))
      cases e <;> first | exact h | skip
      obtain ⟨g', rfl, hS'⟩ := h
      exact ih (k + 1) g' w (by omega) (by omega) hS'
  rw [← h0]
  exact wp_loop_rounds _ (key n.toNat 0 _ W (by omega) (by omega) hS)
theorem Turn.row {k : Nat} {w : World} {old cells : Array Value} {t : TypeId} (h : w.heap[k]? = some (.cells old t (0, 0))) : Turn k (.cells cells t (0, 0)) w (w.setRow k cells) :=
  ⟨rfl, rfl, rfl, by simp [World.setRow], fun j hj => by simp [World.setRow, Array.getElem?_modify, Ne.symm hj], by simp [World.setRow, Array.getElem?_modify, h]⟩
/-- one whole variable is written: a great one too. -/
theorem run_whole {P : Program} {o : Oper} {ev : Operand → Value} {w : World} (ty : TypeId) (x y : Operand) (ho : o.op = .store ty x y) {g : Nat} {cells old : Array Value} {t : TypeId} (hg : w.heap[g]? = some (.cells old t (0, 0)))
    (hx : ev x = .pointer (some ⟨g, 0, none⟩)) (hy : ev y = .agg cells) (hi : (P.info? ty).map (·.size) = some cells.size) (hold : old.size = cells.size) (h1 : cells.all (·.oneCell') = true) :
    (execOp ev o).run P w = .ok .skip (w.setRow g cells) := by
  unfold execOp
  simp only [ho, hx, hy, Instr.storeAt, Instr.sureAddr, Sem.run_bind, Sem.run_pure, Result.andThen_ok, run_storeVar_row w g t ty old cells hg hi hold h1]
/-- Two stores to one block in a region that keeps the text's order (put3 with its last two stores the same one). -/
theorem s_put2a {P : Program} {ops : Array Oper} {w0 : World} {es : List Ent} {R : ((Nat → Nat) → Act) → Prop} {s1 : Nat} {o : Oper} {rest : List Oper} {a : (Nat → Nat) → Act} (k s2 : Nat) (z1 z2 z3 z4 : Obj) (pre post : List Ent) (hes : es = pre ++ .put3 k s1 s2 s2 z1 z2 z3 z4 :: post) (hpre : pre.all (Ent.free s1) = true) (hpost : post.all (Ent.free s1) = true)
    (h2 : (decide (s1 < s2) && decide (s2 < ops.size)) = true) (hN : o.dst = none) (hw : ∀ c, Region.wanted o (yielded ops (a c).tmps) = true) (g : (Nat → Nat) → World → World)
    (hrun : ∀ c w, w.heap[k]? = some z1 → (execOp (a c).eval o).run P w = .ok .skip (g c w)) (hturn : ∀ c w, w.heap[k]? = some z1 → Turn k z2 w (g c w))
    (h : Seq P true ops (Blks w0 es) R (s1 + 1) rest a) : Seq P true ops (Blks w0 es) R s1 (o :: rest) a := by
  simp only [Bool.and_eq_true, decide_eq_true_eq] at h2
  refine s_put3 k s1 s2 s2 z1 z2 z3 z4 z1 z2 pre post hes hpre hpost (fun l hc => ?_) hN hw g hrun hturn h
  have e1 := unlisted hc
  have e2 : flags l s2 = false := by have := hc.text rfl s2 h2.2; unfold flags; rw [this]; simp; omega
  have n2 : s2 ≠ s1 := by omega
  simp [Ent.obj, upd, e1, e2, n2]
theorem s_put2b {P : Program} {ops : Array Oper} {w0 : World} {es : List Ent} {R : ((Nat → Nat) → Act) → Prop} {s2 : Nat} {o : Oper} {rest : List Oper} {a : (Nat → Nat) → Act} (k s1 : Nat) (z1 z2 z3 z4 : Obj) (pre post : List Ent) (hes : es = pre ++ .put3 k s1 s2 s2 z1 z2 z3 z4 :: post) (hpre : pre.all (Ent.free s2) = true) (hpost : post.all (Ent.free s2) = true)
    (h2 : (decide (s1 < s2) && decide (s2 < ops.size)) = true) (hN : o.dst = none) (hw : ∀ c, Region.wanted o (yielded ops (a c).tmps) = true) (g : (Nat → Nat) → World → World)
    (hrun : ∀ c w, w.heap[k]? = some z2 → (execOp (a c).eval o).run P w = .ok .skip (g c w)) (hturn : ∀ c w, w.heap[k]? = some z2 → Turn k z4 w (g c w))
    (h : Seq P true ops (Blks w0 es) R (s2 + 1) rest a) : Seq P true ops (Blks w0 es) R s2 (o :: rest) a := by
  simp only [Bool.and_eq_true, decide_eq_true_eq] at h2
  refine s_put3 k s1 s2 s2 z1 z2 z3 z4 z2 z4 pre post hes hpre hpost (fun l hc => ?_) hN hw g hrun hturn h
  have e2 := unlisted hc
  have e1 : flags l s1 = true := by have := hc.text rfl s1 (by omega); unfold flags; rw [this]; simp; omega
  simp [Ent.obj, upd, e1, e2]
theorem hold_loop {P : Program} {c : Code} {Q : Exit → Act → World → Prop} {a : Act} {w : World} (h : Hold ((Code.loop c).wp P Q a w)) : (Code.loop c).wp P Q a w := h.out
end Go.Proofs.Ytkagmelijdfdiaa.Reg
