/- A slice of cells that grows by one new cell: the region that does it, whatever its order. -/
import Derived.Test.YthnkmadipbfmaaaLzG
namespace Go.Proofs.Ythnkmadipbfmaaa.LzJ
open Go.RowKit Go.Proofs.YthnkmadipbfmaaaW.PrintWords Go.Proofs.YthnkmadipbfmaaaW.PrintLast Go.Proofs.YthnkmadipbfmaaaW.PrintMore Go.Proofs.Ythnkmadipbfmaaa.M Go.Proofs.Ythnkmadipbfmaaa.Reg Go.Proofs.Ythnkmadipbfmaaa.Rgw Go.Proofs.Ythnkmadipbfmaaa.Rwd Go.Proofs.Ythnkmadipbfmaaa.Chp Go.Proofs.Ythnkmadipbfmaaa.LzA Go.Proofs.Ythnkmadipbfmaaa.LzB Go.Proofs.Ythnkmadipbfmaaa.LzC Go.Proofs.Ythnkmadipbfmaaa.LzD Go.Proofs.Ythnkmadipbfmaaa.LzE Go.Proofs.Ythnkmadipbfmaaa.LzF Go.Proofs.Ythnkmadipbfmaaa.LzG
attribute [local go_sem] max2_mx min2_mn max_two min_two max_three min_three max_four min_four
set_option linter.unusedVariables false
set_option linter.unusedSimpArgs false

abbrev kp : Kd Nat := Kd.scalar (fun b => Value.pointer (some ⟨b, 0, none⟩)) (fun _ => rfl)
def SL (base : Nat) (w : World) (v : Value) (L : List Nat) : Prop := kp.R 26 w base (fun _ => True) v L
def Row26 (w : World) (k : Nat) : Prop := ∃ cs, w.heap[k]? = some (.cells cs 26 (0, 0))
def St26 (F : World → Prop) : Prop := ∀ w w', Ch (Row26 w) w w' → F w → F w'
theorem SL.below {base : Nat} {w w1 : World} {v : Value} {L : List Nat} (h : SL base w v L) (hb : Below w.heap.size w w1) : SL base w1 v L := Kd.R_below h hb
theorem SL.ch {base : Nat} {w w1 : World} {v : Value} {L : List Nat} {S : Nat → Prop} (h : SL base w v L) (hc : Ch S w w1) (hS : ∀ k, S k → ¬ Row26 w k) : SL base w1 v L := by
  have h1 : kp.R 26 w base (fun k => Row26 w k) v L := Kd.R_mono (Kd.R_bound h) (fun k hk => by
    obtain ⟨_, _, _, q, hq, cs, hh⟩ := hk
    simp [kp, Kd.scalar] at hq
    subst hq
    exact ⟨cs, hh⟩)
  exact Kd.R_mono (Kd.R_step h1 (fun k hr hk => hc.keep k hk (fun hs => hS k hs hr))) (fun _ _ => trivial)
theorem SL.ch2 {base : Nat} {w w1 : World} {v : Value} {L : List Nat} {S : Nat → Prop} (h : SL base w v L) (hc : Ch S w w1) (hS : ∀ k, v.ownBlock = some k → ¬ S k) : SL base w1 v L := by
  have h1 : kp.R 26 w base (fun k => v.ownBlock = some k) v L := ⟨fun k hk => hk, h.2⟩
  exact Kd.R_mono (Kd.R_step h1 (fun k hr hk => hc.keep k hk (hS k hr))) (fun _ _ => trivial)
theorem SL.own {base : Nat} {w : World} {v : Value} {L : List Nat} (h : SL base w v L) {k : Nat} (hk : v.ownBlock = some k) : Row26 w k := by
  obtain ⟨inner, hown⟩ := Kd.R_own h
  exact own_typed hown k hk
theorem SL.nil (base : Nat) (w : World) : SL base w (.slice none 0 0) [] := Kd.R_nil _ _ _ _ _
theorem SL.slice {base : Nat} {w : World} {v : Value} {L : List Nat} (h : SL base w v L) : ∃ A k, v = .slice A L.length k := Kd.R_slice h
theorem SL.get {base : Nat} {w : World} {v : Value} {L : List Nat} (h : SL base w v L) {i : Nat} (hi : i < L.length) : ∃ ad k, v = .slice (some ad) L.length k ∧ w.cell? (ad.add i) = some (.pointer (some ⟨L.getD i 0, 0, none⟩)) := by
  obtain ⟨A, k, rfl, hk, hC⟩ := Kd.R_reads h
  obtain ⟨ad, c, rfl, _, hK, hc⟩ := Kd.C_get hC 0 (i : Int) (by omega) (by omega)
  refine ⟨ad, k, rfl, ?_⟩
  simp only [kp, Kd.scalar] at hK
  subst hK
  have := hc 0 _ rfl
  simpa [kp, Kd.scalar] using this
section
variable {D : List Deferred} {X : List PanicEntry → World → Prop} {T : Bool} {ops : Array Oper} {P0 : World → Prop} {P1 : Value → World → Prop} {P2 : Value → Value → World → Prop} {P3 : Value → World → Prop} {P4 : Value → Value → World → Prop} {R : ((Nat → Value) → Act) → Prop}
/-- phases: behind operation 2, 3, 4, 5 -/
def A4 (P0 : World → Prop) (P1 : Value → World → Prop) (P2 : Value → Value → World → Prop) (P3 : Value → World → Prop) (P4 : Value → Value → World → Prop) (f : Nat → Bool) (c : Nat → Value) (w : World) : Prop :=
  if f 5 = true then P4 (c 4) (c 5) w else if f 4 = true then P3 (c 4) w else if f 3 = true then P2 (c 2) (c 3) w else if f 2 = true then P1 (c 2) w else P0 w
theorem A4.upd_ {f : Nat → Bool} {c : Nat → Value} {w : World} {i : Nat} {n : Value} (h : A4 P0 P1 P2 P3 P4 f c w) (hi : i < 2) : A4 P0 P1 P2 P3 P4 (upd f i true) (upd c i n) w := by
  have e : ∀ j, 2 ≤ j → upd f i true j = f j ∧ upd c i n j = c j := fun j hj => ⟨if_neg (by omega), if_neg (by omega)⟩
  unfold A4 at *
  rw [(e 5 (by decide)).1, (e 4 (by decide)).1, (e 3 (by decide)).1, (e 2 (by decide)).1, (e 5 (by decide)).2, (e 4 (by decide)).2, (e 3 (by decide)).2, (e 2 (by decide)).2]
  exact h
theorem a4_val {i : Nat} {o : Oper} {rest : List Oper} {a a' : (Nat → Value) → Act} {v : Value} {N : Option Tmp} (hN : o.dst = N) (hw : ∀ c, Region.wanted o (yielded ops (a c).tmps) = true) (hi2 : i < 2)
    (hrun : ∀ l c w, Ctx T ops i l → A4 P0 P1 P2 P3 P4 (flags l) c w → (execOp (a c).eval o).run Try.prog w = .ok (.value v) w) (ha : ∀ c, (a c).put N v = a' c)
    (h : Chp.Seq Try.prog D X T ops (A4 P0 P1 P2 P3 P4) R (i + 1) rest a') : Chp.Seq Try.prog D X T ops (A4 P0 P1 P2 P3 P4) R i (o :: rest) a := by
  subst hN
  have e : (fun c => (a c).put o.dst v) = a' := funext ha
  subst e
  refine ⟨fun _ => v, fun l c w hc hi Q K hK _ hX => ?_, h⟩
  rw [if_pos (hw c)]
  unfold Oper.wp
  rw [hrun l c w hc hi]
  exact hK undef w (hi.upd_ hi2)
/-- ahead of operation 4 -/
theorem A4.early {i : Nat} {l : Array Bool} {c : Nat → Value} {w : World} (h : A4 P0 P1 P2 P3 P4 (flags l) c w) (hc : Ctx T ops i l) (h4 : reachB ops i ops.size 4 = true) (h5 : reachB ops i ops.size 5 = true) {F : World → Prop} (f0 : P0 w → F w) (f1 : ∀ {x}, P1 x w → F w) (f2 : ∀ {x y}, P2 x y w → F w) : F w := by
  unfold A4 at h
  have e4 : flags l 4 = false := hc.later 4 h4
  have e5 : flags l 5 = false := hc.later 5 h5
  rw [e4, e5] at h
  simp only [Bool.false_eq_true, if_false] at h
  split at h
  · exact f2 h
  · split at h
    · exact f1 h
    · exact f0 h
theorem a4_new {o : Oper} {rest : List Oper} {a a' : (Nat → Value) → Act} {N : Option Tmp} (hN : o.dst = N) (hw : ∀ c, Region.wanted o (yielded ops (a c).tmps) = true) (hr : (reachB ops 2 ops.size 3 && reachB ops 2 ops.size 4 && reachB ops 2 ops.size 5) = true) (fn : FuncId) (args : Array Value)
    (hrun : ∀ c w, (execOp (a c).eval o).run Try.prog w = .ok (.enter fn args) w) (hcall : ∀ w, P0 w → Calls Try.prog fn args w fun e w' => ∃ v, e = .returned v ∧ P1 v w') (ha : ∀ c, (a c).put N (c 2) = a' c)
    (h : Chp.Seq Try.prog D X T ops (A4 P0 P1 P2 P3 P4) R 3 rest a') : Chp.Seq Try.prog D X T ops (A4 P0 P1 P2 P3 P4) R 2 (o :: rest) a := by
  subst hN
  have e : (fun c => (a c).put o.dst (c 2)) = a' := funext ha
  subst e
  simp only [Bool.and_eq_true] at hr
  refine ⟨id, fun l c w hc hi Q K hK _ hX => ?_, h⟩
  have e2 : flags l 2 = false := unlisted hc
  have e3 : flags l 3 = false := hc.later 3 hr.1.1
  have e4 : flags l 4 = false := hc.later 4 hr.1.2
  have e5 : flags l 5 = false := hc.later 5 hr.2
  have h0 : P0 w := by unfold A4 at hi; rw [e2, e3, e4, e5] at hi; simpa using hi
  rw [if_pos (hw c)]
  unfold Oper.wp
  rw [hrun c w]
  refine (hcall w h0).mono fun e w' ⟨v, he, h1⟩ => ?_
  subst he
  exact hK v w' (by unfold A4 upd; simp [e3, e4, e5, h1])
theorem a4_row {o : Oper} {rest : List Oper} {a a' : (Nat → Value) → Act} {N : Option Tmp} (hN : o.dst = N) (hw : ∀ c, Region.wanted o (yielded ops (a c).tmps) = true) (hr : (reachB ops 2 ops.size 3 && reachB ops 3 ops.size 4 && reachB ops 3 ops.size 5) = true)
    (hrun : ∀ c w, P1 (c 2) w → ∃ v w', (execOp (a c).eval o).run Try.prog w = .ok (.value v) w' ∧ P2 (c 2) v w') (ha : ∀ c, (a c).put N (c 3) = a' c)
    (h : Chp.Seq Try.prog D X T ops (A4 P0 P1 P2 P3 P4) R 4 rest a') : Chp.Seq Try.prog D X T ops (A4 P0 P1 P2 P3 P4) R 3 (o :: rest) a := by
  subst hN
  have e : (fun c => (a c).put o.dst (c 3)) = a' := funext ha
  subst e
  simp only [Bool.and_eq_true] at hr
  refine ⟨id, fun l c w hc hi Q K hK _ hX => ?_, h⟩
  have e2 : flags l 2 = true := hc.before 2 hr.1.1
  have e3 : flags l 3 = false := unlisted hc
  have e4 : flags l 4 = false := hc.later 4 hr.1.2
  have e5 : flags l 5 = false := hc.later 5 hr.2
  have h0 : P1 (c 2) w := by unfold A4 at hi; rw [e2, e3, e4, e5] at hi; simpa using hi
  rw [if_pos (hw c)]
  unfold Oper.wp
  obtain ⟨v, w', h1, h2⟩ := hrun c w h0
  rw [h1]
  exact hK v w' (by unfold A4 upd; simp [e4, e5, h2])
theorem a4_app {o : Oper} {rest : List Oper} {a a' : (Nat → Value) → Act} {N : Option Tmp} (hN : o.dst = N) (hw : ∀ c, Region.wanted o (yielded ops (a c).tmps) = true) (hr : (reachB ops 3 ops.size 4 && reachB ops 4 ops.size 5) = true)
    (hrun : ∀ c w, P2 (c 2) (c 3) w → ∀ (Q : Exit → Act → World → Prop) (K : Act → World → Prop), (∀ v w', P3 v w' → K ((a c).put o.dst v) w') → if Region.wanted o (yielded ops (a c).tmps) = true then Oper.wp Try.prog o (a c) w K Q else K ((a c).put o.dst undef) w) (ha : ∀ c, (a c).put N (c 4) = a' c)
    (h : Chp.Seq Try.prog D X T ops (A4 P0 P1 P2 P3 P4) R 5 rest a') : Chp.Seq Try.prog D X T ops (A4 P0 P1 P2 P3 P4) R 4 (o :: rest) a := by
  subst hN
  have e : (fun c => (a c).put o.dst (c 4)) = a' := funext ha
  subst e
  simp only [Bool.and_eq_true] at hr
  refine ⟨id, fun l c w hc hi Q K hK _ hX => ?_, h⟩
  have e3 : flags l 3 = true := hc.before 3 hr.1
  have e4 : flags l 4 = false := unlisted hc
  have e5 : flags l 5 = false := hc.later 5 hr.2
  have h0 : P2 (c 2) (c 3) w := by unfold A4 at hi; rw [e3, e4, e5] at hi; simpa using hi
  exact hrun c w h0 Q K (fun v w' h1 => hK v w' (by unfold A4 upd; simp [e5, h1]))
theorem a4_end {o : Oper} {a : (Nat → Value) → Act} {N : Option Tmp} {v : Value → Value} (hN : o.dst = N) (hw : ∀ c, Region.wanted o (yielded ops (a c).tmps) = true) (hr : reachB ops 4 ops.size 5 = true)
    (hrun : ∀ c w, P3 (c 4) w → ∃ u w', ((execOp (a c).eval o).run Try.prog w = .ok (.value (v u)) w' ∨ (o.dst = none ∧ (execOp (a c).eval o).run Try.prog w = .ok .skip w')) ∧ P4 (c 4) u w')
    (h : R (fun c => (a c).put N (v (c 5)))) : Chp.Seq Try.prog D X T ops (A4 P0 P1 P2 P3 P4) R 5 [o] a := by
  subst hN
  refine ⟨v, fun l c w hc hi Q K hK _ hX => ?_, h⟩
  have e4 : flags l 4 = true := hc.before 4 hr
  have e5 : flags l 5 = false := unlisted hc
  have h0 : P3 (c 4) w := by unfold A4 at hi; rw [e4, e5] at hi; simpa using hi
  rw [if_pos (hw c)]
  unfold Oper.wp
  obtain ⟨u, w', h1 | ⟨hn, h1⟩, h2⟩ := hrun c w h0
  · rw [h1]
    exact hK u w' (by unfold A4 upd; simp [h2])
  · rw [h1]
    have := hK u w' (by unfold A4 upd; simp [h2])
    show K ((a c).put o.dst undef) w'
    rw [hn] at this ⊢
    exact this
theorem region_a4 {Q : Exit → Act → World → Prop} {id : Nat} {a : Act} {w : World} (P0 : World → Prop) (P1 : Value → World → Prop) (P2 : Value → Value → World → Prop) (P3 : Value → World → Prop) (P4 : Value → Value → World → Prop) (hm : Try.prog.follows .mixedOrders = true) (hc : okB ops = true) (h6 : ops.size = 6) (h0 : P0 w.drew)
    (h : Chp.Seq Try.prog a.defers (fun _ _ => False) false ops (A4 P0 P1 P2 P3 P4) (fun a' => ∀ c w', P4 (c 4) (c 5) w' → Q .normal (a' c) w') 0 ops.toList (fun _ => a)) : (Code.region id ops true).wp Try.prog Q a w := by
  refine Chp.region (D := a.defers) (X := fun _ _ => False) hm hc rfl (fun _ _ _ h _ => h.elim) (I := A4 P0 P1 P2 P3 P4) (by unfold A4; simpa using h0) ?_
  have mono : ∀ (os : List Oper) (i : Nat) (b : (Nat → Value) → Act) (R R' : ((Nat → Value) → Act) → Prop), (∀ a, R a → R' a) → Chp.Seq Try.prog a.defers (fun _ _ => False) false ops (A4 P0 P1 P2 P3 P4) R i os b → Chp.Seq Try.prog a.defers (fun _ _ => False) false ops (A4 P0 P1 P2 P3 P4) R' i os b := by
    intro os
    induction os with
    | nil => intro i a R R' hR h; exact hR a h
    | cons o os ih => intro i a R R' hR ⟨v, hv, h⟩; exact ⟨v, hv, ih _ _ R R' hR h⟩
  exact mono _ _ _ _ _ (fun a' ha f c w' hf hI => ha c w' (by unfold A4 at hI; rw [hf 5 (by omega)] at hI; simpa using hI)) h
theorem region_a4t {Q : Exit → Act → World → Prop} {id : Nat} {a : Act} {w : World} (P0 : World → Prop) (P1 : Value → World → Prop) (P2 : Value → Value → World → Prop) (P3 : Value → World → Prop) (P4 : Value → Value → World → Prop) (hc : okB ops = true) (h6 : ops.size = 6) (h0 : P0 w)
    (h : Chp.Seq Try.prog a.defers (fun _ _ => False) true ops (A4 P0 P1 P2 P3 P4) (fun a' => ∀ c w', P4 (c 4) (c 5) w' → Q .normal (a' c) w') 0 ops.toList (fun _ => a)) : (Code.region id ops false).wp Try.prog Q a w := by
  refine Chp.region_text hc rfl (I := A4 P0 P1 P2 P3 P4) (by unfold A4; simpa using h0) ?_
  have mono : ∀ (os : List Oper) (i : Nat) (b : (Nat → Value) → Act) (R R' : ((Nat → Value) → Act) → Prop), (∀ a, R a → R' a) → Chp.Seq Try.prog a.defers (fun _ _ => False) true ops (A4 P0 P1 P2 P3 P4) R i os b → Chp.Seq Try.prog a.defers (fun _ _ => False) true ops (A4 P0 P1 P2 P3 P4) R' i os b := by
    intro os
    induction os with
    | nil => intro i a R R' hR h; exact hR a h
    | cons o os ih => intro i a R R' hR ⟨v, hv, h⟩; exact ⟨v, hv, ih _ _ R R' hR h⟩
  exact mono _ _ _ _ _ (fun a' ha f c w' hf hI => ha c w' (by unfold A4 at hI; rw [hf 5 (by omega)] at hI; simpa using hI)) h
end
section
variable (base n0 : Nat) (w0 : World) (F : World → Prop) (v : Value) (L : List Nat) (fv : Value)
def G0 (w : World) : Prop := F w ∧ SL base w v L ∧ Below base w0 w ∧ n0 ≤ w.heap.size
def nc (fv : Value) : Obj := cel fv 0 0 (.int .u32 0) 0 (.int .i64 0)
def G1 (c2 : Value) (w : World) : Prop := ∃ C, c2 = ptr C ∧ n0 ≤ C ∧ w.heap[C]? = some (nc fv) ∧ G0 base n0 w0 F v L w
def G2 (c2 c3 : Value) (w : World) : Prop := ∃ C b, c3 = .slice (some ⟨b, 0, none⟩) 1 1 ∧ n0 ≤ C ∧ w.heap[C]? = some (nc fv) ∧ w.heap[b]? = some (.cells #[ptr C] 26 (0, 0)) ∧ G0 base n0 w0 F v L w
def G3 (c4 : Value) (w : World) : Prop := ∃ C, n0 ≤ C ∧ w.heap[C]? = some (nc fv) ∧ SL base w c4 (L ++ [C]) ∧ F w ∧ Below base w0 w
end
section
variable {base n0 : Nat} {w0 : World} {F : World → Prop} {v : Value} {L : List Nat} {fv : Value}
theorem St26.below {w w' : World} (hF : St26 F) (hb : Below w.heap.size w w') (h : F w) : F w' := hF w w' (Ch.of_below hb (fun k hk hk' => by omega)) h
theorem G0.step {w w' : World} (hF : St26 F) (h : G0 base n0 w0 F v L w) (hb : Below w.heap.size w w') (hbase : base ≤ w.heap.size) : G0 base n0 w0 F v L w' :=
  ⟨hF.below hb h.1, h.2.1.below hb, h.2.2.1.trans (hb.mono hbase), Nat.le_trans h.2.2.2 hb.size⟩
theorem g_new {F' : FuncId} {caps : Array Value} (hF : St26 F) (hb : base ≤ n0) (w : World) (h : G0 base n0 w0 F v L w) : Calls Try.prog 8 #[.func (.func F') #[] caps] w fun e w' => ∃ u, e = .returned u ∧ G1 base n0 w0 F v L (.func (.func F') #[] caps) u w' := by
  refine (new_ F' caps w).mono ?_
  rintro e w' ⟨rfl, rfl⟩
  exact ⟨_, rfl, w.heap.size, rfl, h.2.2.2, heap_alloc_new _ _, h.step hF (Go.Proofs.YthnkmadipbfmaaaW.PrintWords.below_alloc (Below.refl _ _) _) (Nat.le_trans hb h.2.2.2)⟩
theorem g_row {w : World} {c2 : Value} {C : Nat} (hF : St26 F) (hb : base ≤ n0) (hn : n0 ≤ C) (hC : w.heap[C]? = some (nc fv)) (h : G0 base n0 w0 F v L w) : G2 base n0 w0 F v L fv c2 (.slice (some ⟨w.heap.size, 0, none⟩) 1 1) (w.alloc (.cells #[ptr C] 26 (0, 0))) :=
  ⟨C, _, rfl, hn, (Ch.alloc (fun _ => False) _ _).at hC id, heap_alloc_new _ _, h.step hF (Go.Proofs.YthnkmadipbfmaaaW.PrintWords.below_alloc (Below.refl _ _) _) (Nat.le_trans hb h.2.2.2)⟩
theorem t25 : Try.prog.underlying 25 = some (.slice 26) := by kernel_rfl
theorem i26 : (Try.prog.info? 26).map (fun i => (i.zero, i.size, i.bytes)) = some (some (.pointer none), 1, 8) := by kernel_rfl
theorem g_app {w : World} {o : Oper} {a : Act} {ops : Array Oper} (hF : St26 F) (hb : base ≤ n0) (hL : L.length ≤ 1000) (s x : Operand) (ho : o.op = .call { callee := .builtin .append, args := #[s, x], argTypes := #[25, 25] }) (hw : Region.wanted o (yielded ops a.tmps) = true)
    {c2 c3 : Value} (hs : a.eval s = v) (hx : a.eval x = c3) (h : G2 base n0 w0 F v L fv c2 c3 w) (Q : Exit → Act → World → Prop) (K : Act → World → Prop) (hK : ∀ u w', G3 base n0 w0 F L fv u w' → K (a.put o.dst u) w') :
    if Region.wanted o (yielded ops a.tmps) = true then Oper.wp Try.prog o a w K Q else K (a.put o.dst undef) w := by
  obtain ⟨C, b, rfl, hn, hC, hrow, hf, hsl, hbel, hsz⟩ := h
  refine Kd.R_append_rows_step kp (Rr := fun (x : Nat) cs => cs = [.pointer (some ⟨x, 0, none⟩)]) (w0 := w0) base hw s x 25 26 (.pointer none) 8 ho t25 i26 rfl (by decide) (by decide) v L [C] (some ⟨b, 0, none⟩) 1 1 (fun _ => True) (fun _ => False) hs hx hsl ?_ (fun _ _ h => h) (fun _ h => h.elim) (fun _ _ => trivial) hbel (Nat.le_trans hb hsz) (by omega) ?_
  · refine ⟨rfl, by decide, fun _ => ⟨_, rfl, fun j p hj => ?_⟩⟩
    match j, hj with
    | 0, hj =>
      cases hj
      refine ⟨_, rfl, rfl, fun i u hu => ?_⟩
      match i, hu with
      | 0, hu => cases hu; have := at_cell hrow 0; simpa [kp, Kd.scalar, Addr.add] using this
      | i + 1, hu => cases hu
    | j + 1, hj => cases hj
  · intro v1 w1 hR hb1 hg _
    have hch : Ch (Row26 w) w w1 := ⟨hg.os, hg.tape, hg.output, hg.size, fun k hk hn => hg.block k hk (fun e => hn (by
      obtain ⟨inner, hown⟩ := Kd.R_own hsl
      exact own_typed hown k e.symm))⟩
    exact hK _ _ ⟨C, hn, hch.at hC (fun ⟨cs, e⟩ => by rw [hC] at e; cases e), hR, hF _ _ hch hf, hb1⟩
end
theorem loop_b {P : Program} {c : Code} {Q : Exit → Act → World → Prop} {a0 : Act} {W : World} {Y : Type} (M : Int → Y → World → Prop) (S : List Tmp) (sp : Int → Y → List (Tmp × Value)) (n : Int) (hn : 0 ≤ n) (y0 : Y) (h0 : putF2 a0 S (fun s => a0.tmps.getD s undef) (sp 0 y0) = a0) (hM : M 0 y0 W)
    (step : ∀ (k : Int) (g : Tmp → Value) (y : Y) (W : World), 0 ≤ k → k < n → M k y W → c.wp P (Exit.then (fun a' W' => ∃ g' y', putF2 a0 S g' (sp (k + 1) y') = a' ∧ M (k + 1) y' W') Q) (putF2 a0 S g (sp k y)) W)
    (last : ∀ (g : Tmp → Value) (y : Y) (W : World), M n y W → c.wp P (Exit.then (fun _ _ => False) Q) (putF2 a0 S g (sp n y)) W) : (Code.loop c).wp P Q a0 W := by
  refine loop_a (fun k a W => ∃ g y, putF2 a0 S g (sp k y) = a ∧ M k y W) n hn ⟨_, _, h0, hM⟩ ?_ ?_
  · rintro k a W h1 h2 ⟨g, y, rfl, h⟩; exact step k g y W h1 h2 h
  · rintro a W ⟨g, y, rfl, h⟩; exact last g y W h
theorem round_b {Y : Type} {F : (Tmp → Value) → Y → Act} {a' : Act} {R : Y → Prop} (y : Y) (p : R y) (h : F (fun s => a'.tmps.getD s undef) y = a') : ∃ g' y', F g' y' = a' ∧ R y' := ⟨_, y, h, p⟩

end Go.Proofs.Ythnkmadipbfmaaa.LzJ
