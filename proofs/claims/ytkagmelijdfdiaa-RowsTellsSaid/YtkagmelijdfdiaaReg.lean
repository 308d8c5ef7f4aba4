/- A region that draws its order: each operation is shown once, in the order of the text, against what stands whenever it comes up. No conditions of ours. -/
import Derived.Test.YtkagmelijdfdiaaWMore
namespace Go.Proofs.Ytkagmelijdfdiaa.Reg
open Go Go.RowKit

section
variable {P : Program}

/-- Operation d waits for operation i. -/
def reachB (ops : Array Oper) (i : Nat) : Nat → Nat → Bool
  | 0, _ => false
  | fuel + 1, d => match ops[d]? with
    | some o => o.after.any (fun e => Region.binds .any e && e.on == i) || o.after.any (fun e => Region.binds .any e && reachB ops i fuel e.on)
    | none => false
def Closed (ops : Array Oper) (l : Array Bool) : Prop :=
  ∀ j oj, ops[j]? = some oj → l.getD j false = true → ∀ e ∈ oj.after, Region.binds .any e = true → l.getD e.on false = true

theorem reach_listed {ops : Array Oper} {l : Array Bool} {i : Nat} (hc : Closed ops l) : ∀ (fuel d : Nat), reachB ops i fuel d = true →
    (∀ od, ops[d]? = some od → ∀ e ∈ od.after, Region.binds .any e = true → l.getD e.on false = true) → l.getD i false = true
  | 0, _, h, _ => by simp [reachB] at h
  | fuel + 1, d, h, hl => by
    unfold reachB at h
    cases ho : ops[d]? with
    | none => rw [ho] at h; simp at h
    | some o =>
      rw [ho] at h
      simp only [Bool.or_eq_true] at h
      rcases h with h | h
      · obtain ⟨e, he, h1⟩ := Array.any_eq_true'.1 h
        simp only [Bool.and_eq_true, beq_iff_eq] at h1
        rw [← h1.2]; exact hl o ho e he h1.1
      · obtain ⟨e, he, h1⟩ := Array.any_eq_true'.1 h
        simp only [Bool.and_eq_true] at h1
        have hle := hl o ho e he h1.1
        exact reach_listed hc fuel e.on h1.2 (fun od hod => hc e.on od hod hle)

/-- What stands when operation i may come up. -/
structure Ctx (T : Bool) (ops : Array Oper) (i : Nat) (l : Array Bool) : Prop where
  text : T = true → ∀ j, j < ops.size → l.getD j false = decide (j < i)
  un : l.getD i true = false
  ready : ∀ o, ops[i]? = some o → ∀ e ∈ o.after, Region.binds .any e = true → l.getD e.on false = true
  closed : Closed ops l
  size : l.size = ops.size

/-- What it waits for has come up. -/
theorem Ctx.before {T : Bool} {ops : Array Oper} {i : Nat} {l : Array Bool} (h : Ctx T ops i l) (j : Nat) (hr : reachB ops j ops.size i = true) : l.getD j false = true := reach_listed h.closed _ _ hr h.ready
/-- What waits for it has not. -/
theorem Ctx.later {T : Bool} {ops : Array Oper} {i : Nat} {l : Array Bool} (h : Ctx T ops i l) (d : Nat) (hr : reachB ops i ops.size d = true) : l.getD d false = false := by
  cases hd : l.getD d false with
  | false => rfl
  | true =>
    have := reach_listed h.closed _ _ hr (fun od hod => h.closed d od hod hd)
    have hu := h.un
    rcases Nat.lt_or_ge i l.size with h' | h'
    · simp [h'] at this hu; rw [hu] at this; cases this
    · simp [Array.getElem?_eq_none h'] at this

def upd {α : Type} (f : Nat → α) (i : Nat) (x : α) : Nat → α := fun j => if j = i then x else f j
theorem upd_same {α : Type} (f : Nat → α) (i : Nat) : upd f i (f i) = f := by
  funext j; unfold upd; split <;> simp_all
def flags (l : Array Bool) : Nat → Bool := fun j => l.getD j false
/-- Operation o, number i, comes in state a to value v, whenever it comes up. f: what has come up; c: numbers that the order leaves open, one an operation. -/
def Step (P : Program) (T : Bool) (ops : Array Oper) (I : (Nat → Bool) → (Nat → Nat) → World → Prop) (i : Nat) (o : Oper) (a : (Nat → Nat) → Act) (v : Nat → Value) : Prop :=
  ∀ l c w, Ctx T ops i l → I (flags l) c w → ∀ (Q : Exit → Act → World → Prop) (K : Act → World → Prop), (∀ n w', I (upd (flags l) i true) (upd c i n) w' → K ((a c).put o.dst (v n)) w') →
    if Region.wanted o (yielded ops (a c).tmps) = true then Oper.wp P o (a c) w K Q else K ((a c).put o.dst undef) w

/-- The operations in the text's order. -/
def Seq (P : Program) (T : Bool) (ops : Array Oper) (I : (Nat → Bool) → (Nat → Nat) → World → Prop) (R : ((Nat → Nat) → Act) → Prop) : Nat → List Oper → ((Nat → Nat) → Act) → Prop
  | _, [], a => R a
  | i, o :: rest, a => ∃ v, Step P T ops I i o a v ∧ Seq P T ops I R (i + 1) rest (fun c => (a c).put o.dst (v (c i)))

/-- Each operation whose value number i looks at comes ahead of it, and it waits for it; the destinations are apart; no select. -/
def okB (ops : Array Oper) : Bool :=
  (List.range ops.size).all fun i => match ops[i]? with
    | none => false
    | some o => (match o.op with | .select _ _ => false | _ => true) && o.after.all (fun e => decide (e.on < i) || !Region.binds .any e) &&
      (List.range ops.size).all fun j => match ops[j]? with
        | none => true
        | some oj => match oj.dst with
          | none => true
          | some d => (i == j || o.dst != some d) && (!(o.looksAt ops).contains d || (decide (j < i) && reachB ops j ops.size i) || i == j || (decide (i < j) && reachB ops i ops.size j))

/-- The act behind the listed operations. -/
def fill (l : Array Bool) : Nat → List Oper → List Value → Act → Act
  | k, o :: os, v :: vs, a => fill l (k + 1) os vs (if l.getD k false = true then a.put o.dst v else a)
  | _, _, _, a => a

def Agree (S : List Tmp) (a b : Act) : Prop := (∀ t ∈ S, a.tmps[t]? = b.tmps[t]?) ∧ a.tmps.size = b.tmps.size
theorem put_size (a : Act) (d : Option Tmp) (v : Value) : (a.put d v).tmps.size = a.tmps.size := by cases d <;> simp [Act.put]
theorem Agree.put {S : List Tmp} {a b : Act} (h : Agree S a b) (d : Option Tmp) (v : Value) : Agree S (a.put d v) (b.put d v) := by
  refine ⟨fun t ht => ?_, by rw [put_size, put_size]; exact h.2⟩
  cases d with
  | none => exact h.1 t ht
  | some d =>
    by_cases e : d = t
    · subst e
      simp [Act.put, Array.getElem?_setIfInBounds_self, h.2]
    · simp [Act.put, Array.getElem?_setIfInBounds_ne e, h.1 t ht]
theorem Agree.left {S : List Tmp} {a b : Act} (h : Agree S a b) {d : Option Tmp} (v : Value) (hd : ∀ x, d = some x → x ∉ S) : Agree S (a.put d v) b := by
  refine ⟨fun t ht => ?_, by rw [put_size]; exact h.2⟩
  cases d with
  | none => exact h.1 t ht
  | some d =>
    have e : d ≠ t := fun e => hd d rfl (e ▸ ht)
    simp [Act.put, Array.getElem?_setIfInBounds_ne e, h.1 t ht]
theorem Agree.symm {S : List Tmp} {a b : Act} (h : Agree S a b) : Agree S b a := ⟨fun t ht => (h.1 t ht).symm, h.2.symm⟩
theorem Agree.fills {S : List Tmp} {l l' : Array Bool} : ∀ (os : List Oper) (vs : List Value) (k : Nat) {a b : Act}, Agree S a b →
    (∀ j o, os[j]? = some o → ∀ d, o.dst = some d → d ∈ S → l.getD (k + j) false = l'.getD (k + j) false) → Agree S (fill l k os vs a) (fill l' k os vs b)
  | [], _, _, _, _, h, _ => by simpa [fill] using h
  | _ :: _, [], _, _, _, h, _ => by simpa [fill] using h
  | o :: os, v :: vs, k, a, b, h, hl => by
    simp only [fill]
    refine Agree.fills os vs (k + 1) ?_ (fun j oj hj d hd hS => by have := hl (j + 1) oj (by simpa using hj) d hd hS; rwa [show k + 1 + j = k + (j + 1) by omega])
    have h0 := hl 0 o rfl
    simp only [Nat.add_zero] at h0
    by_cases hm : ∃ d, o.dst = some d ∧ d ∈ S
    · obtain ⟨d, hd, hS⟩ := hm
      rw [h0 d hd hS]
      split
      · exact h.put _ _
      · exact h
    · have hn : ∀ x, o.dst = some x → x ∉ S := fun x hx hS => hm ⟨x, hx, hS⟩
      split <;> split
      · exact h.put _ _
      · exact h.left _ hn
      · exact (h.symm.left _ hn).symm
      · exact h

theorem agree_exec {ops : Array Oper} {o : Oper} (hs : ∀ cs b, o.op ≠ .select cs b) {a b : Act} (h : Agree (o.looksAt ops) a b) : execOp a.eval o = execOp b.eval o :=
  execOp_congr o hs fun x hx => by
    cases x with
    | tmp t =>
      have : t ∈ o.looksAt ops := List.mem_append_left _ (List.mem_filterMap.2 ⟨.tmp t, by simpa using hx, rfl⟩)
      have := h.1 t this
      simp [Act.eval, this]
    | _ => rfl
theorem agree_wanted {ops : Array Oper} {o : Oper} {a b : Act} (h : Agree (o.looksAt ops) a b) : Region.wanted o (yielded ops a.tmps) = Region.wanted o (yielded ops b.tmps) := by
  unfold Region.wanted
  cases hg : o.guard with
  | none => rfl
  | some gw =>
    obtain ⟨g, want⟩ := gw
    have hy : yielded ops a.tmps g = yielded ops b.tmps g := by
      unfold yielded
      cases ht : (ops[g]?).bind (·.dst) with
      | none => rfl
      | some t =>
        have : t ∈ o.looksAt ops := List.mem_append_right _ (by simp [hg, ht])
        have := h.1 t this
        simp [this]
    simp only [hy]

theorem put_same {a b : Act} {d : Option Tmp} {u v : Value} (hsz : a.tmps.size = b.tmps.size) (h : a.put d u = a.put d v) : b.put d u = b.put d v := by
  cases d with
  | none => rfl
  | some d =>
    simp only [Act.put] at h ⊢
    have h1 := congrArg (fun x => x.tmps[d]?) h
    simp only [Array.getElem?_setIfInBounds_self] at h1
    by_cases hlt : d < a.tmps.size
    · simp only [hlt, if_true] at h1
      rw [Option.some.inj h1]
    · have hlt' : ¬ d < b.tmps.size := by rw [← hsz]; exact hlt
      have e : ∀ x : Value, b.tmps.setIfInBounds d x = b.tmps := fun x => by simp [Array.setIfInBounds, hlt']
      rw [e, e]

/-- A step shown in one state serves in another one that agrees with it. -/
theorem Step.at {T : Bool} {ops : Array Oper} {I : (Nat → Bool) → (Nat → Nat) → World → Prop} {i : Nat} {o : Oper} {a : (Nat → Nat) → Act} {b : Act} {v : Nat → Value} (h : Step P T ops I i o a v) (hs : ∀ cs b, o.op ≠ .select cs b)
    {l : Array Bool} {c : Nat → Nat} {w : World} (hag : Agree (o.looksAt ops) (a c) b) (hl : Ctx T ops i l) (hI : I (flags l) c w) {Q : Exit → Act → World → Prop} {K : Act → World → Prop}
    (hK : ∀ n w', I (upd (flags l) i true) (upd c i n) w' → K (b.put o.dst (v n)) w') : if Region.wanted o (yielded ops b.tmps) = true then Oper.wp P o b w K Q else K (b.put o.dst undef) w := by
  have H := h l c w hl hI (fun _ _ _ => False) (fun a' w' => ∃ n, a' = (a c).put o.dst (v n) ∧ I (upd (flags l) i true) (upd c i n) w') (fun n w' hw' => ⟨n, rfl, hw'⟩)
  rw [← agree_wanted hag]
  have key : ∀ u w', (∃ n, (a c).put o.dst u = (a c).put o.dst (v n) ∧ I (upd (flags l) i true) (upd c i n) w') → K (b.put o.dst u) w' := fun u w' ⟨n, h1, h2⟩ => by
    rw [put_same hag.2 h1]; exact hK n w' h2
  have dfr : ∀ d u w', ¬ (∃ n, ({ a c with defers := d :: (a c).defers } : Act).put o.dst u = (a c).put o.dst (v n) ∧ I (upd (flags l) i true) (upd c i n) w') := fun d u w' ⟨n, h1, _⟩ => by
    have h2 := congrArg Act.defers h1
    cases hd : o.dst with
    | none => rw [hd] at h2; simp [Act.put] at h2
    | some t => rw [hd] at h2; simp [Act.put] at h2
  split
  · rename_i hw
    rw [if_pos hw] at H
    unfold Oper.wp at *
    rw [← agree_exec hs hag]
    generalize (execOp (a c).eval o).run P w = r at *
    cases r with
    | ok n w' =>
      cases n <;> simp only [Oper.upon] at H ⊢
      case value u => exact key _ _ H
      case skip => exact key _ _ H
      case defer d => exact absurd H (dfr _ _ _)
      case enter f args =>
        refine Calls.mono H fun e w'' he => ?_
        cases e with
        | returned u => exact key _ _ he
        | panicked c => exact he.elim
        | outgrown => obtain ⟨_, _, h⟩ := he; exact h.elim
      case row row args => exact Rows.mono H fun u w'' he => key _ _ he
    | halt x w' =>
      cases x <;> simp only [Oper.upon] at H ⊢
  · rename_i hw
    rw [if_neg hw] at H
    exact key _ _ H

/-- The values at some choice. -/
def at_ (c : Nat → Nat) : Nat → List (Nat → Value) → List Value
  | _, [] => []
  | k, v :: vs => v (c k) :: at_ c (k + 1) vs
theorem at_len (c : Nat → Nat) : ∀ (vs : List (Nat → Value)) (k : Nat), (at_ c k vs).length = vs.length
  | [], _ => rfl
  | _ :: vs, k => by simp [at_, at_len c vs (k + 1)]
theorem at_get (c : Nat → Nat) : ∀ (vs : List (Nat → Value)) (k j : Nat) v, vs[j]? = some v → (at_ c k vs)[j]? = some (v (c (k + j)))
  | [], _, _, _, h => by simp at h
  | u :: vs, k, 0, v, h => by simp at h; subst h; simp [at_]
  | u :: vs, k, j + 1, v, h => by simp at h; simp only [at_, List.getElem?_cons_succ]; rw [at_get c vs (k + 1) j v h, show k + 1 + j = k + (j + 1) by omega]
theorem Seq.vals {T : Bool} {ops : Array Oper} {I : (Nat → Bool) → (Nat → Nat) → World → Prop} {R : ((Nat → Nat) → Act) → Prop} : ∀ (os : List Oper) (i : Nat) (a : (Nat → Nat) → Act), Seq P T ops I R i os a →
    ∃ vs : List (Nat → Value), vs.length = os.length ∧ (∀ j o, os[j]? = some o → ∃ v, vs[j]? = some v ∧ Step P T ops I (i + j) o (fun c => ((os.zip (at_ c i vs)).take j).foldl (fun a x => a.put x.1.dst x.2) (a c)) v) ∧
      R (fun c => (os.zip (at_ c i vs)).foldl (fun a x => a.put x.1.dst x.2) (a c))
  | [], _, _, h => ⟨[], rfl, fun j o hj => by simp at hj, h⟩
  | o :: os, i, a, ⟨v, hv, hr⟩ => by
    obtain ⟨vs, h1, h2, h3⟩ := Seq.vals os (i + 1) _ hr
    refine ⟨v :: vs, by simp [h1], fun j o' hj => ?_, by simpa [at_] using h3⟩
    cases j with
    | zero =>
      simp at hj; subst hj
      exact ⟨v, rfl, by simpa using hv⟩
    | succ j =>
      obtain ⟨v', hv', hs⟩ := h2 j o' (by simpa using hj)
      exact ⟨v', by simpa using hv', by simpa [at_, show i + (j + 1) = i + 1 + j by omega] using hs⟩

theorem fill_prefix (n : Nat) : ∀ (os : List Oper) (vs : List Value) (k : Nat) (a : Act) (l : Array Bool), (∀ j, j < os.length → l.getD (k + j) false = decide (j < n)) → vs.length = os.length →
    fill l k os vs a = ((os.zip vs).take n).foldl (fun a x => a.put x.1.dst x.2) a := by
  induction n with
  | zero =>
    intro os
    induction os with
    | nil => intro vs k a l _ _; simp [fill]
    | cons o os ih =>
      intro vs k a l hl hlen
      cases vs with
      | nil => simp at hlen
      | cons v vs =>
        have h0 := hl 0 (by simp)
        simp at h0
        simp only [fill, Array.getD_eq_getD_getElem?, h0]
        rw [if_neg (by simp)]
        rw [ih vs (k + 1) a l (fun j hj => by have := hl (j + 1) (by simp; omega); rw [show k + 1 + j = k + (j + 1) by omega]; simpa using this) (by simpa using hlen)]
        simp
  | succ n ih =>
    intro os vs k a l hl hlen
    cases os with
    | nil => simp [fill]
    | cons o os =>
      cases vs with
      | nil => simp at hlen
      | cons v vs =>
        have h0 := hl 0 (by simp)
        simp at h0
        simp only [fill, Array.getD_eq_getD_getElem?, h0]
        rw [ih os vs (k + 1) _ l (fun j hj => by have := hl (j + 1) (by simp; omega); rw [show k + 1 + j = k + (j + 1) by omega, this]; simp) (by simpa using hlen)]
        simp

theorem fill_put {d : Option Tmp} {v : Value} {l : Array Bool} : ∀ (os : List Oper) (vs : List Value) (k : Nat) (a : Act), (∀ o ∈ os, ∀ t, d = some t → o.dst ≠ some t) → fill l k os vs (a.put d v) = (fill l k os vs a).put d v
  | [], _, _, _, _ => by simp [fill]
  | _ :: _, [], _, _, _ => by simp [fill]
  | o :: os, u :: vs, k, a, h => by
    simp only [fill]
    rw [← fill_put os vs (k + 1) _ (fun o' ho' => h o' (by simp [ho']))]
    split
    · rw [Act.put_comm a v u (fun t ht => h o (by simp) t ht)]
    · rfl

theorem fill_set {l : Array Bool} {i : Nat} (hi : i < l.size) (hu : l.getD i false = false) : ∀ (os : List Oper) (vs : List Value) (k : Nat) (a : Act) (o : Oper) (v : Value), k ≤ i → os[i - k]? = some o → vs[i - k]? = some v →
    (∀ (j j' : Nat) (oj oj' : Oper), os[j]? = some oj → os[j']? = some oj' → j ≠ j' → ∀ t, oj.dst = some t → oj'.dst ≠ some t) →
    fill (l.setIfInBounds i true) k os vs a = (fill l k os vs a).put o.dst v
  | [], _, _, _, _, _, _, ho, _, _ => by simp at ho
  | _ :: _, [], _, _, _, _, _, _, hv, _ => by simp at hv
  | o' :: os, u :: vs, k, a, o, v, hk, ho, hv, hd => by
    simp only [fill]
    by_cases e : k = i
    · subst e
      simp at ho hv
      subst ho; subst hv
      have h1 : (l.setIfInBounds k true).getD k false = true := by simp [hi]
      rw [h1, hu]
      simp only [if_true, Bool.false_eq_true, if_false]
      rw [← fill_put os vs (k + 1) a (fun oj hoj t ht => by
        obtain ⟨j, hj⟩ := List.getElem?_of_mem hoj
        exact hd 0 (j + 1) o' oj rfl (by simpa using hj) (by omega) t ht)]
      -- the flags behind k are the same
      have same : ∀ (os : List Oper) (vs : List Value) (m : Nat) (a : Act), k < m → fill (l.setIfInBounds k true) m os vs a = fill l m os vs a := by
        intro os
        induction os with
        | nil => intro vs m a _; simp [fill]
        | cons x os ih =>
          intro vs m a hm
          cases vs with
          | nil => simp [fill]
          | cons y vs =>
            simp only [fill]
            have : (l.setIfInBounds k true).getD m false = l.getD m false := by
              simp [Array.getElem?_setIfInBounds_ne (show k ≠ m by omega)]
            rw [this, ih vs (m + 1) _ (by omega)]
      exact same os vs (k + 1) _ (by omega)
    · have h1 : (l.setIfInBounds i true).getD k false = l.getD k false := by
        simp [Array.getElem?_setIfInBounds_ne (show i ≠ k by omega)]
      rw [h1]
      have e1 : i - k = (i - (k + 1)) + 1 := by omega
      exact fill_set hi hu os vs (k + 1) _ o v (by omega) (by rw [e1] at ho; simpa using ho) (by rw [e1] at hv; simpa using hv) (fun j j' oj oj' hj hj' hne => hd (j + 1) (j' + 1) oj oj' (by simpa using hj) (by simpa using hj') (by omega))

theorem fill_upd {l : Array Bool} {i n : Nat} {c : Nat → Nat} (hu : l.getD i false = false) : ∀ (os : List Oper) (vs : List (Nat → Value)) (k : Nat) (a : Act), fill l k os (at_ (upd c i n) k vs) a = fill l k os (at_ c k vs) a
  | [], vs, k, a => by cases vs <;> simp [fill]
  | _ :: _, [], k, a => by simp [fill, at_]
  | o :: os, v :: vs, k, a => by
    simp only [at_, fill]
    by_cases e : k = i
    · subst e
      rw [hu]
      simp only [Bool.false_eq_true, if_false]
      exact fill_upd hu os vs (k + 1) a
    · have : upd c i n k = c k := by unfold upd; rw [if_neg e]
      rw [this]
      exact fill_upd hu os vs (k + 1) _
theorem flags_set {l : Array Bool} {i : Nat} (hi : i < l.size) : flags (l.setIfInBounds i true) = upd (flags l) i true := by
  funext j
  unfold flags upd
  by_cases e : j = i
  · subst e; simp [hi]
  · have e' : i ≠ j := fun x => e x.symm
    simp [Array.getElem?_setIfInBounds_ne e', e]

/-- What the check says. -/
theorem okB_spec {ops : Array Oper} (h : okB ops = true) {i : Nat} {o : Oper} (hi : ops[i]? = some o) :
    (∀ cs b, o.op ≠ .select cs b) ∧ (∀ e ∈ o.after, Region.binds .any e = true → e.on < i) ∧
    (∀ (j : Nat) oj d, ops[j]? = some oj → oj.dst = some d → (i ≠ j → o.dst ≠ some d) ∧ (d ∈ o.looksAt ops → (j < i ∧ reachB ops j ops.size i = true) ∨ i = j ∨ (i < j ∧ reachB ops i ops.size j = true))) := by
  have hlt : i < ops.size := (Array.getElem?_eq_some_iff.1 hi).1
  have h1 := List.all_eq_true.1 h i (List.mem_range.2 hlt)
  rw [hi] at h1
  simp only [Bool.and_eq_true] at h1
  obtain ⟨⟨h1, h2⟩, h3⟩ := h1
  refine ⟨fun cs b e => (by rw [e] at h1; cases h1), fun e he hb => ?_, fun j oj d hj hd => ?_⟩
  · have := Array.all_eq_true_iff_forall_mem.1 h2 e he
    simpa [hb] using this
  · have h4 := List.all_eq_true.1 h3 j (List.mem_range.2 (Array.getElem?_eq_some_iff.1 hj).1)
    simp only [hj, hd, Bool.and_eq_true, Bool.or_eq_true, beq_iff_eq, bne_iff_ne, Bool.not_eq_true', decide_eq_true_eq] at h4
    refine ⟨fun hne => h4.1.resolve_left hne, fun hm => ?_⟩
    have hc : (o.looksAt ops).contains d = true := by simpa using hm
    rw [hc] at h4
    rcases h4.2 with ((h5 | h5) | h5) | h5
    · cases h5
    · exact .inl h5
    · exact .inr (.inl h5)
    · exact .inr (.inr h5)

/-- **A region that draws its order**: each operation shown once, in the text's order, against what stands whenever it comes up. -/
theorem region {ops : Array Oper} {I : (Nat → Bool) → (Nat → Nat) → World → Prop} {Q : Exit → Act → World → Prop} {id : Nat} {a : Act} {w : World} (hm : P.follows .mixedOrders = true) (hc : okB ops = true)
    (h0 : I (fun _ => false) (fun _ => 0) w.drew) (h : Seq P false ops I (fun a' => ∀ f c w', (∀ j, j < ops.size → f j = true) → I f c w' → Q .normal (a' c) w') 0 ops.toList (fun _ => a)) : (Code.region id ops true).wp P Q a w := by
  obtain ⟨vs, hlen, hst, hR⟩ := Seq.vals _ _ _ h
  refine wp_region_any hm ?_
  have hlen' : vs.length = ops.size := by simpa using hlen
  have hal : ∀ c, (at_ c 0 vs).length = ops.toList.length := fun c => by rw [at_len]; simpa using hlen'
  have main : ∀ (fuel : Nat) (l : Array Bool) (c : Nat → Nat) (w : World), l.size = ops.size → l.toList.count false ≤ fuel → Closed ops l → I (flags l) c w → wpAny P .any ops Q fuel l (fill l 0 ops.toList (at_ c 0 vs) a) w := by
    -- all have come up
    have fin : ∀ (l : Array Bool) (c : Nat → Nat) (w : World), l.size = ops.size → (∀ i, i < ops.size → l.getD i false = true) → I (flags l) c w → Q .normal (fill l 0 ops.toList (at_ c 0 vs) a) w := by
      intro l c w hsz hall hI
      rw [fill_prefix ops.size ops.toList (at_ c 0 vs) 0 a l (fun j hj => by rw [Nat.zero_add, hall j (by simpa using hj)]; simp at hj; simp [hj]) (hal c)]
      rw [List.take_of_length_le (by simp; omega)]
      exact hR (flags l) c w hall hI
    have noReady : ∀ (l : Array Bool), l.size = ops.size → Region.ready .any ops l = [] → ∀ i, i < ops.size → l.getD i false = true := by
      intro l hsz hr i
      induction i using Nat.strongRecOn with
      | ind i ih =>
        intro hi
        cases hv : l.getD i false with
        | true => rfl
        | false =>
          exfalso
          have : i ∈ Region.ready .any ops l := by
            refine mem_ready.2 ⟨?_, ops[i], by simp [hi], fun e he hb => ?_⟩
            · have : i < l.size := by omega
              simp [this] at hv ⊢; exact hv
            · have := (okB_spec hc (i := i) (o := ops[i]) (by simp [hi])).2.1 e he hb
              exact ih e.on this (by omega)
          rw [hr] at this; cases this
    intro fuel
    induction fuel with
    | zero =>
      intro l c w hsz hcnt hcl hI
      have hall : ∀ i, i < ops.size → l.getD i false = true := by
        intro i hi
        have h1 : i < l.size := by omega
        have h2 : l.toList.count false = 0 := by omega
        rw [List.count_eq_zero] at h2
        have h3 : l[i] ∈ l.toList := by simp
        cases hb : l[i] with
        | true => simp [h1, hb]
        | false => rw [hb] at h3; exact absurd h3 h2
      refine ⟨?_, fin l c w hsz hall hI⟩
      cases hr : Region.ready .any ops l with
      | nil => rfl
      | cons x xs =>
        have hx : x ∈ Region.ready .any ops l := by rw [hr]; simp
        obtain ⟨hun, o, ho, _⟩ := mem_ready.1 hx
        have hlt : x < ops.size := (Array.getElem?_eq_some_iff.1 ho).1
        have := hall x hlt
        have h1 : x < l.size := by omega
        simp [h1] at hun this
        rw [hun] at this; cases this
    | succ fuel ih =>
      intro l c w hsz hcnt hcl hI
      refine ⟨fun hr => fin l c w hsz (noReady l hsz hr) hI, fun i hi => ?_⟩
      obtain ⟨hun, o, ho, hrd⟩ := mem_ready.1 hi
      have hlt : i < ops.size := (Array.getElem?_eq_some_iff.1 ho).1
      have hll : i < l.size := by omega
      have hu0 : l.getD i false = false := by simp [hll] at hun ⊢; exact hun
      obtain ⟨hsel, hdown, hlook⟩ := okB_spec hc ho
      have hol : ops.toList[i]? = some o := by simpa using ho
      obtain ⟨v, hv, hs⟩ := hst i o hol
      rw [Nat.zero_add] at hs
      have hctx : Ctx false ops i l := ⟨(fun h => by cases h), hun, fun o' ho' => by rw [ho] at ho'; cases ho'; exact hrd, hcl, hsz⟩
      have hag : Agree (o.looksAt ops) (((ops.toList.zip (at_ c 0 vs)).take i).foldl (fun a x => a.put x.1.dst x.2) a) (fill l 0 ops.toList (at_ c 0 vs) a) := by
        rw [← fill_prefix i ops.toList (at_ c 0 vs) 0 a ((List.range ops.size).map (fun j => decide (j < i))).toArray (fun j hj => by simp at hj; simp [hj]) (hal c)]
        refine Agree.fills _ _ _ ⟨fun _ _ => rfl, rfl⟩ (fun j oj hj d hd hS => ?_)
        have hj' : ops[j]? = some oj := by simpa using hj
        have hjl : j < ops.size := (Array.getElem?_eq_some_iff.1 hj').1
        rw [Nat.zero_add]
        rcases (hlook j oj d hj' hd).2 hS with ⟨h1, h2⟩ | h1 | ⟨h1, h2⟩
        · rw [hctx.before j h2]
          simp [hjl, h1]
        · subst h1
          rw [hu0]
          simp [hjl]
        · rw [hctx.later j h2]
          simp [hjl]
          omega
      have hset : ∀ n, fill (l.setIfInBounds i true) 0 ops.toList (at_ (upd c i n) 0 vs) a = (fill l 0 ops.toList (at_ c 0 vs) a).put o.dst (v n) := fun n => by
        rw [← fill_upd (n := n) hu0 ops.toList vs 0 a]
        refine fill_set hll hu0 ops.toList _ 0 a o (v n) (Nat.zero_le _) (by simpa using hol) ?_ (fun j j' oj oj' hj hj' hne t ht => by
          have := ((okB_spec hc (i := j') (o := oj') (by simpa using hj')).2.2 j oj t (by simpa using hj) ht).1
          exact this (fun e => hne e.symm))
        have := at_get (upd c i n) vs 0 i v hv
        simpa [upd] using this
      have hcl' : Closed ops (l.setIfInBounds i true) := by
        intro j oj hj hl e he hb
        have up : l.getD e.on false = true → (l.setIfInBounds i true).getD e.on false = true := fun hx => by
          by_cases hie : i = e.on
          · rw [← hie]; simp [hll]
          · simp [Array.getElem?_setIfInBounds_ne hie]; simpa using hx
        by_cases hij : i = j
        · subst hij
          rw [ho] at hj; cases hj
          exact up (hrd e he hb)
        · refine up (hcl j oj hj ?_ e he hb)
          simpa [Array.getElem?_setIfInBounds_ne hij] using hl
      have hcnt' : (l.setIfInBounds i true).toList.count false ≤ fuel := by
        have : (l.setIfInBounds i true).toList = l.toList.set i true := by simp
        rw [this, List.count_set (by simpa using hll)]
        have h3 : l.toList[i] = false := by simp [hll] at hu0; simpa using hu0
        rw [h3]
        simp only [beq_self_eq_true, if_true]
        simp at hcnt ⊢
        omega
      have fin' := hs.at (Q := Q) (c := c) hsel hag hctx hI (K := fun a' w' => wpAny P .any ops Q fuel (l.setIfInBounds i true) a' w') (fun n w' hI' => by
        rw [← hset n]
        exact ih _ _ w' (by simp [hsz]) hcnt' hcl' (by rw [flags_set hll]; exact hI'))
      unfold wpOp
      rw [ho]
      simp only []
      split
      · rename_i hw
        rw [if_pos hw] at fin'
        exact .inl fin'
      · rename_i hw
        rw [if_neg hw] at fin'
        exact fin'
  have hz : fill (Array.replicate ops.size false) 0 ops.toList (at_ (fun _ => 0) 0 vs) a = a := by
    rw [fill_prefix 0 ops.toList _ 0 a _ (fun j hj => by simp at hj; simp [hj]) (hal _)]
    simp
  have hf0 : flags (Array.replicate ops.size false) = fun _ => false := by
    funext j
    unfold flags
    by_cases hjl : j < ops.size <;> simp [hjl]
  have := main ops.size (Array.replicate ops.size false) (fun _ => 0) w.drew (by simp) (by simp) (fun j oj _ hl => by
    exfalso
    by_cases hjl : j < ops.size <;> simp [hjl] at hl) (by rw [hf0]; exact h0)
  rw [hz] at this
  exact this
/-- A region in the text's order. -/
theorem region_text {ops : Array Oper} {I : (Nat → Bool) → (Nat → Nat) → World → Prop} {Q : Exit → Act → World → Prop} {id : Nat} {a : Act} {w : World} (hc : okB ops = true)
    (h0 : I (fun _ => false) (fun _ => 0) w) (h : Seq P true ops I (fun a' => ∀ f c w', (∀ j, j < ops.size → f j = true) → I f c w' → Q .normal (a' c) w') 0 ops.toList (fun _ => a)) : (Code.region id ops false).wp P Q a w := by
  refine wp_region ?_
  have key : ∀ (os : List Oper) (k : Nat) (l : Array Bool) (c : Nat → Nat) (A : (Nat → Nat) → Act) (w : World), (∀ j, os[j]? = ops[k + j]?) → k + os.length = ops.size → l.size = ops.size → (∀ j, j < ops.size → l.getD j false = decide (j < k)) → I (flags l) c w →
      (∀ c', (∀ j, j < k → c' j = c j) → A c' = A c) →
      Seq P true ops I (fun a' => ∀ f c w', (∀ j, j < ops.size → f j = true) → I f c w' → Q .normal (a' c) w') k os A → wpOps P ops Q (List.range' k os.length) (A c) w := by
    intro os
    induction os with
    | nil =>
      intro k l c A w _ hk hsz hl hI _ h
      exact h (flags l) c w (fun j hj => by unfold flags; rw [hl j hj]; simp at hk; simp; omega) hI
    | cons o os ih =>
      intro k l c A w hos hk hsz hl hI hA ⟨v, hv, h⟩
      have ho : ops[k]? = some o := by have := hos 0; simpa using this.symm
      have hlt : k < ops.size := (Array.getElem?_eq_some_iff.1 ho).1
      have hll : k < l.size := by omega
      obtain ⟨hsel, hdown, _⟩ := okB_spec hc ho
      have hctx : Ctx true ops k l := by
        refine ⟨fun _ => hl, ?_, fun o' ho' e he hb => ?_, fun j oj hj hlj e he hb => ?_, hsz⟩
        · have := hl k hlt
          simp [hll] at this ⊢
          simpa using this
        · rw [ho] at ho'; cases ho'
          have := hdown e he hb
          rw [hl e.on (by omega)]; simp [this]
        · have hjl : j < ops.size := (Array.getElem?_eq_some_iff.1 hj).1
          have := (okB_spec hc hj).2.1 e he hb
          rw [hl j hjl] at hlj
          have hjk : j < k := by simpa using hlj
          rw [hl e.on (by omega)]; simp; omega
      have H := hv l c w hctx hI Q (fun a' w' => wpOps P ops Q (List.range' (k + 1) os.length) a' w') (fun n w' hI' => by
        have hA' : ∀ c', (∀ j, j < k → c' j = c j) → (A c').put o.dst (v (c' k)) = (A c).put o.dst (v (c' k)) := fun c' hc' => by rw [hA c' hc']
        have e1 : (A c).put o.dst (v n) = (fun c => (A c).put o.dst (v (c k))) (upd c k n) := by
          have e2 : upd c k n k = n := by simp [upd]
          show _ = (A (upd c k n)).put o.dst (v (upd c k n k))
          rw [hA (upd c k n) (fun j hj => by unfold upd; rw [if_neg (by omega)]), e2]
        rw [e1]
        refine ih (k + 1) (l.setIfInBounds k true) (upd c k n) _ w' (fun j => ?_) (by simp at hk; omega) (by simp [hsz]) (fun j hj => ?_) (by rw [flags_set hll]; exact hI') (fun c' hc' => ?_) h
        · have := hos (j + 1)
          rw [show k + 1 + j = k + (j + 1) by omega]
          simpa using this
        · by_cases e : k = j
          · subst e; simp [hll]
          · have := hl j hj
            simp [Array.getElem?_setIfInBounds_ne e]
            simp at this
            rw [this]
            simp; omega
        · have h1 : A c' = A (upd c k n) := by
            rw [hA c' (fun j hj => by rw [hc' j (by omega)]; unfold upd; rw [if_neg (by omega)]), hA (upd c k n) (fun j hj => by unfold upd; rw [if_neg (by omega)])]
          show (A c').put o.dst (v (c' k)) = (A (upd c k n)).put o.dst (v (upd c k n k))
          rw [h1, hc' k (by omega)])
      rw [List.length_cons, List.range'_succ]
      unfold wpOps
      rw [ho]
      simp only []
      split
      · rename_i hw
        rw [if_pos hw] at H
        exact .inl H
      · rename_i hw
        rw [if_neg hw] at H
        exact H
  have := key ops.toList 0 (Array.replicate ops.size false) (fun _ => 0) (fun _ => a) w (fun j => by simp) (by simp) (by simp) (fun j hj => by simp [hj]) (by
    have hf0 : flags (Array.replicate ops.size false) = fun _ => false := by
      funext j
      unfold flags
      by_cases hjl : j < ops.size <;> simp [hjl]
    rw [hf0]; exact h0) (fun _ _ => rfl) h
  simpa [List.range_eq_range'] using this
end
theorem u_0 (a : Act) (d : Tmp) (v : Value) : a.put (some d) v = { a with tmps := a.tmps.setIfInBounds d v } := rfl
theorem u_1 {α : Type} (l : List α) (i : Nat) (a : α) : l.toArray.setIfInBounds i a = (l.set i a).toArray := List.setIfInBounds_toArray ..
theorem u_2 {α : Type} (x a : α) (l : List α) : (x :: l).set 0 a = a :: l := rfl
theorem u_3 {α : Type} (x a : α) (l : List α) (i : Nat) : (x :: l).set (i + 1) a = x :: l.set i a := rfl
theorem max2_mx (k k' : IntKind) (x y : Int) : Builtin.max2 (.int k x) (.int k' y) = pure (.int k (Go.Proofs.YtkagmelijdfdiaaW.PrintWords.mx x y)) := Go.Proofs.YtkagmelijdfdiaaW.PrintMore.max2_int k k' x y
theorem min2_mn (k k' : IntKind) (x y : Int) : Builtin.min2 (.int k x) (.int k' y) = pure (.int k (Go.Proofs.YtkagmelijdfdiaaW.PrintWords.mn x y)) := Go.Proofs.YtkagmelijdfdiaaW.PrintMore.min2_int k k' x y
/-! ### What is known of memory: some blocks, whole, apart from one another -/
abbrev Blk := Nat × Obj
/-- From block B on: these blocks hold this; below B all is as it was in w0. -/
structure St (w0 : World) (L : List Blk) (w : World) : Prop where
  below : Below w0.heap.size w0 w
  apart : L.Pairwise (fun p q => p.1 ≠ q.1)
  holds : ∀ p ∈ L, w0.heap.size ≤ p.1 ∧ w.heap[p.1]? = some p.2
theorem St.nil (w : World) : St w [] w := ⟨Below.refl _ _, .nil, fun _ h => by cases h⟩
theorem St.lt {w0 w : World} {L : List Blk} (h : St w0 L w) {p : Blk} (hp : p ∈ L) : p.1 < w.heap.size := (Array.getElem?_eq_some_iff.1 (h.holds p hp).2).1
theorem below_then' {w0 w w1 : World} (h : Below w0.heap.size w0 w) (k : Below w.heap.size w w1) : Below w0.heap.size w0 w1 :=
  h.trans ⟨k.os, k.tape, k.output, k.size, fun i hi => k.block i (Nat.lt_of_lt_of_le hi h.size)⟩
theorem St.call {w0 w w1 : World} {L : List Blk} (h : St w0 L w) (hb : Below w.heap.size w w1) : St w0 L w1 :=
  ⟨below_then' h.below hb, h.apart, fun p hp => ⟨(h.holds p hp).1, (hb.block p.1 (h.lt hp)).trans (h.holds p hp).2⟩⟩
theorem St.drew {w0 w : World} {L : List Blk} (h : St w0 L w) : St w0 L w.drew := ⟨⟨h.below.os, h.below.tape, h.below.output, h.below.size, h.below.block⟩, h.apart, h.holds⟩
theorem St.drewN {w0 w : World} {L : List Blk} (h : St w0 L w) (n : Nat) : St w0 L (w.drewN n) := ⟨⟨h.below.os, h.below.tape, h.below.output, h.below.size, h.below.block⟩, h.apart, h.holds⟩
theorem St.alloc {w0 w : World} {L : List Blk} (h : St w0 L w) (o : Obj) : St w0 ((w.heap.size, o) :: L) (w.alloc o) := by
  refine ⟨h.below.alloc h.below.size o, List.Pairwise.cons (fun q hq => ?_) h.apart, fun p hp => ?_⟩
  · have := h.lt hq; simp; omega
  · rcases List.mem_cons.1 hp with rfl | hp
    · exact ⟨h.below.size, heap_alloc_new w o⟩
    · exact ⟨(h.holds p hp).1, (Below.heap_alloc w o p.1 (h.lt hp)).trans (h.holds p hp).2⟩
theorem St.sub {w0 w : World} {L L' : List Blk} (h : St w0 L w) (hs : L'.Sublist L) : St w0 L' w := ⟨h.below, h.apart.sublist hs, fun p hp => h.holds p (hs.subset hp)⟩
theorem St.tail {w0 w : World} {L : List Blk} {p : Blk} (h : St w0 (p :: L) w) : St w0 L w := h.sub (List.sublist_cons_self _ _)
/-- w' is w with one block's content turned. -/
structure Turn (k : Nat) (o : Obj) (w w' : World) : Prop where
  os : w'.os = w.os
  tape : w'.tape = w.tape
  output : w'.output = w.output
  size : w'.heap.size = w.heap.size
  other : ∀ j, j ≠ k → w'.heap[j]? = w.heap[j]?
  this : w'.heap[k]? = some o
theorem Turn.set {k : Nat} {w : World} {cs : Array Value} {t : TypeId} (h : w.heap[k]? = some (.cells cs t (0, 0))) (i : Nat) (u : Value) : Turn k (.cells (cs.setIfInBounds i u) t (0, 0)) w (w.setCell ⟨k, i, none⟩ u) :=
  ⟨rfl, rfl, rfl, by simp [World.setCell], fun j hj => Below.heap_setCell w _ u j (by simpa using hj), by simp [World.setCell, Array.getElem?_modify, h]⟩
theorem Turn.trans {k : Nat} {o o' : Obj} {w w1 w2 : World} (h : Turn k o w w1) (h' : Turn k o' w1 w2) : Turn k o' w w2 :=
  ⟨h'.os.trans h.os, h'.tape.trans h.tape, h'.output.trans h.output, h'.size.trans h.size, fun j hj => (h'.other j hj).trans (h.other j hj), h'.this⟩
theorem Turn.put {k : Nat} {w w1 : World} {cs : Array Value} {t : TypeId} (h : Turn k (.cells cs t (0, 0)) w w1) (i : Nat) (u : Value) : Turn k (.cells (cs.setIfInBounds i u) t (0, 0)) w (w1.setCell ⟨k, i, none⟩ u) :=
  h.trans (Turn.set h.this i u)
theorem St.turn {w0 w w1 : World} {L1 L2 : List Blk} {k : Nat} {o o' : Obj} (h : St w0 (L1 ++ (k, o) :: L2) w) (ht : Turn k o' w w1) : St w0 (L1 ++ (k, o') :: L2) w1 := by
  have hk : w0.heap.size ≤ k := (h.holds (k, o) (by simp)).1
  have hap := List.pairwise_append.1 h.apart
  have hap2 := List.pairwise_cons.1 hap.2.1
  have hne : ∀ p ∈ L1 ++ L2, p.1 ≠ k := fun p hp => by
    rcases List.mem_append.1 hp with hp | hp
    · exact hap.2.2 p hp (k, o) (by simp)
    · exact fun e => hap2.1 p hp e.symm
  refine ⟨⟨ht.os.trans h.below.os, ht.tape.trans h.below.tape, ht.output.trans h.below.output, by rw [ht.size]; exact h.below.size, fun i hi => (ht.other i (by omega)).trans (h.below.block i hi)⟩,
    List.pairwise_append.2 ⟨hap.1, List.pairwise_cons.2 ⟨fun q hq => hap2.1 q hq, hap2.2⟩, fun p hp q hq => ?_⟩, fun p hp => ?_⟩
  · rcases List.mem_cons.1 hq with rfl | hq
    · exact hap.2.2 p hp (k, o) (by simp)
    · exact hap.2.2 p hp q (by simp [hq])
  · rcases List.mem_append.1 hp with hp | hp
    · exact ⟨(h.holds p (by simp [hp])).1, (ht.other p.1 (hne p (by simp [hp]))).trans (h.holds p (by simp [hp])).2⟩
    · rcases List.mem_cons.1 hp with rfl | hp
      · exact ⟨hk, ht.this⟩
      · exact ⟨(h.holds p (by simp [hp])).1, (ht.other p.1 (hne p (by simp [hp]))).trans (h.holds p (by simp [hp])).2⟩
theorem St.set0 {w0 w : World} {L : List Blk} {k : Nat} {cs : Array Value} {t : TypeId} (h : St w0 ((k, .cells cs t (0, 0)) :: L) w) (i : Nat) (u : Value) : St w0 ((k, .cells (cs.setIfInBounds i u) t (0, 0)) :: L) (w.setCell ⟨k, i, none⟩ u) :=
  St.turn (L1 := []) h (Turn.set (h.holds (k, .cells cs t (0, 0)) (by simp)).2 i u)
theorem St.set1 {w0 w : World} {L : List Blk} {p0 : Blk} {k : Nat} {cs : Array Value} {t : TypeId} (h : St w0 (p0 :: (k, .cells cs t (0, 0)) :: L) w) (i : Nat) (u : Value) : St w0 (p0 :: (k, .cells (cs.setIfInBounds i u) t (0, 0)) :: L) (w.setCell ⟨k, i, none⟩ u) :=
  St.turn (L1 := [p0]) h (Turn.set (h.holds (k, .cells cs t (0, 0)) (by simp)).2 i u)
theorem St.set2 {w0 w : World} {L : List Blk} {p0 p1 : Blk} {k : Nat} {cs : Array Value} {t : TypeId} (h : St w0 (p0 :: p1 :: (k, .cells cs t (0, 0)) :: L) w) (i : Nat) (u : Value) : St w0 (p0 :: p1 :: (k, .cells (cs.setIfInBounds i u) t (0, 0)) :: L) (w.setCell ⟨k, i, none⟩ u) :=
  St.turn (L1 := [p0, p1]) h (Turn.set (h.holds (k, .cells cs t (0, 0)) (by simp)).2 i u)
theorem St.set3 {w0 w : World} {L : List Blk} {p0 p1 p2 : Blk} {k : Nat} {cs : Array Value} {t : TypeId} (h : St w0 (p0 :: p1 :: p2 :: (k, .cells cs t (0, 0)) :: L) w) (i : Nat) (u : Value) : St w0 (p0 :: p1 :: p2 :: (k, .cells (cs.setIfInBounds i u) t (0, 0)) :: L) (w.setCell ⟨k, i, none⟩ u) :=
  St.turn (L1 := [p0, p1, p2]) h (Turn.set (h.holds (k, .cells cs t (0, 0)) (by simp)).2 i u)
theorem St.set4 {w0 w : World} {L : List Blk} {p0 p1 p2 p3 : Blk} {k : Nat} {cs : Array Value} {t : TypeId} (h : St w0 (p0 :: p1 :: p2 :: p3 :: (k, .cells cs t (0, 0)) :: L) w) (i : Nat) (u : Value) : St w0 (p0 :: p1 :: p2 :: p3 :: (k, .cells (cs.setIfInBounds i u) t (0, 0)) :: L) (w.setCell ⟨k, i, none⟩ u) :=
  St.turn (L1 := [p0, p1, p2, p3]) h (Turn.set (h.holds (k, .cells cs t (0, 0)) (by simp)).2 i u)
theorem St.set5 {w0 w : World} {L : List Blk} {p0 p1 p2 p3 p4 : Blk} {k : Nat} {cs : Array Value} {t : TypeId} (h : St w0 (p0 :: p1 :: p2 :: p3 :: p4 :: (k, .cells cs t (0, 0)) :: L) w) (i : Nat) (u : Value) : St w0 (p0 :: p1 :: p2 :: p3 :: p4 :: (k, .cells (cs.setIfInBounds i u) t (0, 0)) :: L) (w.setCell ⟨k, i, none⟩ u) :=
  St.turn (L1 := [p0, p1, p2, p3, p4]) h (Turn.set (h.holds (k, .cells cs t (0, 0)) (by simp)).2 i u)
theorem St.set6 {w0 w : World} {L : List Blk} {p0 p1 p2 p3 p4 p5 : Blk} {k : Nat} {cs : Array Value} {t : TypeId} (h : St w0 (p0 :: p1 :: p2 :: p3 :: p4 :: p5 :: (k, .cells cs t (0, 0)) :: L) w) (i : Nat) (u : Value) : St w0 (p0 :: p1 :: p2 :: p3 :: p4 :: p5 :: (k, .cells (cs.setIfInBounds i u) t (0, 0)) :: L) (w.setCell ⟨k, i, none⟩ u) :=
  St.turn (L1 := [p0, p1, p2, p3, p4, p5]) h (Turn.set (h.holds (k, .cells cs t (0, 0)) (by simp)).2 i u)
theorem St.set7 {w0 w : World} {L : List Blk} {p0 p1 p2 p3 p4 p5 p6 : Blk} {k : Nat} {cs : Array Value} {t : TypeId} (h : St w0 (p0 :: p1 :: p2 :: p3 :: p4 :: p5 :: p6 :: (k, .cells cs t (0, 0)) :: L) w) (i : Nat) (u : Value) : St w0 (p0 :: p1 :: p2 :: p3 :: p4 :: p5 :: p6 :: (k, .cells (cs.setIfInBounds i u) t (0, 0)) :: L) (w.setCell ⟨k, i, none⟩ u) :=
  St.turn (L1 := [p0, p1, p2, p3, p4, p5, p6]) h (Turn.set (h.holds (k, .cells cs t (0, 0)) (by simp)).2 i u)
theorem St.cells {w0 w : World} {L : List Blk} (h : St w0 L w) {k : Nat} {cs : Array Value} {t : TypeId} (hp : (k, Obj.cells cs t (0, 0)) ∈ L) :
    (∀ i, w.cell? ⟨k, i, none⟩ = cs[i]?) ∧ (∀ i, w.frozen? ⟨k, i, none⟩ = false) ∧ k < w.heap.size :=
  ⟨fun i => cell_of_row w k i cs t (0, 0) (h.holds _ hp).2, fun i => by simp [World.frozen?, (h.holds _ hp).2], h.lt hp⟩

/-! ### The same inside a region -/
inductive Ent
  | fix (k : Nat) (o : Obj)
  | put (k : Nat) (s : Nat) (o o' : Obj)
  | var (i s : Nat) (z o : Obj)
  | mk (i : Nat) (o : Obj)
  | put3 (k : Nat) (s1 s2 s3 : Nat) (o o1 o2 o3 : Obj)
def Ent.on (f : Nat → Bool) : Ent → Bool
  | .var i _ _ _ => f i
  | .mk i _ => f i
  | _ => true
def Ent.key (c : Nat → Nat) : Ent → Nat
  | .fix k _ => k
  | .put k _ _ _ => k
  | .var i _ _ _ => c i
  | .mk i _ => c i
  | .put3 k _ _ _ _ _ _ _ => k
/-- put3: three stores, in this order -/
def Ent.obj (f : Nat → Bool) : Ent → Obj
  | .fix _ o => o
  | .put _ s o o' => if f s = true then o' else o
  | .var _ s z o => if f s = true then o else z
  | .mk _ o => o
  | .put3 _ s1 s2 s3 o o1 o2 o3 => if f s3 = true then o3 else if f s2 = true then o2 else if f s1 = true then o1 else o
/-- Number i is none of those that this entry hangs on. -/
def Ent.free (i : Nat) : Ent → Bool
  | .fix _ _ => true
  | .put _ s _ _ => s != i
  | .var j s _ _ => j != i && s != i
  | .mk j _ => j != i
  | .put3 _ s1 s2 s3 _ _ _ _ => s1 != i && s2 != i && s3 != i
def Ent.wf (n : Nat) : Ent → Bool
  | .fix _ _ => true
  | .put _ s _ _ => decide (s < n)
  | .var j s _ _ => decide (j < n) && decide (s < n)
  | .mk j _ => decide (j < n)
  | .put3 _ s1 s2 s3 _ _ _ _ => decide (s1 < n) && decide (s2 < n) && decide (s3 < n)
def Ent.start : Ent → Option Blk
  | .fix k o => some (k, o)
  | .put k _ o _ => some (k, o)
  | .var _ _ _ _ => none
  | .mk _ _ => none
  | .put3 k _ _ _ o _ _ _ => some (k, o)
def Ent.end_ (c : Nat → Nat) : Ent → Blk
  | .fix k o => (k, o)
  | .put k _ _ o' => (k, o')
  | .var i _ _ o => (c i, o)
  | .mk i o => (c i, o)
  | .put3 k _ _ _ _ _ _ o3 => (k, o3)
def now (es : List Ent) (f : Nat → Bool) (c : Nat → Nat) : List Blk := (es.filter (Ent.on f)).map fun e => (e.key c, e.obj f)
def Blks (w0 : World) (es : List Ent) (f : Nat → Bool) (c : Nat → Nat) (w : World) : Prop := St w0 (now es f c) w

theorem Ent.on_upd {i : Nat} {f : Nat → Bool} : ∀ e : Ent, e.free i = true → e.on (upd f i true) = e.on f
  | .fix _ _, _ => rfl
  | .put _ _ _ _, _ => rfl
  | .put3 _ _ _ _ _ _ _ _, _ => rfl
  | .var j s _ _, h => by simp [Ent.free] at h; simp [Ent.on, upd, h.1]
  | .mk j _, h => by simp [Ent.free] at h; simp [Ent.on, upd, h]
theorem Ent.key_upd {i n : Nat} {c : Nat → Nat} : ∀ e : Ent, e.free i = true → e.key (upd c i n) = e.key c
  | .fix _ _, _ => rfl
  | .put _ _ _ _, _ => rfl
  | .put3 _ _ _ _ _ _ _ _, _ => rfl
  | .var j s _ _, h => by simp [Ent.free] at h; simp [Ent.key, upd, h.1]
  | .mk j _, h => by simp [Ent.free] at h; simp [Ent.key, upd, h]
theorem Ent.obj_upd {i : Nat} {f : Nat → Bool} : ∀ e : Ent, e.free i = true → e.obj (upd f i true) = e.obj f
  | .fix _ _, _ => rfl
  | .put _ s _ _, h => by simp [Ent.free] at h; simp [Ent.obj, upd, h]
  | .put3 _ s1 s2 s3 _ _ _ _, h => by simp [Ent.free] at h; simp [Ent.obj, upd, h.1, h.2]
  | .var j s _ _, h => by simp [Ent.free] at h; simp [Ent.obj, upd, h.2]
  | .mk _ _, _ => rfl
theorem now_upd {i n : Nat} {f : Nat → Bool} {c : Nat → Nat} : ∀ es : List Ent, es.all (Ent.free i) = true → now es (upd f i true) (upd c i n) = now es f c
  | [], _ => rfl
  | e :: es, h => by
    simp only [List.all_cons, Bool.and_eq_true] at h
    have ih := now_upd (n := n) (f := f) (c := c) es h.2
    unfold now at ih ⊢
    rw [List.filter_cons, List.filter_cons, Ent.on_upd e h.1]
    split
    · simp only [List.map_cons]; rw [ih, Ent.key_upd e h.1, Ent.obj_upd e h.1]
    · exact ih
theorem now_append (es es' : List Ent) (f : Nat → Bool) (c : Nat → Nat) : now (es ++ es') f c = now es f c ++ now es' f c := by simp [now]
theorem Blks.free {w0 w : World} {es : List Ent} {f : Nat → Bool} {c : Nat → Nat} (h : Blks w0 es f c w) {i : Nat} (hi : es.all (Ent.free i) = true) (n : Nat) : Blks w0 es (upd f i true) (upd c i n) w := by
  unfold Blks; rw [now_upd es hi]; exact h

theorem now_cons_on {e : Ent} {es : List Ent} {f : Nat → Bool} {c : Nat → Nat} (h : e.on f = true) : now (e :: es) f c = (e.key c, e.obj f) :: now es f c := by
  unfold now; rw [List.filter_cons, if_pos h]; rfl
theorem now_cons_off {e : Ent} {es : List Ent} {f : Nat → Bool} {c : Nat → Nat} (h : e.on f = false) : now (e :: es) f c = now es f c := by
  unfold now; rw [List.filter_cons, if_neg (by rw [h]; simp)]
theorem now_start : ∀ es : List Ent, now es (fun _ => false) (fun _ => 0) = es.filterMap Ent.start
  | [] => rfl
  | .fix k o :: es => by rw [now_cons_on rfl, now_start es]; rfl
  | .put k s o o' :: es => by rw [now_cons_on rfl, now_start es]; rfl
  | .var i s z o :: es => by rw [now_cons_off rfl, now_start es]; rfl
  | .mk i o :: es => by rw [now_cons_off rfl, now_start es]; rfl
  | .put3 k s1 s2 s3 o o1 o2 o3 :: es => by rw [now_cons_on rfl, now_start es]; rfl
theorem now_end {n : Nat} {f : Nat → Bool} {c : Nat → Nat} (hf : ∀ j, j < n → f j = true) : ∀ es : List Ent, es.all (Ent.wf n) = true → now es f c = es.map (Ent.end_ c)
  | [], _ => rfl
  | e :: es, h => by
    simp only [List.all_cons, Bool.and_eq_true] at h
    have ih := now_end (c := c) hf es h.2
    have h1 := h.1
    rw [List.map_cons, ← ih]
    cases e with
    | fix k o => rw [now_cons_on rfl]; rfl
    | put k s o o' =>
      simp only [Ent.wf, decide_eq_true_eq] at h1
      rw [now_cons_on rfl]; simp only [Ent.key, Ent.obj, Ent.end_, hf s h1, if_true]
    | var i s z o =>
      simp only [Ent.wf, Bool.and_eq_true, decide_eq_true_eq] at h1
      rw [now_cons_on (show Ent.on f (.var i s z o) = true from hf i h1.1)]; simp only [Ent.key, Ent.obj, Ent.end_, hf s h1.2, if_true]
    | mk i o =>
      simp only [Ent.wf, decide_eq_true_eq] at h1
      rw [now_cons_on (show Ent.on f (.mk i o) = true from hf i h1)]; rfl
    | put3 k s1 s2 s3 o o1 o2 o3 =>
      simp only [Ent.wf, Bool.and_eq_true, decide_eq_true_eq] at h1
      rw [now_cons_on rfl]; simp only [Ent.key, Ent.obj, Ent.end_, hf s3 h1.2, if_true]

section
variable {P : Program} {ops : Array Oper} {w0 : World} {es : List Ent}
/-- The start of a region: es tells which blocks there are, which of them the region writes, which it makes. -/
theorem region_st {Q : Exit → Act → World → Prop} {id : Nat} {a : Act} {w : World} (n : Nat) (es : List Ent) (hm : P.follows .mixedOrders = true) (hc : okB ops = true) (hn : ops.size = n) (hwf : es.all (Ent.wf n) = true)
    (h0 : St w0 (es.filterMap Ent.start) w) (h : Seq P false ops (Blks w0 es) (fun a' => ∀ c w', St w0 (es.map (Ent.end_ c)) w' → Q .normal (a' c) w') 0 ops.toList (fun _ => a)) : (Code.region id ops true).wp P Q a w := by
  refine region hm hc ?_ (I := Blks w0 es) ?_
  · unfold Blks; rw [now_start]; exact h0.drew
  · have mono : ∀ (os : List Oper) (i : Nat) (a : (Nat → Nat) → Act) (R R' : ((Nat → Nat) → Act) → Prop), (∀ a, R a → R' a) → Seq P false ops (Blks w0 es) R i os a → Seq P false ops (Blks w0 es) R' i os a := by
      intro os
      induction os with
      | nil => intro i a R R' hR h; exact hR a h
      | cons o os ih => intro i a R R' hR ⟨v, hv, h⟩; exact ⟨v, hv, ih _ _ R R' hR h⟩
    refine mono _ _ _ _ _ (fun a' ha f c w' hf hI => ha c w' ?_) h
    unfold Blks at hI
    rwa [now_end (n := n) (fun j hj => hf j (by omega)) es hwf] at hI
/-- The start of a region that keeps the text's order. -/
theorem region_sq {Q : Exit → Act → World → Prop} {id : Nat} {a : Act} {w : World} (n : Nat) (es : List Ent) (hc : okB ops = true) (hn : ops.size = n) (hwf : es.all (Ent.wf n) = true)
    (h0 : St w0 (es.filterMap Ent.start) w) (h : Seq P true ops (Blks w0 es) (fun a' => ∀ c w', St w0 (es.map (Ent.end_ c)) w' → Q .normal (a' c) w') 0 ops.toList (fun _ => a)) : (Code.region id ops false).wp P Q a w := by
  refine region_text hc ?_ (I := Blks w0 es) ?_
  · unfold Blks; rw [now_start]; exact h0
  · have mono : ∀ (os : List Oper) (i : Nat) (a : (Nat → Nat) → Act) (R R' : ((Nat → Nat) → Act) → Prop), (∀ a, R a → R' a) → Seq P true ops (Blks w0 es) R i os a → Seq P true ops (Blks w0 es) R' i os a := by
      intro os
      induction os with
      | nil => intro i a R R' hR h; exact hR a h
      | cons o os ih => intro i a R R' hR ⟨v, hv, h⟩; exact ⟨v, hv, ih _ _ R R' hR h⟩
    refine mono _ _ _ _ _ (fun a' ha f c w' hf hI => ha c w' ?_) h
    unfold Blks at hI
    rwa [now_end (n := n) (fun j hj => hf j (by omega)) es hwf] at hI
variable {R : ((Nat → Nat) → Act) → Prop} {T : Bool}
/-- An operation that yields a value and leaves the world as it is. -/
theorem s_val {i : Nat} {o : Oper} {rest : List Oper} {a a' : (Nat → Nat) → Act} {v : Value} {N : Option Tmp} (hN : o.dst = N) (hw : ∀ c, Region.wanted o (yielded ops (a c).tmps) = true) (hfree : es.all (Ent.free i) = true)
    (hrun : ∀ l c w, Ctx T ops i l → Blks w0 es (flags l) c w → (execOp (a c).eval o).run P w = .ok (.value v) w) (ha : ∀ c, (a c).put N v = a' c)
    (h : Seq P T ops (Blks w0 es) R (i + 1) rest a') : Seq P T ops (Blks w0 es) R i (o :: rest) a := by
  subst hN
  have e : (fun c => (a c).put o.dst v) = a' := funext ha
  subst e
  refine ⟨fun _ => v, fun l c w hc hi Q K hK => ?_, h⟩
  rw [if_pos (hw c)]
  unfold Oper.wp
  rw [hrun l c w hc hi]
  exact hK 0 w (hi.free hfree 0)
/-- One whose guard is off. -/
theorem s_off {i : Nat} {o : Oper} {rest : List Oper} {a a' : (Nat → Nat) → Act} {N : Option Tmp} (hN : o.dst = N) (hw : ∀ c, Region.wanted o (yielded ops (a c).tmps) = false) (hfree : es.all (Ent.free i) = true) (ha : ∀ c, (a c).put N undef = a' c)
    (h : Seq P T ops (Blks w0 es) R (i + 1) rest a') : Seq P T ops (Blks w0 es) R i (o :: rest) a := by
  subst hN
  have e : (fun c => (a c).put o.dst undef) = a' := funext ha
  subst e
  refine ⟨fun _ => undef, fun l c w hc hi Q K hK => ?_, h⟩
  rw [if_neg (by rw [hw c]; simp)]
  exact hK 0 w (hi.free hfree 0)
/-- A call of a Go function, by its contract. -/
theorem s_call {i : Nat} {o : Oper} {rest : List Oper} {a : (Nat → Nat) → Act} {N : Option Tmp} (hN : o.dst = N) (hw : ∀ c, Region.wanted o (yielded ops (a c).tmps) = true) (hfree : es.all (Ent.free i) = true)
    {f : FuncId} {fn : Func} (hf : P.funcs[f]? = some fn) (hname : (fn.name == "runtime.NumGoroutine") = false) (hb : fn.body.isSome = true) (args : Array Value) {as : Array Operand} {ts : Array TypeId}
    (hop : o.op = .call { callee := .value (.func f), args := as, argTypes := ts }) (hargs : ∀ c, as.map (a c).eval = args)
    (h2 : ∃ v, (∀ w, Calls P f args w fun e w' => e = .returned v ∧ Below w.heap.size w w') ∧ ∃ a', (∀ c, (a c).put N v = a' c) ∧ Seq P T ops (Blks w0 es) R (i + 1) rest a') : Seq P T ops (Blks w0 es) R i (o :: rest) a := by
  subst hN
  obtain ⟨v, hcall, a', ha, h⟩ := h2
  have e : (fun c => (a c).put o.dst v) = a' := funext ha
  subst e
  refine ⟨fun _ => v, fun l c w hc hi Q K hK => ?_, h⟩
  refine Go.Proofs.YtkagmelijdfdiaaW.PrintLast.goes_ hf hname hb args (hw c) rfl hop (hargs c) ((hcall w).mono fun e w' hh => ?_)
  exact ⟨v, hh.1, hK 0 w' (Blks.free (w := w') (by exact St.call hi hh.2) hfree 0)⟩
/-- A call of a function value that was made here, whose contract asks for what memory holds. -/
theorem s_fn {i : Nat} {o : Oper} {rest : List Oper} {a : (Nat → Nat) → Act} {N : Option Tmp} (hN : o.dst = N) (hw : ∀ c, Region.wanted o (yielded ops (a c).tmps) = true) (hfree : es.all (Ent.free i) = true)
    (f : FuncId) (args : Array Value) (hrun : ∀ c w, (execOp (a c).eval o).run P w = .ok (.enter f args) w)
    (h2 : ∃ v, (∀ l c w, Ctx T ops i l → Blks w0 es (flags l) c w → Calls P f args w fun e w' => e = .returned v ∧ Below w.heap.size w w') ∧ ∃ a', (∀ c, (a c).put N v = a' c) ∧ Seq P T ops (Blks w0 es) R (i + 1) rest a') : Seq P T ops (Blks w0 es) R i (o :: rest) a := by
  subst hN
  obtain ⟨v, hcall, a', ha, h⟩ := h2
  have e : (fun c => (a c).put o.dst v) = a' := funext ha
  subst e
  refine ⟨fun _ => v, fun l c w hc hi Q K hK => ?_, h⟩
  refine Go.Proofs.YtkagmelijdfdiaaW.PrintLast.call_ f args (hw c) rfl (hrun c w) ((hcall l c w hc hi).mono fun e w' hh => ?_)
  exact ⟨v, hh.1, hK 0 w' (Blks.free (w := w') (by exact St.call hi hh.2) hfree 0)⟩
/-- A variable is made. -/
theorem s_alloc {i : Nat} {o : Oper} {rest : List Oper} {a a' : (Nat → Nat) → Act} (s : Nat) (z o' : Obj) (pre post : List Ent) (hes : es = pre ++ .var i s z o' :: post) (hpre : pre.all (Ent.free i) = true) (hpost : post.all (Ent.free i) = true)
    (hs : s ≠ i) (hwait : reachB ops i ops.size s = true) {N : Option Tmp} (hN : o.dst = N) (hw : ∀ c, Region.wanted o (yielded ops (a c).tmps) = true)
    (hrun : ∀ c w, (execOp (a c).eval o).run P w = .ok (.value (.pointer (some ⟨w.heap.size, 0, none⟩))) (w.alloc z)) (ha : ∀ c, (a c).put N (.pointer (some ⟨c i, 0, none⟩)) = a' c)
    (h : Seq P T ops (Blks w0 es) R (i + 1) rest a') : Seq P T ops (Blks w0 es) R i (o :: rest) a := by
  subst hN
  have e : (fun c => (a c).put o.dst (.pointer (some ⟨c i, 0, none⟩))) = a' := funext ha
  subst e
  refine ⟨fun n => .pointer (some ⟨n, 0, none⟩), fun l c w hc hi Q K hK => ?_, h⟩
  rw [if_pos (hw c)]
  unfold Oper.wp
  rw [hrun c w]
  refine hK w.heap.size (w.alloc z) ?_
  have hu : flags l i = false := by
    have := hc.un
    unfold flags
    rcases Nat.lt_or_ge i l.size with h' | h'
    · simp [h'] at this ⊢; exact this
    · simp [Array.getElem?_eq_none h'] at this
  have hz : flags l s = false := hc.later s hwait
  have hz' : upd (flags l) i true s = false := by unfold upd; rw [if_neg hs]; exact hz
  subst hes
  unfold Blks at hi ⊢
  have e1 : now (Ent.var i s z o' :: post) (flags l) c = now post (flags l) c := by simp [now, Ent.on, hu]
  have e2 : now (Ent.var i s z o' :: post) (upd (flags l) i true) (upd c i w.heap.size) = (w.heap.size, z) :: now post (flags l) c := by
    rw [now_cons_on (show Ent.on _ (Ent.var i s z o') = true by simp [Ent.on, upd]), now_upd post hpost]
    simp only [Ent.key, Ent.obj, hz', Bool.false_eq_true, if_false]
    simp [upd]
  rw [now_append, e1] at hi
  rw [now_append, e2, now_upd pre hpre]
  have hA := hi.alloc z
  refine ⟨hA.below, ?_, fun p hp => hA.holds p ?_⟩
  · have := hA.apart
    rw [List.pairwise_cons] at this
    rw [List.pairwise_append] at this ⊢
    refine ⟨this.2.1, List.pairwise_cons.2 ⟨fun q hq => this.1 q (List.mem_append_right _ hq), this.2.2.1⟩, fun p hp q hq => ?_⟩
    rcases List.mem_cons.1 hq with rfl | hq
    · exact fun e => this.1 p (List.mem_append_left _ hp) e.symm
    · exact this.2.2.2 p hp q hq
  · rcases List.mem_append.1 hp with hp | hp
    · exact List.mem_cons_of_mem _ (List.mem_append_left _ hp)
    · rcases List.mem_cons.1 hp with rfl | hp
      · exact List.mem_cons_self
      · exact List.mem_cons_of_mem _ (List.mem_append_right _ hp)
/-- A variable is made with what it holds. -/
theorem s_box {i : Nat} {o : Oper} {rest : List Oper} {a a' : (Nat → Nat) → Act} {z : Obj} (pre post : List Ent) (hes : es = pre ++ .mk i z :: post) (hpre : pre.all (Ent.free i) = true) (hpost : post.all (Ent.free i) = true)
    {N : Option Tmp} (hN : o.dst = N) (hw : ∀ c, Region.wanted o (yielded ops (a c).tmps) = true)
    (hrun : ∀ c w, (execOp (a c).eval o).run P w = .ok (.value (.pointer (some ⟨w.heap.size, 0, none⟩))) (w.alloc z)) (ha : ∀ c, (a c).put N (.pointer (some ⟨c i, 0, none⟩)) = a' c)
    (h : Seq P T ops (Blks w0 es) R (i + 1) rest a') : Seq P T ops (Blks w0 es) R i (o :: rest) a := by
  subst hN
  have e : (fun c => (a c).put o.dst (.pointer (some ⟨c i, 0, none⟩))) = a' := funext ha
  subst e
  refine ⟨fun n => .pointer (some ⟨n, 0, none⟩), fun l c w hc hi Q K hK => ?_, h⟩
  rw [if_pos (hw c)]
  unfold Oper.wp
  rw [hrun c w]
  refine hK w.heap.size (w.alloc z) ?_
  have hu : flags l i = false := by
    have := hc.un
    unfold flags
    rcases Nat.lt_or_ge i l.size with h' | h'
    · simp [h'] at this ⊢; exact this
    · simp [Array.getElem?_eq_none h'] at this
  subst hes
  unfold Blks at hi ⊢
  have e1 : now (Ent.mk i z :: post) (flags l) c = now post (flags l) c := now_cons_off hu
  have e2 : now (Ent.mk i z :: post) (upd (flags l) i true) (upd c i w.heap.size) = (w.heap.size, z) :: now post (flags l) c := by
    rw [now_cons_on (show Ent.on _ (Ent.mk i z) = true by simp [Ent.on, upd]), now_upd post hpost]
    simp [Ent.key, Ent.obj, upd]
  rw [now_append, e1] at hi
  rw [now_append, e2, now_upd pre hpre]
  have hA := hi.alloc z
  refine ⟨hA.below, ?_, fun p hp => hA.holds p ?_⟩
  · have := hA.apart
    rw [List.pairwise_cons] at this
    rw [List.pairwise_append] at this ⊢
    refine ⟨this.2.1, List.pairwise_cons.2 ⟨fun q hq => this.1 q (List.mem_append_right _ hq), this.2.2.1⟩, fun p hp q hq => ?_⟩
    rcases List.mem_cons.1 hq with rfl | hq
    · exact fun e => this.1 p (List.mem_append_left _ hp) e.symm
    · exact this.2.2.2 p hp q hq
  · rcases List.mem_append.1 hp with hp | hp
    · exact List.mem_cons_of_mem _ (List.mem_append_left _ hp)
    · rcases List.mem_cons.1 hp with rfl | hp
      · exact List.mem_cons_self
      · exact List.mem_cons_of_mem _ (List.mem_append_right _ hp)
/-- A store into a variable that the region makes: o' is what it holds then. -/
theorem s_init {i : Nat} {o : Oper} {rest : List Oper} {a : (Nat → Nat) → Act} (m : Nat) (z o' : Obj) (pre post : List Ent) (hes : es = pre ++ .var m i z o' :: post) (hpre : pre.all (Ent.free i) = true) (hpost : post.all (Ent.free i) = true)
    (hm : m ≠ i) (hwait : reachB ops m ops.size i = true) (hN : o.dst = none) (hw : ∀ c, Region.wanted o (yielded ops (a c).tmps) = true) (g : (Nat → Nat) → World → World)
    (hrun : ∀ c w, w.heap[c m]? = some z → (execOp (a c).eval o).run P w = .ok .skip (g c w)) (hturn : ∀ c w, w.heap[c m]? = some z → Turn (c m) o' w (g c w))
    (h : Seq P T ops (Blks w0 es) R (i + 1) rest a) : Seq P T ops (Blks w0 es) R i (o :: rest) a := by
  have e : (fun c => (a c).put o.dst undef) = a := funext fun c => by rw [hN]; rfl
  refine ⟨fun _ => undef, fun l c w hc hi Q K hK => ?_, by rw [e]; exact h⟩
  have hu : flags l i = false := by
    have := hc.un
    unfold flags
    rcases Nat.lt_or_ge i l.size with h' | h'
    · simp [h'] at this ⊢; exact this
    · simp [Array.getElem?_eq_none h'] at this
  have hz : flags l m = true := hc.before m hwait
  have hz' : upd (flags l) i true m = true := by unfold upd; rw [if_neg hm]; exact hz
  subst hes
  unfold Blks at hi
  have e1 : now (Ent.var m i z o' :: post) (flags l) c = (c m, z) :: now post (flags l) c := by
    rw [now_cons_on (show Ent.on (flags l) (Ent.var m i z o') = true from hz)]; simp [Ent.key, Ent.obj, hu]
  have e2 : now (Ent.var m i z o' :: post) (upd (flags l) i true) (upd c i 0) = (c m, o') :: now post (flags l) c := by
    rw [now_cons_on (show Ent.on (upd (flags l) i true) (Ent.var m i z o') = true from hz'), now_upd post hpost]
    simp [Ent.key, Ent.obj, upd, hm]
  rw [now_append, e1] at hi
  have hold := (hi.holds (c m, z) (by simp)).2
  rw [hN]
  refine Go.Proofs.YtkagmelijdfdiaaW.PrintLast.skip_ (hw c) hN (hrun c w hold) ?_
  have := hK 0 (g c w) (by unfold Blks; rw [now_append, e2, now_upd pre hpre]; exact hi.turn (hturn c w hold))
  rwa [hN] at this
/-- A store into a block that was there. -/
theorem s_put {i : Nat} {o : Oper} {rest : List Oper} {a : (Nat → Nat) → Act} (k : Nat) (z o' : Obj) (pre post : List Ent) (hes : es = pre ++ .put k i z o' :: post) (hpre : pre.all (Ent.free i) = true) (hpost : post.all (Ent.free i) = true)
    (hN : o.dst = none) (hw : ∀ c, Region.wanted o (yielded ops (a c).tmps) = true) (g : (Nat → Nat) → World → World)
    (hrun : ∀ c w, w.heap[k]? = some z → (execOp (a c).eval o).run P w = .ok .skip (g c w)) (hturn : ∀ c w, w.heap[k]? = some z → Turn k o' w (g c w))
    (h : Seq P T ops (Blks w0 es) R (i + 1) rest a) : Seq P T ops (Blks w0 es) R i (o :: rest) a := by
  have e : (fun c => (a c).put o.dst undef) = a := funext fun c => by rw [hN]; rfl
  refine ⟨fun _ => undef, fun l c w hc hi Q K hK => ?_, by rw [e]; exact h⟩
  have hu : flags l i = false := by
    have := hc.un
    unfold flags
    rcases Nat.lt_or_ge i l.size with h' | h'
    · simp [h'] at this ⊢; exact this
    · simp [Array.getElem?_eq_none h'] at this
  subst hes
  unfold Blks at hi
  have e1 : now (Ent.put k i z o' :: post) (flags l) c = (k, z) :: now post (flags l) c := by
    rw [now_cons_on rfl]; simp [Ent.key, Ent.obj, hu]
  have e2 : now (Ent.put k i z o' :: post) (upd (flags l) i true) (upd c i 0) = (k, o') :: now post (flags l) c := by
    rw [now_cons_on rfl, now_upd post hpost]
    simp [Ent.key, Ent.obj, upd]
  rw [now_append, e1] at hi
  have hold := (hi.holds (k, z) (by simp)).2
  rw [hN]
  refine Go.Proofs.YtkagmelijdfdiaaW.PrintLast.skip_ (hw c) hN (hrun c w hold) ?_
  have := hK 0 (g c w) (by unfold Blks; rw [now_append, e2, now_upd pre hpre]; exact hi.turn (hturn c w hold))
  rwa [hN] at this
/-- The three stores of put3. -/
theorem s_put3 {i : Nat} {o : Oper} {rest : List Oper} {a : (Nat → Nat) → Act} (k s1 s2 s3 : Nat) (z1 z2 z3 z4 zo zn : Obj) (pre post : List Ent) (hes : es = pre ++ .put3 k s1 s2 s3 z1 z2 z3 z4 :: post) (hpre : pre.all (Ent.free i) = true) (hpost : post.all (Ent.free i) = true)
    (hobj : ∀ l, Ctx T ops i l → (Ent.put3 k s1 s2 s3 z1 z2 z3 z4).obj (flags l) = zo ∧ (Ent.put3 k s1 s2 s3 z1 z2 z3 z4).obj (upd (flags l) i true) = zn)
    (hN : o.dst = none) (hw : ∀ c, Region.wanted o (yielded ops (a c).tmps) = true) (g : (Nat → Nat) → World → World)
    (hrun : ∀ c w, w.heap[k]? = some zo → (execOp (a c).eval o).run P w = .ok .skip (g c w)) (hturn : ∀ c w, w.heap[k]? = some zo → Turn k zn w (g c w))
    (h : Seq P T ops (Blks w0 es) R (i + 1) rest a) : Seq P T ops (Blks w0 es) R i (o :: rest) a := by
  have e : (fun c => (a c).put o.dst undef) = a := funext fun c => by rw [hN]; rfl
  refine ⟨fun _ => undef, fun l c w hc hi Q K hK => ?_, by rw [e]; exact h⟩
  obtain ⟨h1, h2⟩ := hobj l hc
  subst hes
  unfold Blks at hi
  have e1 : now (Ent.put3 k s1 s2 s3 z1 z2 z3 z4 :: post) (flags l) c = (k, zo) :: now post (flags l) c := by
    rw [now_cons_on rfl, h1]
    rfl
  have e2 : now (Ent.put3 k s1 s2 s3 z1 z2 z3 z4 :: post) (upd (flags l) i true) (upd c i 0) = (k, zn) :: now post (flags l) c := by
    rw [now_cons_on rfl, now_upd post hpost, h2]
    rfl
  rw [now_append, e1] at hi
  have hold := (hi.holds (k, zo) (by simp)).2
  rw [hN]
  refine Go.Proofs.YtkagmelijdfdiaaW.PrintLast.skip_ (hw c) hN (hrun c w hold) ?_
  have := hK 0 (g c w) (by unfold Blks; rw [now_append, e2, now_upd pre hpre]; exact hi.turn (hturn c w hold))
  rwa [hN] at this
theorem Blks.old {f : Nat → Bool} {c : Nat → Nat} {w : World} (h : Blks w0 es f c w) {a : Addr} {v : Value} (hc : w0.cell? a = some v) : w.cell? a = some v := by
  have := h.below.block a.block (World.block_lt_of_cell? w0 a hc)
  simpa [World.cell?, this] using hc
theorem unlisted {i : Nat} {l : Array Bool} (hc : Ctx T ops i l) : flags l i = false := by
  have := hc.un
  unfold flags
  rcases Nat.lt_or_ge i l.size with h' | h'
  · simp [h'] at this ⊢; exact this
  · simp [Array.getElem?_eq_none h'] at this
theorem s_put3a {s1 : Nat} {o : Oper} {rest : List Oper} {a : (Nat → Nat) → Act} (k s2 s3 : Nat) (z1 z2 z3 z4 : Obj) (pre post : List Ent) (hes : es = pre ++ .put3 k s1 s2 s3 z1 z2 z3 z4 :: post) (hpre : pre.all (Ent.free s1) = true) (hpost : post.all (Ent.free s1) = true)
    (hne : (s1 != s2 && s1 != s3 && s2 != s3) = true) (h2 : reachB ops s1 ops.size s2 = true) (h3 : reachB ops s1 ops.size s3 = true)
    (hN : o.dst = none) (hw : ∀ c, Region.wanted o (yielded ops (a c).tmps) = true) (g : (Nat → Nat) → World → World)
    (hrun : ∀ c w, w.heap[k]? = some z1 → (execOp (a c).eval o).run P w = .ok .skip (g c w)) (hturn : ∀ c w, w.heap[k]? = some z1 → Turn k z2 w (g c w))
    (h : Seq P T ops (Blks w0 es) R (s1 + 1) rest a) : Seq P T ops (Blks w0 es) R s1 (o :: rest) a := by
  simp only [Bool.and_eq_true, bne_iff_ne, ne_eq] at hne
  refine s_put3 k s1 s2 s3 z1 z2 z3 z4 z1 z2 pre post hes hpre hpost (fun l hc => ?_) hN hw g hrun hturn h
  have e1 := unlisted hc
  have e2 : flags l s2 = false := hc.later s2 h2
  have e3 : flags l s3 = false := hc.later s3 h3
  have n2 : s2 ≠ s1 := fun e => hne.1.1 e.symm
  have n3 : s3 ≠ s1 := fun e => hne.1.2 e.symm
  simp [Ent.obj, upd, e1, e2, e3, n2, n3]
theorem s_put3b {s2 : Nat} {o : Oper} {rest : List Oper} {a : (Nat → Nat) → Act} (k s1 s3 : Nat) (z1 z2 z3 z4 : Obj) (pre post : List Ent) (hes : es = pre ++ .put3 k s1 s2 s3 z1 z2 z3 z4 :: post) (hpre : pre.all (Ent.free s2) = true) (hpost : post.all (Ent.free s2) = true)
    (hne : (s1 != s2 && s1 != s3 && s2 != s3) = true) (h2 : reachB ops s1 ops.size s2 = true) (h3 : reachB ops s2 ops.size s3 = true)
    (hN : o.dst = none) (hw : ∀ c, Region.wanted o (yielded ops (a c).tmps) = true) (g : (Nat → Nat) → World → World)
    (hrun : ∀ c w, w.heap[k]? = some z2 → (execOp (a c).eval o).run P w = .ok .skip (g c w)) (hturn : ∀ c w, w.heap[k]? = some z2 → Turn k z3 w (g c w))
    (h : Seq P T ops (Blks w0 es) R (s2 + 1) rest a) : Seq P T ops (Blks w0 es) R s2 (o :: rest) a := by
  simp only [Bool.and_eq_true, bne_iff_ne, ne_eq] at hne
  refine s_put3 k s1 s2 s3 z1 z2 z3 z4 z2 z3 pre post hes hpre hpost (fun l hc => ?_) hN hw g hrun hturn h
  have e2 := unlisted hc
  have e1 : flags l s1 = true := hc.before s1 h2
  have e3 : flags l s3 = false := hc.later s3 h3
  have n1 : s1 ≠ s2 := hne.1.1
  have n3 : s3 ≠ s2 := fun e => hne.2 e.symm
  simp [Ent.obj, upd, e1, e2, e3, n3]
theorem s_put3c {s3 : Nat} {o : Oper} {rest : List Oper} {a : (Nat → Nat) → Act} (k s1 s2 : Nat) (z1 z2 z3 z4 : Obj) (pre post : List Ent) (hes : es = pre ++ .put3 k s1 s2 s3 z1 z2 z3 z4 :: post) (hpre : pre.all (Ent.free s3) = true) (hpost : post.all (Ent.free s3) = true)
    (h2 : reachB ops s2 ops.size s3 = true)
    (hN : o.dst = none) (hw : ∀ c, Region.wanted o (yielded ops (a c).tmps) = true) (g : (Nat → Nat) → World → World)
    (hrun : ∀ c w, w.heap[k]? = some z3 → (execOp (a c).eval o).run P w = .ok .skip (g c w)) (hturn : ∀ c w, w.heap[k]? = some z3 → Turn k z4 w (g c w))
    (h : Seq P T ops (Blks w0 es) R (s3 + 1) rest a) : Seq P T ops (Blks w0 es) R s3 (o :: rest) a := by
  refine s_put3 k s1 s2 s3 z1 z2 z3 z4 z3 z4 pre post hes hpre hpost (fun l hc => ?_) hN hw g hrun hturn h
  have e3 := unlisted hc
  have e2 : flags l s2 = true := hc.before s2 h2
  simp [Ent.obj, upd, e2, e3]
theorem Blks.fix_cells {f : Nat → Bool} {c : Nat → Nat} {w : World} (h : Blks w0 es f c w) {k : Nat} {cs : Array Value} {t : TypeId} (hm : Ent.fix k (.cells cs t (0, 0)) ∈ es) : (∀ i, w.cell? ⟨k, i, none⟩ = cs[i]?) ∧ (∀ i, w.frozen? ⟨k, i, none⟩ = false) ∧ k < w.heap.size :=
  St.cells h (List.mem_map.2 ⟨_, List.mem_filter.2 ⟨hm, rfl⟩, rfl⟩)
theorem Blks.put_cells {l : Array Bool} {c : Nat → Nat} {w : World} {i : Nat} (h : Blks w0 es (flags l) c w) (hc : Ctx T ops i l) {k s : Nat} {cs : Array Value} {t : TypeId} {o' : Obj} (hm : Ent.put k s (.cells cs t (0, 0)) o' ∈ es) (hr : reachB ops i ops.size s = true) : (∀ i, w.cell? ⟨k, i, none⟩ = cs[i]?) ∧ (∀ i, w.frozen? ⟨k, i, none⟩ = false) ∧ k < w.heap.size := by
  have hs : flags l s = false := hc.later s hr
  refine St.cells h (t := t) (List.mem_map.2 ⟨_, List.mem_filter.2 ⟨hm, rfl⟩, ?_⟩)
  simp [Ent.key, Ent.obj, hs]
theorem Blks.put_ahead {l : Array Bool} {c : Nat → Nat} {w : World} {i : Nat} (h : Blks w0 es (flags l) c w) (hc : Ctx true ops i l) {k s : Nat} {cs : Array Value} {t : TypeId} {o' : Obj} (hm : Ent.put k s (.cells cs t (0, 0)) o' ∈ es) (hr : decide (s < ops.size) = true) (hi : i ≤ s) : (∀ i, w.cell? ⟨k, i, none⟩ = cs[i]?) ∧ (∀ i, w.frozen? ⟨k, i, none⟩ = false) ∧ k < w.heap.size := by
  have hs : flags l s = false := by have := hc.text rfl s (of_decide_eq_true hr); unfold flags; rw [this]; simp; omega
  refine St.cells h (t := t) (List.mem_map.2 ⟨_, List.mem_filter.2 ⟨hm, rfl⟩, ?_⟩)
  simp [Ent.key, Ent.obj, hs]
theorem Blks.put_behind {l : Array Bool} {c : Nat → Nat} {w : World} {i : Nat} (h : Blks w0 es (flags l) c w) (hc : Ctx true ops i l) {k s : Nat} {cs : Array Value} {t : TypeId} {o : Obj} (hm : Ent.put k s o (.cells cs t (0, 0)) ∈ es) (hr : decide (s < ops.size) = true) (hi : s < i) : (∀ i, w.cell? ⟨k, i, none⟩ = cs[i]?) ∧ (∀ i, w.frozen? ⟨k, i, none⟩ = false) ∧ k < w.heap.size := by
  have hs : flags l s = true := by have := hc.text rfl s (of_decide_eq_true hr); unfold flags; rw [this]; simp; omega
  refine St.cells h (t := t) (List.mem_map.2 ⟨_, List.mem_filter.2 ⟨hm, rfl⟩, ?_⟩)
  simp [Ent.key, Ent.obj, hs]
theorem gate_region {Q : Exit → Act → World → Prop} {a : Act} {w : World} (id : Nat) (d : Bool) (h : (Code.region id ops d).wp P Q a w) : (Code.region id ops d).wp P Q a w := h
theorem rounds_next {Q : Exit → Act → World → Prop} {c : Code} {n : Nat} {a : Act} {w : World} (h : c.wp P (Exit.then (Code.rounds P c Q n) Q) a w) : Code.rounds P c Q (n + 1) a w := h
structure Hold (p : Prop) : Prop where
  out : p
theorem hold_region {Q : Exit → Act → World → Prop} {a : Act} {w : World} (id : Nat) (d : Bool) (h : Hold ((Code.region id ops d).wp P Q a w)) : (Code.region id ops d).wp P Q a w := h.out
theorem hold_any {Q : Exit → Act → World → Prop} {a : Act} {w : World} {id : Nat} {d : Bool} (h : Hold ((Code.region id ops d).wp P Q a w)) : (Code.region id ops d).wp P Q a w := h.out
theorem s_nil {i : Nat} {a : (Nat → Nat) → Act} (h : R a) : Seq P T ops (Blks w0 es) R i [] a := h
end
end Go.Proofs.Ytkagmelijdfdiaa.Reg
