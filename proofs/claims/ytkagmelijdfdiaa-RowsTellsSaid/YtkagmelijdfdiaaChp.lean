/- Regions one of whose operations may panic; memory in phases (ahead of a call, behind it, behind a store); memory that is as it was but for named blocks. No conditions of ours. -/
import Derived.Test.YtkagmelijdfdiaaRwd
namespace Go.Proofs.Ytkagmelijdfdiaa.Chp
open Go Go.RowKit Go.Proofs.Ytkagmelijdfdiaa.Reg
set_option linter.unusedVariables false

section
variable {P : Program}
/-- Operation o, number i, comes in state a to value v, whenever it comes up. f: what has come up; c: numbers that the order leaves open, one an operation. -/
def Step (P : Program) (D : List Deferred) (X : List PanicEntry → World → Prop) (T : Bool) (ops : Array Oper) (I : (Nat → Bool) → (Nat → Value) → World → Prop) (i : Nat) (o : Oper) (a : (Nat → Value) → Act) (v : Value → Value) : Prop :=
  ∀ l c w, Ctx T ops i l → I (flags l) c w → ∀ (Q : Exit → Act → World → Prop) (K : Act → World → Prop), (∀ n w', I (upd (flags l) i true) (upd c i n) w' → K ((a c).put o.dst (v n)) w') → (a c).defers = D → (∀ ch a' w', X ch w' → a'.defers = D → Q (.panic ch) a' w') →
    if Region.wanted o (yielded ops (a c).tmps) = true then Oper.wp P o (a c) w K Q else K ((a c).put o.dst undef) w

/-- The operations in the text's order. -/
def Seq (P : Program) (D : List Deferred) (X : List PanicEntry → World → Prop) (T : Bool) (ops : Array Oper) (I : (Nat → Bool) → (Nat → Value) → World → Prop) (R : ((Nat → Value) → Act) → Prop) : Nat → List Oper → ((Nat → Value) → Act) → Prop
  | _, [], a => R a
  | i, o :: rest, a => ∃ v, Step P D X T ops I i o a v ∧ Seq P D X T ops I R (i + 1) rest (fun c => (a c).put o.dst (v (c i)))

/-- A step shown in one state serves in another one that agrees with it. -/
theorem Step.at {D : List Deferred} {X : List PanicEntry → World → Prop} {T : Bool} {ops : Array Oper} {I : (Nat → Bool) → (Nat → Value) → World → Prop} {i : Nat} {o : Oper} {a : (Nat → Value) → Act} {b : Act} {v : Value → Value} (h : Step P D X T ops I i o a v) (hs : ∀ cs b, o.op ≠ .select cs b)
    {l : Array Bool} {c : Nat → Value} {w : World} (hag : Agree (o.looksAt ops) (a c) b) (hl : Ctx T ops i l) (hI : I (flags l) c w) {Q : Exit → Act → World → Prop} {K : Act → World → Prop}
    (hK : ∀ n w', I (upd (flags l) i true) (upd c i n) w' → K (b.put o.dst (v n)) w') (had : (a c).defers = D) (hbd : b.defers = D) (hX : ∀ ch a' w', X ch w' → a'.defers = D → Q (.panic ch) a' w') : if Region.wanted o (yielded ops b.tmps) = true then Oper.wp P o b w K Q else K (b.put o.dst undef) w := by
  have H := h l c w hl hI (fun e _ w' => ∃ ch, e = .panic ch ∧ X ch w') (fun a' w' => ∃ n, a' = (a c).put o.dst (v n) ∧ I (upd (flags l) i true) (upd c i n) w') (fun n w' hw' => ⟨n, rfl, hw'⟩) had (fun ch _ w' hx _ => ⟨ch, rfl, hx⟩)
  rw [← agree_wanted hag]
  have key : ∀ u w', (∃ n, (a c).put o.dst u = (a c).put o.dst (v n) ∧ I (upd (flags l) i true) (upd c i n) w') → K (b.put o.dst u) w' := fun u w' ⟨n, h1, h2⟩ => by
    rw [put_same hag.2 h1]; exact hK n w' h2
  have dfr : ∀ d u w', ¬ (∃ n, ({ a c with defers := d :: (a c).defers } : Act).put o.dst u = (a c).put o.dst (v n) ∧ I (upd (flags l) i true) (upd c i n) w') := fun d u w' ⟨n, h1, _⟩ => by
    have h2 := congrArg Act.defers h1
    cases hd : o.dst with
    | none => rw [hd] at h2; simp [Act.put] at h2
    | some t => rw [hd] at h2; simp [Act.put] at h2
  split
  · rename_i hw
    rw [if_pos hw] at H
    unfold Oper.wp at *
    rw [← agree_exec hs hag]
    generalize (execOp (a c).eval o).run P w = r at *
    cases r with
    | ok n w' =>
      cases n <;> simp only [Oper.upon] at H ⊢
      case value u => exact key _ _ H
      case skip => exact key _ _ H
      case defer d => exact absurd H (dfr _ _ _)
      case enter f args =>
        refine Calls.mono H fun e w'' he => ?_
        cases e with
        | returned u => exact key _ _ he
        | panicked c => obtain ⟨ch, e, hx⟩ := he; cases e; exact hX _ _ _ hx hbd
        | outgrown => obtain ⟨_, _, _, h, _⟩ := he; cases h
      case row row args => exact Rows.mono H fun u w'' he => key _ _ he
    | halt x w' =>
      cases x <;> simp only [Oper.upon] at H ⊢
      obtain ⟨ch, e, hx⟩ := H; cases e; exact hX _ _ _ hx hbd
  · rename_i hw
    rw [if_neg hw] at H
    exact key _ _ H

/-- The values at some choice. -/
def at_ (c : Nat → Value) : Nat → List (Value → Value) → List Value
  | _, [] => []
  | k, v :: vs => v (c k) :: at_ c (k + 1) vs
theorem at_len (c : Nat → Value) : ∀ (vs : List (Value → Value)) (k : Nat), (at_ c k vs).length = vs.length
  | [], _ => rfl
  | _ :: vs, k => by simp [at_, at_len c vs (k + 1)]
theorem at_get (c : Nat → Value) : ∀ (vs : List (Value → Value)) (k j : Nat) v, vs[j]? = some v → (at_ c k vs)[j]? = some (v (c (k + j)))
  | [], _, _, _, h => by simp at h
  | u :: vs, k, 0, v, h => by simp at h; subst h; simp [at_]
  | u :: vs, k, j + 1, v, h => by simp at h; simp only [at_, List.getElem?_cons_succ]; rw [at_get c vs (k + 1) j v h, show k + 1 + j = k + (j + 1) by omega]
theorem Seq.vals {D : List Deferred} {X : List PanicEntry → World → Prop} {T : Bool} {ops : Array Oper} {I : (Nat → Bool) → (Nat → Value) → World → Prop} {R : ((Nat → Value) → Act) → Prop} : ∀ (os : List Oper) (i : Nat) (a : (Nat → Value) → Act), Seq P D X T ops I R i os a →
    ∃ vs : List (Value → Value), vs.length = os.length ∧ (∀ j o, os[j]? = some o → ∃ v, vs[j]? = some v ∧ Step P D X T ops I (i + j) o (fun c => ((os.zip (at_ c i vs)).take j).foldl (fun a x => a.put x.1.dst x.2) (a c)) v) ∧
      R (fun c => (os.zip (at_ c i vs)).foldl (fun a x => a.put x.1.dst x.2) (a c))
  | [], _, _, h => ⟨[], rfl, fun j o hj => by simp at hj, h⟩
  | o :: os, i, a, ⟨v, hv, hr⟩ => by
    obtain ⟨vs, h1, h2, h3⟩ := Seq.vals os (i + 1) _ hr
    refine ⟨v :: vs, by simp [h1], fun j o' hj => ?_, by simpa [at_] using h3⟩
    cases j with
    | zero =>
      simp at hj; subst hj
      exact ⟨v, rfl, by simpa using hv⟩
    | succ j =>
      obtain ⟨v', hv', hs⟩ := h2 j o' (by simpa using hj)
      exact ⟨v', by simpa using hv', by simpa [at_, show i + (j + 1) = i + 1 + j by omega] using hs⟩

theorem put_defers (a : Act) (d : Option Tmp) (v : Value) : (a.put d v).defers = a.defers := by cases d <;> rfl
theorem foldl_defers (l : List (Oper × Value)) : ∀ a : Act, (l.foldl (fun a x => a.put x.1.dst x.2) a).defers = a.defers := by
  induction l with
  | nil => intro a; rfl
  | cons x l ih => intro a; rw [List.foldl_cons, ih, put_defers]
theorem fill_defers (l : Array Bool) : ∀ (os : List Oper) (vs : List Value) (k : Nat) (a : Act), (fill l k os vs a).defers = a.defers
  | [], vs, k, a => by cases vs <;> rfl
  | _ :: _, [], _, _ => rfl
  | o :: os, v :: vs, k, a => by
    simp only [fill]
    rw [fill_defers l os vs]
    split
    · exact put_defers _ _ _
    · rfl
theorem fill_upd {l : Array Bool} {i : Nat} {n : Value} {c : Nat → Value} (hu : l.getD i false = false) : ∀ (os : List Oper) (vs : List (Value → Value)) (k : Nat) (a : Act), fill l k os (at_ (upd c i n) k vs) a = fill l k os (at_ c k vs) a
  | [], vs, k, a => by cases vs <;> simp [fill]
  | _ :: _, [], k, a => by simp [fill, at_]
  | o :: os, v :: vs, k, a => by
    simp only [at_, fill]
    by_cases e : k = i
    · subst e
      rw [hu]
      simp only [Bool.false_eq_true, if_false]
      exact fill_upd hu os vs (k + 1) a
    · have : upd c i n k = c k := by unfold upd; rw [if_neg e]
      rw [this]
      exact fill_upd hu os vs (k + 1) _
/-- **A region that draws its order**: each operation shown once, in the text's order, against what stands whenever it comes up. -/
theorem region {D : List Deferred} {X : List PanicEntry → World → Prop} {ops : Array Oper} {I : (Nat → Bool) → (Nat → Value) → World → Prop} {Q : Exit → Act → World → Prop} {id : Nat} {a : Act} {w : World} (hm : P.follows .mixedOrders = true) (hc : okB ops = true) (hD : a.defers = D) (hX : ∀ ch a' w', X ch w' → a'.defers = D → Q (.panic ch) a' w')
    (h0 : I (fun _ => false) (fun _ => undef) w.drew) (h : Seq P D X false ops I (fun a' => ∀ f c w', (∀ j, j < ops.size → f j = true) → I f c w' → Q .normal (a' c) w') 0 ops.toList (fun _ => a)) : (Code.region id ops true).wp P Q a w := by
  obtain ⟨vs, hlen, hst, hR⟩ := Seq.vals _ _ _ h
  refine wp_region_any hm ?_
  have hlen' : vs.length = ops.size := by simpa using hlen
  have hal : ∀ c, (at_ c 0 vs).length = ops.toList.length := fun c => by rw [at_len]; simpa using hlen'
  have main : ∀ (fuel : Nat) (l : Array Bool) (c : Nat → Value) (w : World), l.size = ops.size → l.toList.count false ≤ fuel → Closed ops l → I (flags l) c w → wpAny P .any ops Q fuel l (fill l 0 ops.toList (at_ c 0 vs) a) w := by
    -- all have come up
    have fin : ∀ (l : Array Bool) (c : Nat → Value) (w : World), l.size = ops.size → (∀ i, i < ops.size → l.getD i false = true) → I (flags l) c w → Q .normal (fill l 0 ops.toList (at_ c 0 vs) a) w := by
      intro l c w hsz hall hI
      rw [fill_prefix ops.size ops.toList (at_ c 0 vs) 0 a l (fun j hj => by rw [Nat.zero_add, hall j (by simpa using hj)]; simp at hj; simp [hj]) (hal c)]
      rw [List.take_of_length_le (by simp; omega)]
      exact hR (flags l) c w hall hI
    have noReady : ∀ (l : Array Bool), l.size = ops.size → Region.ready .any ops l = [] → ∀ i, i < ops.size → l.getD i false = true := by
      intro l hsz hr i
      induction i using Nat.strongRecOn with
      | ind i ih =>
        intro hi
        cases hv : l.getD i false with
        | true => rfl
        | false =>
          exfalso
          have : i ∈ Region.ready .any ops l := by
            refine mem_ready.2 ⟨?_, ops[i], by simp [hi], fun e he hb => ?_⟩
            · have : i < l.size := by omega
              simp [this] at hv ⊢; exact hv
            · have := (okB_spec hc (i := i) (o := ops[i]) (by simp [hi])).2.1 e he hb
              exact ih e.on this (by omega)
          rw [hr] at this; cases this
    intro fuel
    induction fuel with
    | zero =>
      intro l c w hsz hcnt hcl hI
      have hall : ∀ i, i < ops.size → l.getD i false = true := by
        intro i hi
        have h1 : i < l.size := by omega
        have h2 : l.toList.count false = 0 := by omega
        rw [List.count_eq_zero] at h2
        have h3 : l[i] ∈ l.toList := by simp
        cases hb : l[i] with
        | true => simp [h1, hb]
        | false => rw [hb] at h3; exact absurd h3 h2
      refine ⟨?_, fin l c w hsz hall hI⟩
      cases hr : Region.ready .any ops l with
      | nil => rfl
      | cons x xs =>
        have hx : x ∈ Region.ready .any ops l := by rw [hr]; simp
        obtain ⟨hun, o, ho, _⟩ := mem_ready.1 hx
        have hlt : x < ops.size := (Array.getElem?_eq_some_iff.1 ho).1
        have := hall x hlt
        have h1 : x < l.size := by omega
        simp [h1] at hun this
        rw [hun] at this; cases this
    | succ fuel ih =>
      intro l c w hsz hcnt hcl hI
      refine ⟨fun hr => fin l c w hsz (noReady l hsz hr) hI, fun i hi => ?_⟩
      obtain ⟨hun, o, ho, hrd⟩ := mem_ready.1 hi
      have hlt : i < ops.size := (Array.getElem?_eq_some_iff.1 ho).1
      have hll : i < l.size := by omega
      have hu0 : l.getD i false = false := by simp [hll] at hun ⊢; exact hun
      obtain ⟨hsel, hdown, hlook⟩ := okB_spec hc ho
      have hol : ops.toList[i]? = some o := by simpa using ho
      obtain ⟨v, hv, hs⟩ := hst i o hol
      rw [Nat.zero_add] at hs
      have hctx : Ctx false ops i l := ⟨(fun h => by cases h), hun, fun o' ho' => by rw [ho] at ho'; cases ho'; exact hrd, hcl, hsz⟩
      have hag : Agree (o.looksAt ops) (((ops.toList.zip (at_ c 0 vs)).take i).foldl (fun a x => a.put x.1.dst x.2) a) (fill l 0 ops.toList (at_ c 0 vs) a) := by
        rw [← fill_prefix i ops.toList (at_ c 0 vs) 0 a ((List.range ops.size).map (fun j => decide (j < i))).toArray (fun j hj => by simp at hj; simp [hj]) (hal c)]
        refine Agree.fills _ _ _ ⟨fun _ _ => rfl, rfl⟩ (fun j oj hj d hd hS => ?_)
        have hj' : ops[j]? = some oj := by simpa using hj
        have hjl : j < ops.size := (Array.getElem?_eq_some_iff.1 hj').1
        rw [Nat.zero_add]
        rcases (hlook j oj d hj' hd).2 hS with ⟨h1, h2⟩ | h1 | ⟨h1, h2⟩
        · rw [hctx.before j h2]
          simp [hjl, h1]
        · subst h1
          rw [hu0]
          simp [hjl]
        · rw [hctx.later j h2]
          simp [hjl]
          omega
      have hset : ∀ n, fill (l.setIfInBounds i true) 0 ops.toList (at_ (upd c i n) 0 vs) a = (fill l 0 ops.toList (at_ c 0 vs) a).put o.dst (v n) := fun n => by
        rw [← fill_upd (n := n) hu0 ops.toList vs 0 a]
        refine fill_set hll hu0 ops.toList _ 0 a o (v n) (Nat.zero_le _) (by simpa using hol) ?_ (fun j j' oj oj' hj hj' hne t ht => by
          have := ((okB_spec hc (i := j') (o := oj') (by simpa using hj')).2.2 j oj t (by simpa using hj) ht).1
          exact this (fun e => hne e.symm))
        have := at_get (upd c i n) vs 0 i v hv
        simpa [upd] using this
      have hcl' : Closed ops (l.setIfInBounds i true) := by
        intro j oj hj hl e he hb
        have up : l.getD e.on false = true → (l.setIfInBounds i true).getD e.on false = true := fun hx => by
          by_cases hie : i = e.on
          · rw [← hie]; simp [hll]
          · simp [Array.getElem?_setIfInBounds_ne hie]; simpa using hx
        by_cases hij : i = j
        · subst hij
          rw [ho] at hj; cases hj
          exact up (hrd e he hb)
        · refine up (hcl j oj hj ?_ e he hb)
          simpa [Array.getElem?_setIfInBounds_ne hij] using hl
      have hcnt' : (l.setIfInBounds i true).toList.count false ≤ fuel := by
        have : (l.setIfInBounds i true).toList = l.toList.set i true := by simp
        rw [this, List.count_set (by simpa using hll)]
        have h3 : l.toList[i] = false := by simp [hll] at hu0; simpa using hu0
        rw [h3]
        simp only [beq_self_eq_true, if_true]
        simp at hcnt ⊢
        omega
      have fin' := hs.at (Q := Q) (c := c) hsel hag hctx hI (K := fun a' w' => wpAny P .any ops Q fuel (l.setIfInBounds i true) a' w') (fun n w' hI' => by
        rw [← hset n]
        exact ih _ _ w' (by simp [hsz]) hcnt' hcl' (by rw [flags_set hll]; exact hI')) (by rw [foldl_defers]; exact hD) (by rw [fill_defers]; exact hD) hX
      unfold wpOp
      rw [ho]
      simp only []
      split
      · rename_i hw
        rw [if_pos hw] at fin'
        exact .inl fin'
      · rename_i hw
        rw [if_neg hw] at fin'
        exact fin'
  have hz : fill (Array.replicate ops.size false) 0 ops.toList (at_ (fun _ => undef) 0 vs) a = a := by
    rw [fill_prefix 0 ops.toList _ 0 a _ (fun j hj => by simp at hj; simp [hj]) (hal _)]
    simp
  have hf0 : flags (Array.replicate ops.size false) = fun _ => false := by
    funext j
    unfold flags
    by_cases hjl : j < ops.size <;> simp [hjl]
  have := main ops.size (Array.replicate ops.size false) (fun _ => undef) w.drew (by simp) (by simp) (fun j oj _ hl => by
    exfalso
    by_cases hjl : j < ops.size <;> simp [hjl] at hl) (by rw [hf0]; exact h0)
  rw [hz] at this
  exact this
/-- A region in the text's order. -/
theorem region_text {D : List Deferred} {ops : Array Oper} {I : (Nat → Bool) → (Nat → Value) → World → Prop} {Q : Exit → Act → World → Prop} {id : Nat} {a : Act} {w : World} (hc : okB ops = true) (hD : a.defers = D)
    (h0 : I (fun _ => false) (fun _ => undef) w) (h : Seq P D (fun _ _ => False) true ops I (fun a' => ∀ f c w', (∀ j, j < ops.size → f j = true) → I f c w' → Q .normal (a' c) w') 0 ops.toList (fun _ => a)) : (Code.region id ops false).wp P Q a w := by
  refine wp_region ?_
  have key : ∀ (os : List Oper) (k : Nat) (l : Array Bool) (c : Nat → Value) (A : (Nat → Value) → Act) (w : World), (∀ j, os[j]? = ops[k + j]?) → k + os.length = ops.size → l.size = ops.size → (∀ j, j < ops.size → l.getD j false = decide (j < k)) → I (flags l) c w →
      (∀ c', (∀ j, j < k → c' j = c j) → A c' = A c) → (∀ c, (A c).defers = D) →
      Seq P D (fun _ _ => False) true ops I (fun a' => ∀ f c w', (∀ j, j < ops.size → f j = true) → I f c w' → Q .normal (a' c) w') k os A → wpOps P ops Q (List.range' k os.length) (A c) w := by
    intro os
    induction os with
    | nil =>
      intro k l c A w _ hk hsz hl hI _ _ h
      exact h (flags l) c w (fun j hj => by unfold flags; rw [hl j hj]; simp at hk; simp; omega) hI
    | cons o os ih =>
      intro k l c A w hos hk hsz hl hI hA hAd ⟨v, hv, h⟩
      have ho : ops[k]? = some o := by have := hos 0; simpa using this.symm
      have hlt : k < ops.size := (Array.getElem?_eq_some_iff.1 ho).1
      have hll : k < l.size := by omega
      obtain ⟨hsel, hdown, _⟩ := okB_spec hc ho
      have hctx : Ctx true ops k l := by
        refine ⟨fun _ => hl, ?_, fun o' ho' e he hb => ?_, fun j oj hj hlj e he hb => ?_, hsz⟩
        · have := hl k hlt
          simp [hll] at this ⊢
          simpa using this
        · rw [ho] at ho'; cases ho'
          have := hdown e he hb
          rw [hl e.on (by omega)]; simp [this]
        · have hjl : j < ops.size := (Array.getElem?_eq_some_iff.1 hj).1
          have := (okB_spec hc hj).2.1 e he hb
          rw [hl j hjl] at hlj
          have hjk : j < k := by simpa using hlj
          rw [hl e.on (by omega)]; simp; omega
      have H := hv l c w hctx hI Q (fun a' w' => wpOps P ops Q (List.range' (k + 1) os.length) a' w') (fun n w' hI' => by
        have hA' : ∀ c', (∀ j, j < k → c' j = c j) → (A c').put o.dst (v (c' k)) = (A c).put o.dst (v (c' k)) := fun c' hc' => by rw [hA c' hc']
        have e1 : (A c).put o.dst (v n) = (fun c => (A c).put o.dst (v (c k))) (upd c k n) := by
          have e2 : upd c k n k = n := by simp [upd]
          show _ = (A (upd c k n)).put o.dst (v (upd c k n k))
          rw [hA (upd c k n) (fun j hj => by unfold upd; rw [if_neg (by omega)]), e2]
        rw [e1]
        refine ih (k + 1) (l.setIfInBounds k true) (upd c k n) _ w' (fun j => ?_) (by simp at hk; omega) (by simp [hsz]) (fun j hj => ?_) (by rw [flags_set hll]; exact hI') (fun c' hc' => ?_) (fun c => by rw [put_defers]; exact hAd c) h
        · have := hos (j + 1)
          rw [show k + 1 + j = k + (j + 1) by omega]
          simpa using this
        · by_cases e : k = j
          · subst e; simp [hll]
          · have := hl j hj
            simp [Array.getElem?_setIfInBounds_ne e]
            simp at this
            rw [this]
            simp; omega
        · have h1 : A c' = A (upd c k n) := by
            rw [hA c' (fun j hj => by rw [hc' j (by omega)]; unfold upd; rw [if_neg (by omega)]), hA (upd c k n) (fun j hj => by unfold upd; rw [if_neg (by omega)])]
          show (A c').put o.dst (v (c' k)) = (A (upd c k n)).put o.dst (v (upd c k n k))
          rw [h1, hc' k (by omega)]) (hAd c) (fun _ _ _ h _ => h.elim)
      rw [List.length_cons, List.range'_succ]
      unfold wpOps
      rw [ho]
      simp only []
      split
      · rename_i hw
        rw [if_pos hw] at H
        exact .inl H
      · rename_i hw
        rw [if_neg hw] at H
        exact H
  have := key ops.toList 0 (Array.replicate ops.size false) (fun _ => undef) (fun _ => a) w (fun j => by simp) (by simp) (by simp) (fun j hj => by simp [hj]) (by
    have hf0 : flags (Array.replicate ops.size false) = fun _ => false := by
      funext j
      unfold flags
      by_cases hjl : j < ops.size <;> simp [hjl]
    rw [hf0]; exact h0) (fun _ _ => rfl) (fun _ => hD) h
  simpa [List.range_eq_range'] using this
end

/-! ### Memory is as it was but for some blocks -/
structure Ch (S : Nat → Prop) (w w' : World) : Prop where
  os : w'.os = w.os
  tape : w'.tape = w.tape
  output : w'.output = w.output
  size : w.heap.size ≤ w'.heap.size
  keep : ∀ k, k < w.heap.size → ¬ S k → w'.heap[k]? = w.heap[k]?
section
variable {S S' : Nat → Prop} {w w1 w2 : World}
theorem Ch.refl (S : Nat → Prop) (w : World) : Ch S w w := ⟨rfl, rfl, rfl, Nat.le_refl _, fun _ _ _ => rfl⟩
theorem Ch.trans (h : Ch S w w1) (k : Ch S w1 w2) : Ch S w w2 := ⟨k.os.trans h.os, k.tape.trans h.tape, k.output.trans h.output, Nat.le_trans h.size k.size, fun i hi hs => (k.keep i (Nat.lt_of_lt_of_le hi h.size) hs).trans (h.keep i hi hs)⟩
theorem Ch.mono (h : Ch S w w1) (hs : ∀ k, k < w.heap.size → S k → S' k) : Ch S' w w1 := ⟨h.os, h.tape, h.output, h.size, fun i hi hn => h.keep i hi (fun hh => hn (hs i hi hh))⟩
theorem Ch.of_below {B : Nat} (h : Below B w w1) (hs : ∀ k, k < w.heap.size → B ≤ k → S k) : Ch S w w1 := ⟨h.os, h.tape, h.output, h.size, fun i hi hn => h.block i (Nat.lt_of_not_le (fun hb => hn (hs i hi hb)))⟩
theorem Ch.below {B : Nat} (h : Ch S w w1) (hB : B ≤ w.heap.size) (hs : ∀ k, k < B → ¬ S k) : Below B w w1 := ⟨h.os, h.tape, h.output, h.size, fun i hi => h.keep i (Nat.lt_of_lt_of_le hi hB) (hs i hi)⟩
theorem Ch.at (h : Ch S w w1) {k : Nat} {o : Obj} (hh : w.heap[k]? = some o) (hn : ¬ S k) : w1.heap[k]? = some o := (h.keep k (Array.getElem?_eq_some_iff.1 hh).1 hn).trans hh
theorem Ch.drew (S : Nat → Prop) (w : World) : Ch S w w.drew := ⟨rfl, rfl, rfl, Nat.le_refl _, fun _ _ _ => rfl⟩
theorem Ch.drewN (S : Nat → Prop) (w : World) (n : Nat) : Ch S w (w.drewN n) := ⟨rfl, rfl, rfl, Nat.le_refl _, fun _ _ _ => rfl⟩
theorem Ch.set (w : World) (a : Addr) (u : Value) (hs : S a.block) : Ch S w (w.setCell a u) := ⟨rfl, rfl, rfl, by simp [World.setCell], fun k _ hn => Below.heap_setCell w a u k (fun e => hn (e ▸ hs))⟩
theorem Ch.alloc (S : Nat → Prop) (w : World) (o : Obj) : Ch S w (w.alloc o) := ⟨rfl, rfl, rfl, by simp, fun k hk _ => Below.heap_alloc w o k hk⟩
theorem Ch.turn {k : Nat} {o : Obj} (h : Turn k o w w1) (hs : S k) : Ch S w w1 := ⟨h.os, h.tape, h.output, Nat.le_of_eq h.size.symm, fun i _ hn => h.other i (fun e => hn (e ▸ hs))⟩
end
theorem at_set {w : World} {k : Nat} {cs : Array Value} {t : TypeId} (h : w.heap[k]? = some (.cells cs t (0, 0))) (i : Nat) (u : Value) : (w.setCell ⟨k, i, none⟩ u).heap[k]? = some (.cells (cs.setIfInBounds i u) t (0, 0)) := (Turn.set h i u).this
theorem at_cell {w : World} {k : Nat} {cs : Array Value} {t : TypeId} (h : w.heap[k]? = some (.cells cs t (0, 0))) (i : Nat) : w.cell? ⟨k, i, none⟩ = cs[i]? := cell_of_row w k i cs t (0, 0) h
theorem at_free {w : World} {k : Nat} {cs : Array Value} {t : TypeId} (h : w.heap[k]? = some (.cells cs t (0, 0))) (i : Nat) : w.frozen? ⟨k, i, none⟩ = false := by simp [World.frozen?, h]
theorem at_lt {w : World} {k : Nat} {o : Obj} (h : w.heap[k]? = some o) : k < w.heap.size := (Array.getElem?_eq_some_iff.1 h).1
theorem at_drew {w : World} {k : Nat} {o : Obj} (h : w.heap[k]? = some o) : w.drew.heap[k]? = some o := h

/-! ### Memory in phases: ahead of operation j, behind it, behind operation k -/
def Ph (j k : Nat) (P0 P1 P2 : World → Prop) (f : Nat → Bool) (_ : Nat → Value) (w : World) : Prop := if f k = true then P2 w else if f j = true then P1 w else P0 w
section
variable {P : Program} {D : List Deferred} {X : List PanicEntry → World → Prop} {T : Bool} {ops : Array Oper} {j k : Nat} {P0 P1 P2 : World → Prop} {R : ((Nat → Value) → Act) → Prop}
theorem Ph.any {f : Nat → Bool} {c : Nat → Value} {w : World} (h : Ph j k P0 P1 P2 f c w) {F : World → Prop} (h0 : P0 w → F w) (h1 : P1 w → F w) (h2 : P2 w → F w) : F w := by
  unfold Ph at h; split at h
  · exact h2 h
  · split at h
    · exact h1 h
    · exact h0 h
/-- behind j, ahead of k -/
theorem Ph.mid {i : Nat} {l : Array Bool} {c : Nat → Value} {w : World} (h : Ph j k P0 P1 P2 (flags l) c w) (hc : Ctx T ops i l) (hj : reachB ops j ops.size i = true) (hk : (i == k || reachB ops i ops.size k) = true) : P1 w := by
  unfold Ph at h
  have e1 : flags l j = true := hc.before j hj
  have e2 : flags l k = false := by
    simp only [Bool.or_eq_true, beq_iff_eq] at hk
    rcases hk with rfl | hk
    · exact unlisted hc
    · exact hc.later k hk
  rw [e1, e2] at h
  simpa using h
/-- ahead of j -/
theorem Ph.pre {i : Nat} {l : Array Bool} {c : Nat → Value} {w : World} (h : Ph j k P0 P1 P2 (flags l) c w) (hc : Ctx T ops i l) (hj : (i == j || reachB ops i ops.size j) = true) (hk : (i == k || reachB ops i ops.size k) = true) : P0 w := by
  unfold Ph at h
  have e1 : flags l j = false := by
    simp only [Bool.or_eq_true, beq_iff_eq] at hj
    rcases hj with rfl | hj
    · exact unlisted hc
    · exact hc.later j hj
  have e2 : flags l k = false := by
    simp only [Bool.or_eq_true, beq_iff_eq] at hk
    rcases hk with rfl | hk
    · exact unlisted hc
    · exact hc.later k hk
  rw [e1, e2] at h
  simpa using h
theorem Ph.end_ {f : Nat → Bool} {c : Nat → Value} {w : World} (h : Ph j k P0 P1 P2 f c w) (hf : f k = true) : P2 w := by unfold Ph at h; rw [if_pos hf] at h; exact h
theorem Ph.upd_ {f : Nat → Bool} {c : Nat → Value} {w : World} {i : Nat} {n : Value} (h : Ph j k P0 P1 P2 f c w) (hf : (i != j && i != k) = true) : Ph j k P0 P1 P2 (upd f i true) (upd c i n) w := by
  simp only [Bool.and_eq_true, bne_iff_ne] at hf
  have e1 : upd f i true k = f k := if_neg (fun e => hf.2 e.symm)
  have e2 : upd f i true j = f j := if_neg (fun e => hf.1 e.symm)
  unfold Ph at *
  rw [e1, e2]
  exact h
/-- An operation that yields a value and leaves the world as it is. -/
theorem p_val {i : Nat} {o : Oper} {rest : List Oper} {a a' : (Nat → Value) → Act} {v : Value} {N : Option Tmp} (hN : o.dst = N) (hw : ∀ c, Region.wanted o (yielded ops (a c).tmps) = true) (hf : (i != j && i != k) = true)
    (hrun : ∀ l c w, Ctx T ops i l → Ph j k P0 P1 P2 (flags l) c w → (execOp (a c).eval o).run P w = .ok (.value v) w) (ha : ∀ c, (a c).put N v = a' c)
    (h : Seq P D X T ops (Ph j k P0 P1 P2) R (i + 1) rest a') : Seq P D X T ops (Ph j k P0 P1 P2) R i (o :: rest) a := by
  subst hN
  have e : (fun c => (a c).put o.dst v) = a' := funext ha
  subst e
  refine ⟨fun _ => v, fun l c w hc hi Q K hK _ hX => ?_, h⟩
  rw [if_pos (hw c)]
  unfold Oper.wp
  rw [hrun l c w hc hi]
  exact hK undef w (hi.upd_ hf)
/-- One whose guard is off. -/
theorem p_off {i : Nat} {o : Oper} {rest : List Oper} {a a' : (Nat → Value) → Act} {N : Option Tmp} (hN : o.dst = N) (hw : ∀ c, Region.wanted o (yielded ops (a c).tmps) = false) (hf : (i != j && i != k) = true) (ha : ∀ c, (a c).put N undef = a' c)
    (h : Seq P D X T ops (Ph j k P0 P1 P2) R (i + 1) rest a') : Seq P D X T ops (Ph j k P0 P1 P2) R i (o :: rest) a := by
  subst hN
  have e : (fun c => (a c).put o.dst undef) = a' := funext ha
  subst e
  refine ⟨fun _ => undef, fun l c w hc hi Q K hK _ hX => ?_, h⟩
  rw [if_neg (by rw [hw c]; simp)]
  exact hK undef w (hi.upd_ hf)
/-- Operation j: a call that turns memory. -/
theorem p_call {o : Oper} {rest : List Oper} {a a' : (Nat → Value) → Act} {v : Value} {N : Option Tmp} (hN : o.dst = N) (hw : ∀ c, Region.wanted o (yielded ops (a c).tmps) = true) (hjk : (j != k) = true) (f : FuncId) (args : Array Value)
    (hrun : ∀ l c w, Ctx T ops j l → P0 w → (execOp (a c).eval o).run P w = .ok (.enter f args) w) (hk : ∀ l, Ctx T ops j l → (j == k || reachB ops j ops.size k) = true)
    (hcall : ∀ w, P0 w → Calls P f args w fun e w' => (e = .returned v ∧ P1 w') ∨ ∃ ch, e = .panicked ch ∧ X ch w') (ha : ∀ c, (a c).put N v = a' c)
    (h : Seq P D X T ops (Ph j k P0 P1 P2) R (j + 1) rest a') : Seq P D X T ops (Ph j k P0 P1 P2) R j (o :: rest) a := by
  subst hN
  have e : (fun c => (a c).put o.dst v) = a' := funext ha
  subst e
  refine ⟨fun _ => v, fun l c w hc hi Q K hK hd hX => ?_, h⟩
  have h0 : P0 w := hi.pre hc (by simp) (hk l hc)
  rw [if_pos (hw c)]
  unfold Oper.wp
  rw [hrun l c w hc h0]
  refine (hcall w h0).mono fun e w' hh => ?_
  rcases hh with ⟨rfl, h1⟩ | ⟨ch, rfl, hx⟩
  · refine hK undef w' ?_
    have e2 : flags l k = false := by
      have := hk l hc
      simp only [Bool.or_eq_true, beq_iff_eq] at this
      rcases this with rfl | this
      · exact unlisted hc
      · exact hc.later k this
    have hne : k ≠ j := fun e => by simp [e] at hjk
    unfold Ph upd
    rw [if_neg hne, e2]
    simpa using h1
  · exact hX _ _ _ hx hd
/-- Operation k: a store. -/
theorem p_store {o : Oper} {rest : List Oper} {a : (Nat → Value) → Act} (hN : o.dst = none) (hw : ∀ c, Region.wanted o (yielded ops (a c).tmps) = true) (hj : reachB ops j ops.size k = true)
    (hrun : ∀ l c w, Ctx T ops k l → P1 w → ∃ w', (execOp (a c).eval o).run P w = .ok .skip w' ∧ P2 w')
    (h : Seq P D X T ops (Ph j k P0 P1 P2) R (k + 1) rest a) : Seq P D X T ops (Ph j k P0 P1 P2) R k (o :: rest) a := by
  have e : (fun c => (a c).put o.dst undef) = a := funext fun c => by rw [hN]; rfl
  refine ⟨fun _ => undef, fun l c w hc hi Q K hK _ hX => ?_, by rw [e]; exact h⟩
  have h1 : P1 w := hi.mid hc hj (by simp)
  rw [if_pos (hw c)]
  unfold Oper.wp
  obtain ⟨w', hr, h2⟩ := hrun l c w hc h1
  rw [hr]
  refine hK undef w' ?_
  unfold Ph upd
  rw [if_pos rfl]
  exact h2
/-- The one event of its region: a call that turns memory. -/
theorem p_call1 {o : Oper} {rest : List Oper} {a a' : (Nat → Value) → Act} {v : Value} {N : Option Tmp} (hN : o.dst = N) (hw : ∀ c, Region.wanted o (yielded ops (a c).tmps) = true) (f : FuncId) (args : Array Value)
    (hrun : ∀ l c w, Ctx T ops j l → P0 w → (execOp (a c).eval o).run P w = .ok (.enter f args) w)
    (hcall : ∀ w, P0 w → Calls P f args w fun e w' => (e = .returned v ∧ P2 w') ∨ ∃ ch, e = .panicked ch ∧ X ch w') (ha : ∀ c, (a c).put N v = a' c)
    (h : Seq P D X T ops (Ph j j P0 P1 P2) R (j + 1) rest a') : Seq P D X T ops (Ph j j P0 P1 P2) R j (o :: rest) a := by
  subst hN
  have e : (fun c => (a c).put o.dst v) = a' := funext ha
  subst e
  refine ⟨fun _ => v, fun l c w hc hi Q K hK hd hX => ?_, h⟩
  have h0 : P0 w := hi.pre hc (by simp) (by simp)
  rw [if_pos (hw c)]
  unfold Oper.wp
  rw [hrun l c w hc h0]
  refine (hcall w h0).mono fun e w' hh => ?_
  rcases hh with ⟨rfl, h1⟩ | ⟨ch, rfl, hx⟩
  · refine hK undef w' ?_
    unfold Ph upd
    rw [if_pos rfl]
    exact h1
  · exact hX _ _ _ hx hd
/-- The one event of its region: a store. -/
theorem p_store1 {o : Oper} {rest : List Oper} {a : (Nat → Value) → Act} (hN : o.dst = none) (hw : ∀ c, Region.wanted o (yielded ops (a c).tmps) = true)
    (hrun : ∀ l c w, Ctx T ops j l → P0 w → ∃ w', (execOp (a c).eval o).run P w = .ok .skip w' ∧ P2 w')
    (h : Seq P D X T ops (Ph j j P0 P1 P2) R (j + 1) rest a) : Seq P D X T ops (Ph j j P0 P1 P2) R j (o :: rest) a := by
  have e : (fun c => (a c).put o.dst undef) = a := funext fun c => by rw [hN]; rfl
  refine ⟨fun _ => undef, fun l c w hc hi Q K hK _ hX => ?_, by rw [e]; exact h⟩
  have h1 : P0 w := hi.pre hc (by simp) (by simp)
  rw [if_pos (hw c)]
  unfold Oper.wp
  obtain ⟨w', hr, h2⟩ := hrun l c w hc h1
  rw [hr]
  refine hK undef w' ?_
  unfold Ph upd
  rw [if_pos rfl]
  exact h2
theorem p_nil {i : Nat} {a : (Nat → Value) → Act} (h : R a) : Seq P D X T ops (Ph j k P0 P1 P2) R i [] a := h
theorem region_p {Q : Exit → Act → World → Prop} {id : Nat} {a : Act} {w : World} (j k : Nat) (P0 P1 P2 : World → Prop) (D : List Deferred) (X : List PanicEntry → World → Prop) (hm : P.follows .mixedOrders = true) (hc : okB ops = true) (hD : a.defers = D) (hX : ∀ ch a' w', X ch w' → a'.defers = D → Q (.panic ch) a' w') (hk : (k < ops.size)) (h0 : P0 w.drew)
    (h : Seq P D X false ops (Ph j k P0 P1 P2) (fun a' => ∀ c w', P2 w' → Q .normal (a' c) w') 0 ops.toList (fun _ => a)) : (Code.region id ops true).wp P Q a w := by
  refine region (D := D) (X := X) hm hc hD hX (I := Ph j k P0 P1 P2) (by unfold Ph; simpa using h0) ?_
  have mono : ∀ (os : List Oper) (i : Nat) (a : (Nat → Value) → Act) (R R' : ((Nat → Value) → Act) → Prop), (∀ a, R a → R' a) → Seq P D X false ops (Ph j k P0 P1 P2) R i os a → Seq P D X false ops (Ph j k P0 P1 P2) R' i os a := by
    intro os
    induction os with
    | nil => intro i a R R' hR h; exact hR a h
    | cons o os ih => intro i a R R' hR ⟨v, hv, h⟩; exact ⟨v, hv, ih _ _ R R' hR h⟩
  exact mono _ _ _ _ _ (fun a' ha f c w' hf hI => ha c w' (hI.end_ (hf k hk))) h
theorem region_pt {Q : Exit → Act → World → Prop} {id : Nat} {a : Act} {w : World} (j k : Nat) (P0 P1 P2 : World → Prop) (hc : okB ops = true) (hk : (k < ops.size)) (h0 : P0 w)
    (h : Seq P a.defers (fun _ _ => False) true ops (Ph j k P0 P1 P2) (fun a' => ∀ c w', P2 w' → Q .normal (a' c) w') 0 ops.toList (fun _ => a)) : (Code.region id ops false).wp P Q a w := by
  refine region_text hc rfl (I := Ph j k P0 P1 P2) (by unfold Ph; simpa using h0) ?_
  have mono : ∀ (os : List Oper) (i : Nat) (a' : (Nat → Value) → Act) (R R' : ((Nat → Value) → Act) → Prop), (∀ a, R a → R' a) → Seq P a.defers (fun _ _ => False) true ops (Ph j k P0 P1 P2) R i os a' → Seq P a.defers (fun _ _ => False) true ops (Ph j k P0 P1 P2) R' i os a' := by
    intro os
    induction os with
    | nil => intro i a R R' hR h; exact hR a h
    | cons o os ih => intro i a R R' hR ⟨v, hv, h⟩; exact ⟨v, hv, ih _ _ R R' hR h⟩
  exact mono _ _ _ _ _ (fun a' ha f c w' hf hI => ha c w' (hI.end_ (hf k hk))) h
end
end Go.Proofs.Ytkagmelijdfdiaa.Chp
