/- A region that draws its order, some of whose operations make new memory whose place is left open: the open choices are values. No conditions of ours. -/
import Derived.Test.YtkagmelijdfdiaaLps
namespace Go.Proofs.Ytkagmelijdfdiaa.Rgw
open Go Go.RowKit Go.Proofs.Ytkagmelijdfdiaa.Reg
set_option linter.unusedVariables false

section
variable {P : Program}
/-- Operation o, number i, comes in state a to value v, whenever it comes up. f: what has come up; c: numbers that the order leaves open, one an operation. -/
def Step (P : Program) (T : Bool) (ops : Array Oper) (I : (Nat → Bool) → (Nat → Value) → World → Prop) (i : Nat) (o : Oper) (a : (Nat → Value) → Act) (v : Value → Value) : Prop :=
  ∀ l c w, Ctx T ops i l → I (flags l) c w → ∀ (Q : Exit → Act → World → Prop) (K : Act → World → Prop), (∀ n w', I (upd (flags l) i true) (upd c i n) w' → K ((a c).put o.dst (v n)) w') →
    if Region.wanted o (yielded ops (a c).tmps) = true then Oper.wp P o (a c) w K Q else K ((a c).put o.dst undef) w

/-- The operations in the text's order. -/
def Seq (P : Program) (T : Bool) (ops : Array Oper) (I : (Nat → Bool) → (Nat → Value) → World → Prop) (R : ((Nat → Value) → Act) → Prop) : Nat → List Oper → ((Nat → Value) → Act) → Prop
  | _, [], a => R a
  | i, o :: rest, a => ∃ v, Step P T ops I i o a v ∧ Seq P T ops I R (i + 1) rest (fun c => (a c).put o.dst (v (c i)))

/-- A step shown in one state serves in another one that agrees with it. -/
theorem Step.at {T : Bool} {ops : Array Oper} {I : (Nat → Bool) → (Nat → Value) → World → Prop} {i : Nat} {o : Oper} {a : (Nat → Value) → Act} {b : Act} {v : Value → Value} (h : Step P T ops I i o a v) (hs : ∀ cs b, o.op ≠ .select cs b)
    {l : Array Bool} {c : Nat → Value} {w : World} (hag : Agree (o.looksAt ops) (a c) b) (hl : Ctx T ops i l) (hI : I (flags l) c w) {Q : Exit → Act → World → Prop} {K : Act → World → Prop}
    (hK : ∀ n w', I (upd (flags l) i true) (upd c i n) w' → K (b.put o.dst (v n)) w') : if Region.wanted o (yielded ops b.tmps) = true then Oper.wp P o b w K Q else K (b.put o.dst undef) w := by
  have H := h l c w hl hI (fun _ _ _ => False) (fun a' w' => ∃ n, a' = (a c).put o.dst (v n) ∧ I (upd (flags l) i true) (upd c i n) w') (fun n w' hw' => ⟨n, rfl, hw'⟩)
  rw [← agree_wanted hag]
  have key : ∀ u w', (∃ n, (a c).put o.dst u = (a c).put o.dst (v n) ∧ I (upd (flags l) i true) (upd c i n) w') → K (b.put o.dst u) w' := fun u w' ⟨n, h1, h2⟩ => by
    rw [put_same hag.2 h1]; exact hK n w' h2
  have dfr : ∀ d u w', ¬ (∃ n, ({ a c with defers := d :: (a c).defers } : Act).put o.dst u = (a c).put o.dst (v n) ∧ I (upd (flags l) i true) (upd c i n) w') := fun d u w' ⟨n, h1, _⟩ => by
    have h2 := congrArg Act.defers h1
    cases hd : o.dst with
    | none => rw [hd] at h2; simp [Act.put] at h2
    | some t => rw [hd] at h2; simp [Act.put] at h2
  split
  · rename_i hw
    rw [if_pos hw] at H
    unfold Oper.wp at *
    rw [← agree_exec hs hag]
    generalize (execOp (a c).eval o).run P w = r at *
    cases r with
    | ok n w' =>
      cases n <;> simp only [Oper.upon] at H ⊢
      case value u => exact key _ _ H
      case skip => exact key _ _ H
      case defer d => exact absurd H (dfr _ _ _)
      case enter f args =>
        refine Calls.mono H fun e w'' he => ?_
        cases e with
        | returned u => exact key _ _ he
        | panicked c => exact he.elim
        | outgrown => obtain ⟨_, _, h⟩ := he; exact h.elim
      case row row args => exact Rows.mono H fun u w'' he => key _ _ he
    | halt x w' =>
      cases x <;> simp only [Oper.upon] at H ⊢
  · rename_i hw
    rw [if_neg hw] at H
    exact key _ _ H

/-- The values at some choice. -/
def at_ (c : Nat → Value) : Nat → List (Value → Value) → List Value
  | _, [] => []
  | k, v :: vs => v (c k) :: at_ c (k + 1) vs
theorem at_len (c : Nat → Value) : ∀ (vs : List (Value → Value)) (k : Nat), (at_ c k vs).length = vs.length
  | [], _ => rfl
  | _ :: vs, k => by simp [at_, at_len c vs (k + 1)]
theorem at_get (c : Nat → Value) : ∀ (vs : List (Value → Value)) (k j : Nat) v, vs[j]? = some v → (at_ c k vs)[j]? = some (v (c (k + j)))
  | [], _, _, _, h => by simp at h
  | u :: vs, k, 0, v, h => by simp at h; subst h; simp [at_]
  | u :: vs, k, j + 1, v, h => by simp at h; simp only [at_, List.getElem?_cons_succ]; rw [at_get c vs (k + 1) j v h, show k + 1 + j = k + (j + 1) by omega]
theorem Seq.vals {T : Bool} {ops : Array Oper} {I : (Nat → Bool) → (Nat → Value) → World → Prop} {R : ((Nat → Value) → Act) → Prop} : ∀ (os : List Oper) (i : Nat) (a : (Nat → Value) → Act), Seq P T ops I R i os a →
    ∃ vs : List (Value → Value), vs.length = os.length ∧ (∀ j o, os[j]? = some o → ∃ v, vs[j]? = some v ∧ Step P T ops I (i + j) o (fun c => ((os.zip (at_ c i vs)).take j).foldl (fun a x => a.put x.1.dst x.2) (a c)) v) ∧
      R (fun c => (os.zip (at_ c i vs)).foldl (fun a x => a.put x.1.dst x.2) (a c))
  | [], _, _, h => ⟨[], rfl, fun j o hj => by simp at hj, h⟩
  | o :: os, i, a, ⟨v, hv, hr⟩ => by
    obtain ⟨vs, h1, h2, h3⟩ := Seq.vals os (i + 1) _ hr
    refine ⟨v :: vs, by simp [h1], fun j o' hj => ?_, by simpa [at_] using h3⟩
    cases j with
    | zero =>
      simp at hj; subst hj
      exact ⟨v, rfl, by simpa using hv⟩
    | succ j =>
      obtain ⟨v', hv', hs⟩ := h2 j o' (by simpa using hj)
      exact ⟨v', by simpa using hv', by simpa [at_, show i + (j + 1) = i + 1 + j by omega] using hs⟩

theorem fill_upd {l : Array Bool} {i : Nat} {n : Value} {c : Nat → Value} (hu : l.getD i false = false) : ∀ (os : List Oper) (vs : List (Value → Value)) (k : Nat) (a : Act), fill l k os (at_ (upd c i n) k vs) a = fill l k os (at_ c k vs) a
  | [], vs, k, a => by cases vs <;> simp [fill]
  | _ :: _, [], k, a => by simp [fill, at_]
  | o :: os, v :: vs, k, a => by
    simp only [at_, fill]
    by_cases e : k = i
    · subst e
      rw [hu]
      simp only [Bool.false_eq_true, if_false]
      exact fill_upd hu os vs (k + 1) a
    · have : upd c i n k = c k := by unfold upd; rw [if_neg e]
      rw [this]
      exact fill_upd hu os vs (k + 1) _
/-- **A region that draws its order**: each operation shown once, in the text's order, against what stands whenever it comes up. -/
theorem region {ops : Array Oper} {I : (Nat → Bool) → (Nat → Value) → World → Prop} {Q : Exit → Act → World → Prop} {id : Nat} {a : Act} {w : World} (hm : P.follows .mixedOrders = true) (hc : okB ops = true)
    (h0 : I (fun _ => false) (fun _ => undef) w.drew) (h : Seq P false ops I (fun a' => ∀ f c w', (∀ j, j < ops.size → f j = true) → I f c w' → Q .normal (a' c) w') 0 ops.toList (fun _ => a)) : (Code.region id ops true).wp P Q a w := by
  obtain ⟨vs, hlen, hst, hR⟩ := Seq.vals _ _ _ h
  refine wp_region_any hm ?_
  have hlen' : vs.length = ops.size := by simpa using hlen
  have hal : ∀ c, (at_ c 0 vs).length = ops.toList.length := fun c => by rw [at_len]; simpa using hlen'
  have main : ∀ (fuel : Nat) (l : Array Bool) (c : Nat → Value) (w : World), l.size = ops.size → l.toList.count false ≤ fuel → Closed ops l → I (flags l) c w → wpAny P .any ops Q fuel l (fill l 0 ops.toList (at_ c 0 vs) a) w := by
    -- all have come up
    have fin : ∀ (l : Array Bool) (c : Nat → Value) (w : World), l.size = ops.size → (∀ i, i < ops.size → l.getD i false = true) → I (flags l) c w → Q .normal (fill l 0 ops.toList (at_ c 0 vs) a) w := by
      intro l c w hsz hall hI
      rw [fill_prefix ops.size ops.toList (at_ c 0 vs) 0 a l (fun j hj => by rw [Nat.zero_add, hall j (by simpa using hj)]; simp at hj; simp [hj]) (hal c)]
      rw [List.take_of_length_le (by simp; omega)]
      exact hR (flags l) c w hall hI
    have noReady : ∀ (l : Array Bool), l.size = ops.size → Region.ready .any ops l = [] → ∀ i, i < ops.size → l.getD i false = true := by
      intro l hsz hr i
      induction i using Nat.strongRecOn with
      | ind i ih =>
        intro hi
        cases hv : l.getD i false with
        | true => rfl
        | false =>
          exfalso
          have : i ∈ Region.ready .any ops l := by
            refine mem_ready.2 ⟨?_, ops[i], by simp [hi], fun e he hb => ?_⟩
            · have : i < l.size := by omega
              simp [this] at hv ⊢; exact hv
            · have := (okB_spec hc (i := i) (o := ops[i]) (by simp [hi])).2.1 e he hb
              exact ih e.on this (by omega)
          rw [hr] at this; cases this
    intro fuel
    induction fuel with
    | zero =>
      intro l c w hsz hcnt hcl hI
      have hall : ∀ i, i < ops.size → l.getD i false = true := by
        intro i hi
        have h1 : i < l.size := by omega
        have h2 : l.toList.count false = 0 := by omega
        rw [List.count_eq_zero] at h2
        have h3 : l[i] ∈ l.toList := by simp
        cases hb : l[i] with
        | true => simp [h1, hb]
        | false => rw [hb] at h3; exact absurd h3 h2
      refine ⟨?_, fin l c w hsz hall hI⟩
      cases hr : Region.ready .any ops l with
      | nil => rfl
      | cons x xs =>
        have hx : x ∈ Region.ready .any ops l := by rw [hr]; simp
        obtain ⟨hun, o, ho, _⟩ := mem_ready.1 hx
        have hlt : x < ops.size := (Array.getElem?_eq_some_iff.1 ho).1
        have := hall x hlt
        have h1 : x < l.size := by omega
        simp [h1] at hun this
        rw [hun] at this; cases this
    | succ fuel ih =>
      intro l c w hsz hcnt hcl hI
      refine ⟨fun hr => fin l c w hsz (noReady l hsz hr) hI, fun i hi => ?_⟩
      obtain ⟨hun, o, ho, hrd⟩ := mem_ready.1 hi
      have hlt : i < ops.size := (Array.getElem?_eq_some_iff.1 ho).1
      have hll : i < l.size := by omega
      have hu0 : l.getD i false = false := by simp [hll] at hun ⊢; exact hun
      obtain ⟨hsel, hdown, hlook⟩ := okB_spec hc ho
      have hol : ops.toList[i]? = some o := by simpa using ho
      obtain ⟨v, hv, hs⟩ := hst i o hol
      rw [Nat.zero_add] at hs
      have hctx : Ctx false ops i l := ⟨(fun h => by cases h), hun, fun o' ho' => by rw [ho] at ho'; cases ho'; exact hrd, hcl, hsz⟩
      have hag : Agree (o.looksAt ops) (((ops.toList.zip (at_ c 0 vs)).take i).foldl (fun a x => a.put x.1.dst x.2) a) (fill l 0 ops.toList (at_ c 0 vs) a) := by
        rw [← fill_prefix i ops.toList (at_ c 0 vs) 0 a ((List.range ops.size).map (fun j => decide (j < i))).toArray (fun j hj => by simp at hj; simp [hj]) (hal c)]
        refine Agree.fills _ _ _ ⟨fun _ _ => rfl, rfl⟩ (fun j oj hj d hd hS => ?_)
        have hj' : ops[j]? = some oj := by simpa using hj
        have hjl : j < ops.size := (Array.getElem?_eq_some_iff.1 hj').1
        rw [Nat.zero_add]
        rcases (hlook j oj d hj' hd).2 hS with ⟨h1, h2⟩ | h1 | ⟨h1, h2⟩
        · rw [hctx.before j h2]
          simp [hjl, h1]
        · subst h1
          rw [hu0]
          simp [hjl]
        · rw [hctx.later j h2]
          simp [hjl]
          omega
      have hset : ∀ n, fill (l.setIfInBounds i true) 0 ops.toList (at_ (upd c i n) 0 vs) a = (fill l 0 ops.toList (at_ c 0 vs) a).put o.dst (v n) := fun n => by
        rw [← fill_upd (n := n) hu0 ops.toList vs 0 a]
        refine fill_set hll hu0 ops.toList _ 0 a o (v n) (Nat.zero_le _) (by simpa using hol) ?_ (fun j j' oj oj' hj hj' hne t ht => by
          have := ((okB_spec hc (i := j') (o := oj') (by simpa using hj')).2.2 j oj t (by simpa using hj) ht).1
          exact this (fun e => hne e.symm))
        have := at_get (upd c i n) vs 0 i v hv
        simpa [upd] using this
      have hcl' : Closed ops (l.setIfInBounds i true) := by
        intro j oj hj hl e he hb
        have up : l.getD e.on false = true → (l.setIfInBounds i true).getD e.on false = true := fun hx => by
          by_cases hie : i = e.on
          · rw [← hie]; simp [hll]
          · simp [Array.getElem?_setIfInBounds_ne hie]; simpa using hx
        by_cases hij : i = j
        · subst hij
          rw [ho] at hj; cases hj
          exact up (hrd e he hb)
        · refine up (hcl j oj hj ?_ e he hb)
          simpa [Array.getElem?_setIfInBounds_ne hij] using hl
      have hcnt' : (l.setIfInBounds i true).toList.count false ≤ fuel := by
        have : (l.setIfInBounds i true).toList = l.toList.set i true := by simp
        rw [this, List.count_set (by simpa using hll)]
        have h3 : l.toList[i] = false := by simp [hll] at hu0; simpa using hu0
        rw [h3]
        simp only [beq_self_eq_true, if_true]
        simp at hcnt ⊢
        omega
      have fin' := hs.at (Q := Q) (c := c) hsel hag hctx hI (K := fun a' w' => wpAny P .any ops Q fuel (l.setIfInBounds i true) a' w') (fun n w' hI' => by
        rw [← hset n]
        exact ih _ _ w' (by simp [hsz]) hcnt' hcl' (by rw [flags_set hll]; exact hI'))
      unfold wpOp
      rw [ho]
      simp only []
      split
      · rename_i hw
        rw [if_pos hw] at fin'
        exact .inl fin'
      · rename_i hw
        rw [if_neg hw] at fin'
        exact fin'
  have hz : fill (Array.replicate ops.size false) 0 ops.toList (at_ (fun _ => undef) 0 vs) a = a := by
    rw [fill_prefix 0 ops.toList _ 0 a _ (fun j hj => by simp at hj; simp [hj]) (hal _)]
    simp
  have hf0 : flags (Array.replicate ops.size false) = fun _ => false := by
    funext j
    unfold flags
    by_cases hjl : j < ops.size <;> simp [hjl]
  have := main ops.size (Array.replicate ops.size false) (fun _ => undef) w.drew (by simp) (by simp) (fun j oj _ hl => by
    exfalso
    by_cases hjl : j < ops.size <;> simp [hjl] at hl) (by rw [hf0]; exact h0)
  rw [hz] at this
  exact this
/-- A region in the text's order. -/
theorem region_text {ops : Array Oper} {I : (Nat → Bool) → (Nat → Value) → World → Prop} {Q : Exit → Act → World → Prop} {id : Nat} {a : Act} {w : World} (hc : okB ops = true)
    (h0 : I (fun _ => false) (fun _ => undef) w) (h : Seq P true ops I (fun a' => ∀ f c w', (∀ j, j < ops.size → f j = true) → I f c w' → Q .normal (a' c) w') 0 ops.toList (fun _ => a)) : (Code.region id ops false).wp P Q a w := by
  refine wp_region ?_
  have key : ∀ (os : List Oper) (k : Nat) (l : Array Bool) (c : Nat → Value) (A : (Nat → Value) → Act) (w : World), (∀ j, os[j]? = ops[k + j]?) → k + os.length = ops.size → l.size = ops.size → (∀ j, j < ops.size → l.getD j false = decide (j < k)) → I (flags l) c w →
      (∀ c', (∀ j, j < k → c' j = c j) → A c' = A c) →
      Seq P true ops I (fun a' => ∀ f c w', (∀ j, j < ops.size → f j = true) → I f c w' → Q .normal (a' c) w') k os A → wpOps P ops Q (List.range' k os.length) (A c) w := by
    intro os
    induction os with
    | nil =>
      intro k l c A w _ hk hsz hl hI _ h
      exact h (flags l) c w (fun j hj => by unfold flags; rw [hl j hj]; simp at hk; simp; omega) hI
    | cons o os ih =>
      intro k l c A w hos hk hsz hl hI hA ⟨v, hv, h⟩
      have ho : ops[k]? = some o := by have := hos 0; simpa using this.symm
      have hlt : k < ops.size := (Array.getElem?_eq_some_iff.1 ho).1
      have hll : k < l.size := by omega
      obtain ⟨hsel, hdown, _⟩ := okB_spec hc ho
      have hctx : Ctx true ops k l := by
        refine ⟨fun _ => hl, ?_, fun o' ho' e he hb => ?_, fun j oj hj hlj e he hb => ?_, hsz⟩
        · have := hl k hlt
          simp [hll] at this ⊢
          simpa using this
        · rw [ho] at ho'; cases ho'
          have := hdown e he hb
          rw [hl e.on (by omega)]; simp [this]
        · have hjl : j < ops.size := (Array.getElem?_eq_some_iff.1 hj).1
          have := (okB_spec hc hj).2.1 e he hb
          rw [hl j hjl] at hlj
          have hjk : j < k := by simpa using hlj
          rw [hl e.on (by omega)]; simp; omega
      have H := hv l c w hctx hI Q (fun a' w' => wpOps P ops Q (List.range' (k + 1) os.length) a' w') (fun n w' hI' => by
        have hA' : ∀ c', (∀ j, j < k → c' j = c j) → (A c').put o.dst (v (c' k)) = (A c).put o.dst (v (c' k)) := fun c' hc' => by rw [hA c' hc']
        have e1 : (A c).put o.dst (v n) = (fun c => (A c).put o.dst (v (c k))) (upd c k n) := by
          have e2 : upd c k n k = n := by simp [upd]
          show _ = (A (upd c k n)).put o.dst (v (upd c k n k))
          rw [hA (upd c k n) (fun j hj => by unfold upd; rw [if_neg (by omega)]), e2]
        rw [e1]
        refine ih (k + 1) (l.setIfInBounds k true) (upd c k n) _ w' (fun j => ?_) (by simp at hk; omega) (by simp [hsz]) (fun j hj => ?_) (by rw [flags_set hll]; exact hI') (fun c' hc' => ?_) h
        · have := hos (j + 1)
          rw [show k + 1 + j = k + (j + 1) by omega]
          simpa using this
        · by_cases e : k = j
          · subst e; simp [hll]
          · have := hl j hj
            simp [Array.getElem?_setIfInBounds_ne e]
            simp at this
            rw [this]
            simp; omega
        · have h1 : A c' = A (upd c k n) := by
            rw [hA c' (fun j hj => by rw [hc' j (by omega)]; unfold upd; rw [if_neg (by omega)]), hA (upd c k n) (fun j hj => by unfold upd; rw [if_neg (by omega)])]
          show (A c').put o.dst (v (c' k)) = (A (upd c k n)).put o.dst (v (upd c k n k))
          rw [h1, hc' k (by omega)])
      rw [List.length_cons, List.range'_succ]
      unfold wpOps
      rw [ho]
      simp only []
      split
      · rename_i hw
        rw [if_pos hw] at H
        exact .inl H
      · rename_i hw
        rw [if_neg hw] at H
        exact H
  have := key ops.toList 0 (Array.replicate ops.size false) (fun _ => undef) (fun _ => a) w (fun j => by simp) (by simp) (by simp) (fun j hj => by simp [hj]) (by
    have hf0 : flags (Array.replicate ops.size false) = fun _ => false := by
      funext j
      unfold flags
      by_cases hjl : j < ops.size <;> simp [hjl]
    rw [hf0]; exact h0) (fun _ _ => rfl) h
  simpa [List.range_eq_range'] using this
end

/-- What holds all along: the known blocks; each listed operation that has come up has made a value of which its sentence holds. -/
def Inv (S : List (Nat × (World → Value → Prop))) (F : World → Prop) (w0 : World) (L : List Blk) (f : Nat → Bool) (c : Nat → Value) (w : World) : Prop := St w0 L w ∧ F w ∧ ∀ x ∈ S, f x.1 = true → x.2 w (c x.1)
def Stable (p : World → Value → Prop) : Prop := ∀ w w' v, Below w.heap.size w w' → p w v → p w' v
def Stays (F : World → Prop) : Prop := ∀ w w', Below w.heap.size w w' → F w → F w'
def Good (S : List (Nat × (World → Value → Prop))) (F : World → Prop) : Prop := (∀ x ∈ S, Stable x.2) ∧ Stays F
def free (S : List (Nat × (World → Value → Prop))) (i : Nat) : Bool := S.all fun x => x.1 != i
theorem Inv.next {S : List (Nat × (World → Value → Prop))} {F : World → Prop} {w0 : World} {L : List Blk} {f : Nat → Bool} {c : Nat → Value} {w w' : World} {i : Nat} (h : Inv S F w0 L f c w) (hS : Good S F) (hf : free S i = true) (n : Value) (hb : Below w.heap.size w w') : Inv S F w0 L (upd f i true) (upd c i n) w' := by
  refine ⟨h.1.call hb, hS.2 _ _ hb h.2.1, fun x hx hxi => ?_⟩
  have hne : x.1 ≠ i := by have := List.all_eq_true.1 hf x hx; simpa using this
  unfold upd at hxi ⊢
  rw [if_neg hne] at hxi ⊢
  exact hS.1 x hx _ _ _ hb (h.2.2 x hx hxi)
theorem Inv.get {T : Bool} {ops : Array Oper} {i : Nat} {l : Array Bool} {S : List (Nat × (World → Value → Prop))} {F : World → Prop} {w0 : World} {L : List Blk} {c : Nat → Value} {w : World} (h : Inv S F w0 L (flags l) c w) (hc : Ctx T ops i l) {j : Nat} {p : World → Value → Prop} (hm : (j, p) ∈ S) (hr : reachB ops j ops.size i = true) : p w (c j) := h.2.2 _ hm (hc.before j hr)

section
variable {P : Program} {ops : Array Oper} {w0 : World} {L : List Blk} {S : List (Nat × (World → Value → Prop))} {F : World → Prop}
theorem region_v {Q : Exit → Act → World → Prop} {id : Nat} {a : Act} {w : World} (S : List (Nat × (World → Value → Prop))) (F : World → Prop) (hm : P.follows .mixedOrders = true) (hc : okB ops = true) (hl : S.all (fun x => decide (x.1 < ops.size)) = true)
    (h0 : St w0 L w) (hF : F w) (hS : Good S F) (h : Seq P false ops (Inv S F w0 L) (fun a' => ∀ c w', St w0 L w' → F w' → (∀ x ∈ S, x.2 w' (c x.1)) → Q .normal (a' c) w') 0 ops.toList (fun _ => a)) : (Code.region id ops true).wp P Q a w := by
  refine region hm hc (I := Inv S F w0 L) ⟨h0.drew, hS.2 _ _ (Go.Proofs.YtkagmelijdfdiaaW.PrintWords.below_drew (Below.refl _ _)) hF, fun x _ hx => by cases hx⟩ ?_
  have mono : ∀ (os : List Oper) (i : Nat) (a : (Nat → Value) → Act) (R R' : ((Nat → Value) → Act) → Prop), (∀ a, R a → R' a) → Seq P false ops (Inv S F w0 L) R i os a → Seq P false ops (Inv S F w0 L) R' i os a := by
    intro os
    induction os with
    | nil => intro i a R R' hR h; exact hR a h
    | cons o os ih => intro i a R R' hR ⟨v, hv, h⟩; exact ⟨v, hv, ih _ _ R R' hR h⟩
  refine mono _ _ _ _ _ (fun a' ha f c w' hf hI => ha c w' hI.1 hI.2.1 (fun x hx => hI.2.2 x hx (hf _ ?_))) h
  have := List.all_eq_true.1 hl x hx
  simpa using this
theorem region_q {Q : Exit → Act → World → Prop} {id : Nat} {a : Act} {w : World} (S : List (Nat × (World → Value → Prop))) (F : World → Prop) (hc : okB ops = true) (hl : S.all (fun x => decide (x.1 < ops.size)) = true)
    (h0 : St w0 L w) (hF : F w) (hS : Good S F) (h : Seq P true ops (Inv S F w0 L) (fun a' => ∀ c w', St w0 L w' → F w' → (∀ x ∈ S, x.2 w' (c x.1)) → Q .normal (a' c) w') 0 ops.toList (fun _ => a)) : (Code.region id ops false).wp P Q a w := by
  refine region_text hc (I := Inv S F w0 L) ⟨h0, hF, fun x _ hx => by cases hx⟩ ?_
  have mono : ∀ (os : List Oper) (i : Nat) (a : (Nat → Value) → Act) (R R' : ((Nat → Value) → Act) → Prop), (∀ a, R a → R' a) → Seq P true ops (Inv S F w0 L) R i os a → Seq P true ops (Inv S F w0 L) R' i os a := by
    intro os
    induction os with
    | nil => intro i a R R' hR h; exact hR a h
    | cons o os ih => intro i a R R' hR ⟨v, hv, h⟩; exact ⟨v, hv, ih _ _ R R' hR h⟩
  refine mono _ _ _ _ _ (fun a' ha f c w' hf hI => ha c w' hI.1 hI.2.1 (fun x hx => hI.2.2 x hx (hf _ ?_))) h
  have := List.all_eq_true.1 hl x hx
  simpa using this
variable {R : ((Nat → Value) → Act) → Prop} {T : Bool}
/-- An operation that yields a value and leaves the world as it is. -/
theorem v_val {i : Nat} {o : Oper} {rest : List Oper} {a a' : (Nat → Value) → Act} {v : Value} {N : Option Tmp} (hN : o.dst = N) (hw : ∀ c, Region.wanted o (yielded ops (a c).tmps) = true) (hfree : free S i = true) (hS : Good S F)
    (hrun : ∀ l c w, Ctx T ops i l → Inv S F w0 L (flags l) c w → (execOp (a c).eval o).run P w = .ok (.value v) w) (ha : ∀ c, (a c).put N v = a' c)
    (h : Seq P T ops (Inv S F w0 L) R (i + 1) rest a') : Seq P T ops (Inv S F w0 L) R i (o :: rest) a := by
  subst hN
  have e : (fun c => (a c).put o.dst v) = a' := funext ha
  subst e
  refine ⟨fun _ => v, fun l c w hc hi Q K hK => ?_, h⟩
  rw [if_pos (hw c)]
  unfold Oper.wp
  rw [hrun l c w hc hi]
  exact hK undef w (hi.next hS hfree undef (Below.refl _ _))
/-- One whose guard is off. -/
theorem v_off {i : Nat} {o : Oper} {rest : List Oper} {a a' : (Nat → Value) → Act} {N : Option Tmp} (hN : o.dst = N) (hw : ∀ c, Region.wanted o (yielded ops (a c).tmps) = false) (hfree : free S i = true) (hS : Good S F) (ha : ∀ c, (a c).put N undef = a' c)
    (h : Seq P T ops (Inv S F w0 L) R (i + 1) rest a') : Seq P T ops (Inv S F w0 L) R i (o :: rest) a := by
  subst hN
  have e : (fun c => (a c).put o.dst undef) = a' := funext ha
  subst e
  refine ⟨fun _ => undef, fun l c w hc hi Q K hK => ?_, h⟩
  rw [if_neg (by rw [hw c]; simp)]
  exact hK undef w (hi.next hS hfree undef (Below.refl _ _))
/-- A call of a Go function, by its contract. -/
theorem v_call {i : Nat} {o : Oper} {rest : List Oper} {a : (Nat → Value) → Act} {N : Option Tmp} (hN : o.dst = N) (hw : ∀ c, Region.wanted o (yielded ops (a c).tmps) = true) (hfree : free S i = true) (hS : Good S F)
    {f : FuncId} {fn : Func} (hf : P.funcs[f]? = some fn) (hname : (fn.name == "runtime.NumGoroutine") = false) (hb : fn.body.isSome = true) (args : Array Value) {as : Array Operand} {ts : Array TypeId}
    (hop : o.op = .call { callee := .value (.func f), args := as, argTypes := ts }) (hargs : ∀ c, as.map (a c).eval = args)
    (h2 : ∃ v, (∀ w, Calls P f args w fun e w' => e = .returned v ∧ Below w.heap.size w w') ∧ ∃ a', (∀ c, (a c).put N v = a' c) ∧ Seq P T ops (Inv S F w0 L) R (i + 1) rest a') : Seq P T ops (Inv S F w0 L) R i (o :: rest) a := by
  subst hN
  obtain ⟨v, hcall, a', ha, h⟩ := h2
  have e : (fun c => (a c).put o.dst v) = a' := funext ha
  subst e
  refine ⟨fun _ => v, fun l c w hc hi Q K hK => ?_, h⟩
  refine Go.Proofs.YtkagmelijdfdiaaW.PrintLast.goes_ hf hname hb args (hw c) rfl hop (hargs c) ((hcall w).mono fun e w' hh => ?_)
  exact ⟨v, hh.1, hK undef w' (hi.next hS hfree undef hh.2)⟩
/-- A call whose arguments hang on what was made here, which yields a value that does not. -/
theorem v_fn {i : Nat} {o : Oper} {rest : List Oper} {a : (Nat → Value) → Act} {N : Option Tmp} (hN : o.dst = N) (hw : ∀ c, Region.wanted o (yielded ops (a c).tmps) = true) (hfree : free S i = true) (hS : Good S F)
    (f : FuncId) (args : (Nat → Value) → Array Value) (hrun : ∀ c w, (execOp (a c).eval o).run P w = .ok (.enter f (args c)) w)
    (h2 : ∃ v, (∀ l c w, Ctx T ops i l → Inv S F w0 L (flags l) c w → Calls P f (args c) w fun e w' => e = .returned v ∧ Below w.heap.size w w') ∧ ∃ a', (∀ c, (a c).put N v = a' c) ∧ Seq P T ops (Inv S F w0 L) R (i + 1) rest a') : Seq P T ops (Inv S F w0 L) R i (o :: rest) a := by
  subst hN
  obtain ⟨v, hcall, a', ha, h⟩ := h2
  have e : (fun c => (a c).put o.dst v) = a' := funext ha
  subst e
  refine ⟨fun _ => v, fun l c w hc hi Q K hK => ?_, h⟩
  refine Go.Proofs.YtkagmelijdfdiaaW.PrintLast.call_ f (args c) (hw c) rfl (hrun c w) ((hcall l c w hc hi).mono fun e w' hh => ?_)
  exact ⟨v, hh.1, hK undef w' (hi.next hS hfree undef hh.2)⟩
theorem Inv.made {f : Nat → Bool} {c : Nat → Value} {w w' : World} {i : Nat} (h : Inv S F w0 L f c w) (hS : Good S F) (n : Value) (hb : Below w.heap.size w w') (pre post : List (Nat × (World → Value → Prop))) (p : World → Value → Prop) (hs : S = pre ++ (i, p) :: post) (hpre : free pre i = true) (hpost : free post i = true) (hp : p w' n) : Inv S F w0 L (upd f i true) (upd c i n) w' := by
  refine ⟨h.1.call hb, hS.2 _ _ hb h.2.1, fun x hx hxi => ?_⟩
  by_cases he : x.1 = i
  · have hx' : x = (i, p) := by
      rw [hs] at hx
      rcases List.mem_append.1 hx with hx | hx
      · have := List.all_eq_true.1 hpre x hx
        simp [he] at this
      · rcases List.mem_cons.1 hx with hx | hx
        · exact hx
        · have := List.all_eq_true.1 hpost x hx
          simp [he] at this
    subst hx'
    simpa [upd] using hp
  · unfold upd at hxi ⊢
    rw [if_neg he] at hxi ⊢
    exact hS.1 x hx _ _ _ hb (h.2.2 x hx hxi)
/-- New memory is made, and a value that leads there. -/
theorem v_new {i : Nat} {o : Oper} {rest : List Oper} {a a' : (Nat → Value) → Act} (p : World → Value → Prop) (pre post : List (Nat × (World → Value → Prop))) (hs : S = pre ++ (i, p) :: post) (hpre : free pre i = true) (hpost : free post i = true) (hS : Good S F)
    {N : Option Tmp} (hN : o.dst = N) (hw : ∀ c, Region.wanted o (yielded ops (a c).tmps) = true) (z : Obj) (G : Nat → Value)
    (hrun : ∀ l c w, Ctx T ops i l → Inv S F w0 L (flags l) c w → (execOp (a c).eval o).run P w = .ok (.value (G w.heap.size)) (w.alloc z)) (hp : ∀ w : World, p (w.alloc z) (G w.heap.size)) (ha : ∀ c, (a c).put N (c i) = a' c)
    (h : Seq P T ops (Inv S F w0 L) R (i + 1) rest a') : Seq P T ops (Inv S F w0 L) R i (o :: rest) a := by
  subst hN
  have e : (fun c => (a c).put o.dst (c i)) = a' := funext ha
  subst e
  refine ⟨id, fun l c w hc hi Q K hK => ?_, h⟩
  rw [if_pos (hw c)]
  unfold Oper.wp
  rw [hrun l c w hc hi]
  exact hK _ _ (hi.made hS _ (Go.Proofs.YtkagmelijdfdiaaW.PrintWords.below_alloc (Below.refl _ _) _) pre post p hs hpre hpost (hp w))
/-- A call that hands back new memory. -/
theorem v_newfn {i : Nat} {o : Oper} {rest : List Oper} {a a' : (Nat → Value) → Act} (p : World → Value → Prop) (pre post : List (Nat × (World → Value → Prop))) (hs : S = pre ++ (i, p) :: post) (hpre : free pre i = true) (hpost : free post i = true) (hS : Good S F)
    {N : Option Tmp} (hN : o.dst = N) (hw : ∀ c, Region.wanted o (yielded ops (a c).tmps) = true) (f : FuncId) (args : (Nat → Value) → Array Value) (hrun : ∀ c w, (execOp (a c).eval o).run P w = .ok (.enter f (args c)) w)
    (hcall : ∀ l c w, Ctx T ops i l → Inv S F w0 L (flags l) c w → Calls P f (args c) w fun e w' => ∃ v, e = .returned v ∧ p w' v ∧ Below w.heap.size w w') (ha : ∀ c, (a c).put N (c i) = a' c)
    (h : Seq P T ops (Inv S F w0 L) R (i + 1) rest a') : Seq P T ops (Inv S F w0 L) R i (o :: rest) a := by
  subst hN
  have e : (fun c => (a c).put o.dst (c i)) = a' := funext ha
  subst e
  refine ⟨id, fun l c w hc hi Q K hK => ?_, h⟩
  refine Go.Proofs.YtkagmelijdfdiaaW.PrintLast.call_ f (args c) (hw c) rfl (hrun c w) ((hcall l c w hc hi).mono fun e w' hh => ?_)
  obtain ⟨v, he, hp, hb⟩ := hh
  exact ⟨v, he, hK v w' (hi.made hS v hb pre post p hs hpre hpost hp)⟩
/-- An operation that yields a value of which one sentence is known, and leaves the world as it is. -/
theorem v_get {i : Nat} {o : Oper} {rest : List Oper} {a a' : (Nat → Value) → Act} (p : World → Value → Prop) (pre post : List (Nat × (World → Value → Prop))) (hs : S = pre ++ (i, p) :: post) (hpre : free pre i = true) (hpost : free post i = true) (hS : Good S F)
    {N : Option Tmp} (hN : o.dst = N) (hw : ∀ c, Region.wanted o (yielded ops (a c).tmps) = true)
    (hrun : ∀ l c w, Ctx T ops i l → Inv S F w0 L (flags l) c w → ∃ u, (execOp (a c).eval o).run P w = .ok (.value u) w ∧ p w u) (ha : ∀ c, (a c).put N (c i) = a' c)
    (h : Seq P T ops (Inv S F w0 L) R (i + 1) rest a') : Seq P T ops (Inv S F w0 L) R i (o :: rest) a := by
  subst hN
  have e : (fun c => (a c).put o.dst (c i)) = a' := funext ha
  subst e
  refine ⟨id, fun l c w hc hi Q K hK => ?_, h⟩
  rw [if_pos (hw c)]
  unfold Oper.wp
  obtain ⟨u, hu, hp⟩ := hrun l c w hc hi
  rw [hu]
  exact hK u w (hi.made hS u (Below.refl _ _) pre post p hs hpre hpost hp)
theorem v_nil {i : Nat} {a : (Nat → Value) → Act} (h : R a) : Seq P T ops (Inv S F w0 L) R i [] a := h
/-- a new slice of known elements -/
def Row (t : TypeId) (n : Nat) (cs : Array Value) (w : World) (v : Value) : Prop := ∃ b : Nat, v = .slice (some ⟨b, 0, none⟩) n n ∧ w.heap[b]? = some (.cells cs t (0, 0))
theorem Row.stable (t : TypeId) (n : Nat) (cs : Array Value) : Stable (Row t n cs) := fun w w' v hb ⟨b, hv, hh⟩ => ⟨b, hv, by rw [hb.block b (Array.getElem?_eq_some_iff.1 hh).1]; exact hh⟩
end
end Go.Proofs.Ytkagmelijdfdiaa.Rgw
