/- LazyOnce: what memory holds; a cell's function; asking a cell. -/
import Derived.Test.YthnkmadipbfmaaaLzL
import Derived.Test.YthnkmadipbfmaaaLzN
namespace Go.Proofs.Ythnkmadipbfmaaa.LzO
open Go.RowKit Go.Proofs.YthnkmadipbfmaaaW.PrintWords Go.Proofs.YthnkmadipbfmaaaW.PrintLast Go.Proofs.YthnkmadipbfmaaaW.PrintMore Go.Proofs.Ythnkmadipbfmaaa.M Go.Proofs.Ythnkmadipbfmaaa.Reg Go.Proofs.Ythnkmadipbfmaaa.Rgw Go.Proofs.Ythnkmadipbfmaaa.Rwd Go.Proofs.Ythnkmadipbfmaaa.Chp Go.Proofs.Ythnkmadipbfmaaa.LzA Go.Proofs.Ythnkmadipbfmaaa.LzB Go.Proofs.Ythnkmadipbfmaaa.LzC Go.Proofs.Ythnkmadipbfmaaa.LzD Go.Proofs.Ythnkmadipbfmaaa.LzE Go.Proofs.Ythnkmadipbfmaaa.LzF Go.Proofs.Ythnkmadipbfmaaa.LzG Go.Proofs.Ythnkmadipbfmaaa.LzJ Go.Proofs.Ythnkmadipbfmaaa.LzK Go.Proofs.Ythnkmadipbfmaaa.LzN
attribute [local go_sem] max2_mx min2_mn max_two min_two max_three min_three max_four min_four
set_option linter.unusedVariables false
set_option linter.unusedSimpArgs false

def fl (lp : Nat) (pan : Nat → Bool) (k : Nat) : Bool := decide (k < lp) && pan k
def vl (ans : Nat → Int) (lp : Nat) (pan : Nat → Bool) (k : Nat) : Int := if fl lp pan k = true then 0 else ans k
section
variable (w0 : World) (n : Nat) (A : Option Addr) (len cap : Nat) (ans : Nat → Int) (Ap : Option Addr) (lp cp : Nat) (pan : Nat → Bool) (B3 B5 B9 BC : Nat) (A7 : Option Addr) (k7 : Nat) (Ls : List Nat) (Vs : Nat → Nat)
def fo (B3 B5 B9 : Nat) (Vs : Nat → Nat) (i : Nat) : Value := .func (.func 9) #[] #[ptr B9, ptr (Vs i), ptr B5, ptr B3]
def co (i : Nat) (b : Bool) : Obj := cel (fo B3 B5 B9 Vs i) (dn b) 0 (.int .u32 0) (dn b) (.int .i64 (if b = true then vl ans lp pan i else 0))
structure OS (c : Nat → Int) (d : Nat → Bool) (w : World) : Prop where
  bel : Below w0.heap.size w0 w
  h3 : w.heap[B3]? = some (.cells #[.slice A len cap] 22 (0, 0))
  h5 : w.heap[B5]? = some (.cells #[.slice Ap lp cp] 23 (0, 0))
  h9 : w.heap[B9]? = some (.cells #[.slice (some ⟨BC, 0, none⟩) n n] 22 (0, 0))
  hB : w.heap[BC]? = some (.cells (ar .i64 c n) 3 (0, 0))
  sl : SL w0.heap.size w (.slice A7 n k7) Ls
  hV : ∀ i, i < n → w.heap[Vs i]? = some (.cells #[.int .i64 i] 3 (0, 0))
  hC : ∀ i, i < n → w.heap[Ls.getD i 0]? = some (co ans lp pan B3 B5 B9 Vs i (d i))
structure LayO : Prop where
  ln : Ls.length = n
  inj : ∀ i j, i < n → j < n → Ls.getD i 0 = Ls.getD j 0 → i = j
  cB : ∀ i, i < n → Ls.getD i 0 ≠ BC
  c3 : ∀ i, i < n → Ls.getD i 0 ≠ B3
  c5 : ∀ i, i < n → Ls.getD i 0 ≠ B5
  c9 : ∀ i, i < n → Ls.getD i 0 ≠ B9
  cV : ∀ i j, i < n → j < n → Ls.getD i 0 ≠ Vs j
  b3 : B3 ≠ BC
  b5 : B5 ≠ BC
  b9 : B9 ≠ BC
  vB : ∀ i, i < n → Vs i ≠ BC
  row : ∀ k, (Value.slice A7 n k7).ownBlock = some k → k ≠ BC ∧ ∀ i, i < n → k ≠ Ls.getD i 0
  ge : ∀ i, i < n → w0.heap.size ≤ Ls.getD i 0
  geB : w0.heap.size ≤ BC
  src : ∀ i, i < n → ∃ ad, A = some ad ∧ w0.cell? (ad.add i) = some (.int .i64 (ans i))
  srp : ∀ i, i < lp → ∃ ad, Ap = some ad ∧ w0.cell? (ad.add i) = some (.bool (pan i))
  len_ : n ≤ len ∧ n ≤ 8
  lenp : lp ≤ 9223372036854775807
end
section
variable {w0 : World} {n : Nat} {A : Option Addr} {len cap : Nat} {ans : Nat → Int} {Ap : Option Addr} {lp cp : Nat} {pan : Nat → Bool} {B3 B5 B9 BC : Nat} {A7 : Option Addr} {k7 : Nat} {Ls : List Nat} {Vs : Nat → Nat}
theorem OS.turn {c c' : Nat → Int} {d d' : Nat → Bool} {w w' : World} {S : Nat → Prop} (h : OS w0 n A len cap ans Ap lp cp pan B3 B5 B9 BC A7 k7 Ls Vs c d w) (Y : LayO w0 n A len ans Ap lp pan B3 B5 B9 BC A7 k7 Ls Vs) (hc : Ch S w w') (hS : ∀ x, S x → x = BC ∨ ∃ j, j < n ∧ x = Ls.getD j 0)
    (hB : w'.heap[BC]? = some (.cells (ar .i64 c' n) 3 (0, 0))) (hC : ∀ i, i < n → w'.heap[Ls.getD i 0]? = some (co ans lp pan B3 B5 B9 Vs i (d' i))) :
    OS w0 n A len cap ans Ap lp cp pan B3 B5 B9 BC A7 k7 Ls Vs c' d' w' := by
  have out : ∀ x, x ≠ BC → (∀ j, j < n → Ls.getD j 0 ≠ x) → ¬ S x := fun x h6' hj hs => by
    rcases hS x hs with e | ⟨j, hjn, e⟩
    · exact h6' e
    · exact hj j hjn e.symm
  refine ⟨h.bel.trans (hc.below h.bel.size (fun k hk hs => ?_)), hc.at h.h3 (out _ Y.b3 Y.c3), hc.at h.h5 (out _ Y.b5 Y.c5), hc.at h.h9 (out _ Y.b9 Y.c9), hB, h.sl.ch2 hc (fun k hk => out k (Y.row k hk).1 (fun j hj e => (Y.row k hk).2 j hj e.symm)), fun i hi => hc.at (h.hV i hi) (out _ (Y.vB i hi) (fun j hj => Y.cV j i hj hi)), hC⟩
  have := Y.geB
  rcases hS k hs with rfl | ⟨j, hj, rfl⟩
  · omega
  · have := Y.ge j hj; omega
theorem OS.step {c : Nat → Int} {d : Nat → Bool} {w w' : World} (h : OS w0 n A len cap ans Ap lp cp pan B3 B5 B9 BC A7 k7 Ls Vs c d w) (hb : Below w.heap.size w w') : OS w0 n A len cap ans Ap lp cp pan B3 B5 B9 BC A7 k7 Ls Vs c d w' := by
  have k : Ch (fun _ => False) w w' := Ch.of_below hb (fun k hk hk' => by omega)
  exact ⟨Reg.below_then' h.bel hb, k.at h.h3 id, k.at h.h5 id, k.at h.h9 id, k.at h.hB id, h.sl.below hb, fun i hi => k.at (h.hV i hi) id, fun i hi => k.at (h.hC i hi) id⟩
set_option maxHeartbeats 4000000 in
/-- a cell's function -/
theorem clo9 {k : Nat} (hk : k < n) {v : Int} (Y : LayO w0 n A len ans Ap lp pan B3 B5 B9 BC A7 k7 Ls Vs) {c : Nat → Int} (hv : c k = v) (hv2 : 0 ≤ v ∧ v ≤ 1) (w : World) (bel : Below w0.heap.size w0 w) (h3 : w.heap[B3]? = some (.cells #[.slice A len cap] 22 (0, 0))) (h5 : w.heap[B5]? = some (.cells #[.slice Ap lp cp] 23 (0, 0)))
    (h9 : w.heap[B9]? = some (.cells #[.slice (some ⟨BC, 0, none⟩) n n] 22 (0, 0))) (hB : w.heap[BC]? = some (.cells (ar .i64 c n) 3 (0, 0))) (hV : w.heap[Vs k]? = some (.cells #[.int .i64 k] 3 (0, 0))) :
    Calls Try.prog 9 #[ptr B9, ptr (Vs k), ptr B5, ptr B3] w (fun e w' => ends e (if fl lp pan k = true then none else some (ans k)) ∧ w' = w.setCell ⟨BC, k, none⟩ (.int .i64 (v + 1))) := by
  have hadd : ∀ i, (⟨BC, 0, none⟩ : Addr).add i = ⟨BC, i, none⟩ := fun i => by unfold Addr.add; split <;> simp_all
  have k0 : Ch (· = BC) w (w.setCell ⟨BC, k, none⟩ (.int .i64 (v + 1))) := Ch.set _ _ _ rfl
  have c9 : w.cell? ⟨B9, 0, none⟩ = some (.slice (some ⟨BC, 0, none⟩) n n) := at_cell h9 0
  have cV : w.cell? ⟨Vs k, 0, none⟩ = some (.int .i64 k) := at_cell hV 0
  have cB : w.cell? ⟨BC, k, none⟩ = some (.int .i64 v) := by rw [at_cell hB k, ar_get _ _ hk, hv]
  have zB : w.frozen? ⟨BC, k, none⟩ = false := at_free hB k
  have hkn : (k : Int) < (n : Int) := by omega
  have cV' : (w.setCell ⟨BC, k, none⟩ (.int .i64 (v + 1))).cell? ⟨Vs k, 0, none⟩ = some (.int .i64 k) := at_cell (k0.at hV (Y.vB k hk)) 0
  have c5' : (w.setCell ⟨BC, k, none⟩ (.int .i64 (v + 1))).cell? ⟨B5, 0, none⟩ = some (.slice Ap lp cp) := at_cell (k0.at h5 Y.b5) 0
  have c3' : (w.setCell ⟨BC, k, none⟩ (.int .i64 (v + 1))).cell? ⟨B3, 0, none⟩ = some (.slice A len cap) := at_cell (k0.at h3 Y.b3) 0
  have old : ∀ {a : Addr} {x : Value}, w0.cell? a = some x → (w.setCell ⟨BC, k, none⟩ (.int .i64 (v + 1))).cell? a = some x := fun {a x} h => by
    have hl := World.block_lt_of_cell? w0 _ h
    have := Y.geB
    rw [World.cell?_setCell_other _ _ _ _ (fun e => by rw [← e] at hl; simp at hl; omega)]
    exact (bel.cell hl).trans h
  have hw : wrap64 (v + 1) = v + 1 := w64 (by omega) (by omega)
  obtain ⟨ad, hA, hsrc⟩ := Y.src k hk
  subst hA
  have cS := old hsrc
  have hl := Y.len_
  have hkl : (k : Int) < (len : Int) := by omega
  clear h3 h5 h9 hB hV hsrc k0 hv
  by_cases hp : k < lp
  · obtain ⟨ad2, hA2, hsp⟩ := Y.srp k hp
    subst hA2
    have cP := old hsp
    have hkp : (k : Int) < (lp : Int) := by omega
    clear hsp old
    cases hpk : pan k with
    | true =>
      rw [hpk] at cP
      rw [if_pos (by simp [fl, hp, hpk])]
      go_enter Try.func9, Try.ntmps9
      go_wp2
      exact ⟨rfl, ⟨_, _, rfl⟩, rfl⟩
    | false =>
      rw [hpk] at cP
      rw [if_neg (by simp [fl, hpk])]
      go_enter Try.func9, Try.ntmps9
      go_wp2
      go_ret
      exact ⟨rfl, rfl⟩
  · have hkp : ¬ (k : Int) < (lp : Int) := by omega
    clear old
    rw [if_neg (by simp [fl, hp])]
    go_enter Try.func9, Try.ntmps9
    go_wp2
    go_ret
    exact ⟨rfl, rfl⟩
/-- asking cell k -/
theorem getO (Y : LayO w0 n A len ans Ap lp pan B3 B5 B9 BC A7 k7 Ls Vs) {k : Nat} (hk : k < n) {c : Nat → Int} {d : Nat → Bool} {w : World} (h : OS w0 n A len cap ans Ap lp cp pan B3 B5 B9 BC A7 k7 Ls Vs c d w) (hcd : c k = if d k = true then 1 else 0) :
    Calls Try.prog 12 #[ptr (Ls.getD k 0)] w (fun e w' => e = .returned (.tuple #[.int .i64 (vl ans lp pan k), .bool (!d k && fl lp pan k)]) ∧ Ch (fun x => x = BC ∨ x = Ls.getD k 0) w w' ∧
      OS w0 n A len cap ans Ap lp cp pan B3 B5 B9 BC A7 k7 Ls Vs (fun j => if j = k then 1 else c j) (fun j => if j = k then true else d j) w') := by
  cases hd : d k with
  | true =>
    have e1 : (fun j => if j = k then 1 else c j) = c := funext fun j => by by_cases e : j = k; subst e; simp [hcd, hd]; simp [e]
    have e2 : (fun j => if j = k then true else d j) = d := funext fun j => by by_cases e : j = k; subst e; simp [hd]; simp [e]
    rw [e1, e2]
    refine (get_ (ptr (Ls.getD k 0)) w (some (vl ans lp pan k)) (fun _ => False) (fun _ => True) (fun _ x => x.elim) (fun _ _ => trivial) (fun w1 hb => ?_)).mono ?_
    · have hh := (h.step hb).hC k hk
      simp only [co, hd, dn, if_true] at hh
      refine (get_done (by decide) w1 hh).mono ?_
      rintro e w' ⟨rfl, hb'⟩
      exact ⟨rfl, Ch.of_below hb' (fun k hk hk' => by omega), trivial⟩
    · rintro e w' ⟨rfl, k1, _⟩
      exact ⟨rfl, k1.mono (fun _ _ x => x.elim), h.step (k1.below (Nat.le_refl _) (fun _ _ x => x))⟩
  | false =>
    have hck : c k = 0 := by rw [hcd, hd]; simp
    have ltB := at_lt h.hB
    have ltC := at_lt (h.hC k hk)
    refine (get_ (ptr (Ls.getD k 0)) w (if fl lp pan k = true then none else some (ans k)) (fun x => x = BC ∨ x = Ls.getD k 0) (fun w' => w'.heap[BC]? = some (.cells (ar .i64 (fun j => if j = k then 1 else c j) n) 3 (0, 0)) ∧ w'.heap[Ls.getD k 0]? = some (co ans lp pan B3 B5 B9 Vs k true))
      (fun x hx => by rcases hx with rfl | rfl <;> assumption) (fun {w2 w3} hc hr => ⟨hc.at hr.1 (by omega), hc.at hr.2 (by omega)⟩) (fun w1 hb => ?_)).mono ?_
    · have h' := h.step hb
      have hh := h'.hC k hk
      simp only [co, hd, dn, Bool.false_eq_true, if_false] at hh
      have h12 := Y.len_
      refine (get_first 9 #[ptr B9, ptr (Vs k), ptr B5, ptr B3] (fun _ => rfl) w1 (if fl lp pan k = true then none else some (ans k)) (· = BC) (fun w' => w'.heap[BC]? = some (.cells (ar .i64 (fun j => if j = k then 1 else c j) n) 3 (0, 0))) hh (fun x hx => ?_) (fun {w2 w3} hc hr => hc.at hr (fun e => Y.cB k hk e.symm)) (fun w2 hc => ?_)).mono ?_
      · subst hx; exact ⟨at_lt h'.hB, fun e => Y.cB k hk e.symm⟩
      · have hB2 := hc.at h'.hB (fun e => Y.cB k hk e.symm)
        refine (clo9 hk Y hck (by decide) w2 (h'.bel.trans (hc.below h'.bel.size (fun x hx e => by have := Y.ge k hk; omega))) (hc.at h'.h3 (fun e => Y.c3 k hk e.symm)) (hc.at h'.h5 (fun e => Y.c5 k hk e.symm)) (hc.at h'.h9 (fun e => Y.c9 k hk e.symm)) hB2 (hc.at (h'.hV k hk) (fun e => Y.cV k k hk hk e.symm))).mono ?_
        rintro e w' ⟨he, rfl⟩
        refine ⟨he, Ch.set _ _ _ rfl, ?_⟩
        have h_ := at_set hB2 k (.int .i64 (0 + 1))
        rw [ar_set _ _ hk] at h_
        exact h_
      · rintro e w' ⟨he, hc, hr, hs⟩
        refine ⟨he, hc, hr, ?_⟩
        rw [hs]
        cases hf : fl lp pan k <;> simp [co, dn, vl, hf, val, fo]
    · rintro e w' ⟨rfl, hc, h1, h2⟩
      refine ⟨?_, hc, h.turn Y hc (fun x hx => ?_) h1 (fun i hi => ?_)⟩
      · cases hf : fl lp pan k <;> simp [vl, hf]
      · rcases hx with rfl | rfl
        · exact .inl rfl
        · exact .inr ⟨k, hk, rfl⟩
      · by_cases e : i = k
        · subst e; simpa using h2
        · simp only [e, if_false]
          refine hc.at (h.hC i hi) (fun hx => ?_)
          rcases hx with hx | hx
          · exact Y.cB i hi hx
          · exact e (Y.inj i k hi hk hx)
theorem OS.cellAt {ad7 : Addr} {c : Nat → Int} {d : Nat → Bool} {w : World} (h : OS w0 n A len cap ans Ap lp cp pan B3 B5 B9 BC (some ad7) k7 Ls Vs c d w) (ln : Ls.length = n) {i : Nat} (hi : i < n) : w.cell? (ad7.add i) = some (ptr (Ls.getD i 0)) := by
  obtain ⟨ad, k, e, hc⟩ := h.sl.get (i := i) (by omega)
  injection e with e1 e2 e3
  injection e1 with e1
  subst e1
  exact hc
structure LTo (n : Nat) (B3 B5 B9 BC : Nat) (A7 : Option Addr) (k7 : Nat) (Ls : List Nat) (Vs : Nat → Nat) (BW : Nat) : Prop where
  b3 : B3 < BW
  b5 : B5 < BW
  b9 : B9 < BW
  bB : BC < BW
  bV : ∀ i, i < n → Vs i < BW
  bC : ∀ i, i < n → Ls.getD i 0 < BW
  row : ∀ k, (Value.slice A7 n k7).ownBlock = some k → k < BW
theorem OS.lt {c : Nat → Int} {d : Nat → Bool} {w : World} (h : OS w0 n A len cap ans Ap lp cp pan B3 B5 B9 BC A7 k7 Ls Vs c d w) : LTo n B3 B5 B9 BC A7 k7 Ls Vs w.heap.size :=
  ⟨at_lt h.h3, at_lt h.h5, at_lt h.h9, at_lt h.hB, fun i hi => at_lt (h.hV i hi), fun i hi => at_lt (h.hC i hi), fun k hk => by obtain ⟨cs, hcs⟩ := h.sl.own hk; exact at_lt hcs⟩
theorem OS.far {BW : Nat} (l : LTo n B3 B5 B9 BC A7 k7 Ls Vs BW) (hb : w0.heap.size ≤ BW) {c : Nat → Int} {d : Nat → Bool} {w w' : World} (h : OS w0 n A len cap ans Ap lp cp pan B3 B5 B9 BC A7 k7 Ls Vs c d w) (hc : Ch (· = BW) w w') : OS w0 n A len cap ans Ap lp cp pan B3 B5 B9 BC A7 k7 Ls Vs c d w' :=
  ⟨h.bel.trans (hc.below h.bel.size (fun k hk e => by omega)), hc.at h.h3 (fun e => by have := l.b3; omega), hc.at h.h5 (fun e => by have := l.b5; omega), hc.at h.h9 (fun e => by have := l.b9; omega), hc.at h.hB (fun e => by have := l.bB; omega), h.sl.ch2 hc (fun k hk e => by have := l.row k hk; omega),
    fun i hi => hc.at (h.hV i hi) (fun e => by have := l.bV i hi; omega), fun i hi => hc.at (h.hC i hi) (fun e => by have := l.bC i (by omega); omega)⟩
/-- calls, asked, both said by one function -/
def OA (w0 : World) (n : Nat) (A : Option Addr) (len cap : Nat) (ans : Nat → Int) (Ap : Option Addr) (lp cp : Nat) (pan : Nat → Bool) (B3 B5 B9 BC : Nat) (A7 : Option Addr) (k7 : Nat) (Ls : List Nat) (Vs : Nat → Nat) (BA : Nat) (a : Nat → Bool) (w : World) : Prop :=
  OS w0 n A len cap ans Ap lp cp pan B3 B5 B9 BC A7 k7 Ls Vs (fun j => if a j = true then 1 else 0) a w ∧ w.heap[BA]? = some (.cells (arb a n) 4 (0, 0))
theorem OA.step {BA : Nat} {a : Nat → Bool} {w w' : World} (h : OA w0 n A len cap ans Ap lp cp pan B3 B5 B9 BC A7 k7 Ls Vs BA a w) (hb : Below w.heap.size w w') : OA w0 n A len cap ans Ap lp cp pan B3 B5 B9 BC A7 k7 Ls Vs BA a w' :=
  ⟨h.1.step hb, (hb.block _ (at_lt h.2)).trans h.2⟩
theorem stays_oa (BA : Nat) (a : Nat → Bool) : Rgw.Stays (fun w => OA w0 n A len cap ans Ap lp cp pan B3 B5 B9 BC A7 k7 Ls Vs BA a w) := fun _ _ hb h => h.step hb
end

end Go.Proofs.Ythnkmadipbfmaaa.LzO
