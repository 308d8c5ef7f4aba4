/- LazyNests: what memory holds of cells that ask one another. -/
import Derived.Test.YthnkmadipbfmaaaLzJ
namespace Go.Proofs.Ythnkmadipbfmaaa.LzK
open Go.RowKit Go.Proofs.YthnkmadipbfmaaaW.PrintWords Go.Proofs.YthnkmadipbfmaaaW.PrintLast Go.Proofs.YthnkmadipbfmaaaW.PrintMore Go.Proofs.Ythnkmadipbfmaaa.M Go.Proofs.Ythnkmadipbfmaaa.Reg Go.Proofs.Ythnkmadipbfmaaa.Rgw Go.Proofs.Ythnkmadipbfmaaa.Rwd Go.Proofs.Ythnkmadipbfmaaa.Chp Go.Proofs.Ythnkmadipbfmaaa.LzA Go.Proofs.Ythnkmadipbfmaaa.LzB Go.Proofs.Ythnkmadipbfmaaa.LzC Go.Proofs.Ythnkmadipbfmaaa.LzD Go.Proofs.Ythnkmadipbfmaaa.LzE Go.Proofs.Ythnkmadipbfmaaa.LzF Go.Proofs.Ythnkmadipbfmaaa.LzG Go.Proofs.Ythnkmadipbfmaaa.LzJ
attribute [local go_sem] max2_mx min2_mn max_two min_two max_three min_three max_four min_four
set_option linter.unusedVariables false
set_option linter.unusedSimpArgs false

def cntd (d : Nat → Bool) : Nat → Int
  | 0 => 0
  | k + 1 => cntd d k + (if d k = true then 1 else 0)
theorem cntd_congr {d d' : Nat → Bool} : ∀ {k : Nat}, (∀ j, j < k → d j = d' j) → cntd d k = cntd d' k
  | 0, _ => rfl
  | k + 1, h => by rw [cntd, cntd, cntd_congr (fun j hj => h j (by omega)), h k (by omega)]
theorem cntd_all {d : Nat → Bool} : ∀ {k : Nat}, (∀ j, j < k → d j = true) → cntd d k = k
  | 0, _ => rfl
  | k + 1, h => by rw [cntd, cntd_all (fun j hj => h j (by omega)), if_pos (h k (by omega))]; omega
theorem cntd_split {d d' : Nat → Bool} {i : Nat} (h : ∀ j, i < j → d j = d' j) : ∀ {r : Nat}, i < r → cntd d r - cntd d' r = cntd d (i + 1) - cntd d' (i + 1)
  | 0, hr => by omega
  | r + 1, hr => by
    by_cases e : r = i
    · subst e; rfl
    · have := cntd_split h (r := r) (by omega)
      rw [cntd, cntd, h r (by omega)]; omega
theorem cntd_b (d : Nat → Bool) : ∀ k : Nat, 0 ≤ cntd d k ∧ cntd d k ≤ k
  | 0 => ⟨by simp [cntd], by simp [cntd]⟩
  | k + 1 => by have := cntd_b d k; rw [cntd]; split <;> omega
theorem cntd_le (d : Nat → Bool) {k : Nat} : ∀ {i : Nat}, k ≤ i → 0 ≤ cntd d i - cntd d k ∧ cntd d i - cntd d k ≤ (i : Int) - k
  | 0, h => by obtain rfl : k = 0 := by omega
               simp
  | i + 1, h => by
    by_cases e : k = i + 1
    · subst e; omega
    · have := cntd_le d (k := k) (i := i) (by omega)
      rw [cntd]; split <;> omega
/-- what each cell tells: sums of those ahead of it -/
def sm (ans : Nat → Int) : Nat → Int
  | 0 => 0
  | k + 1 => sm ans k + ((ans k).tmod 1099511627776 + sm ans k).tmod 1099511627776
def tell (ans : Nat → Int) (i : Nat) : Int := ((ans i).tmod 1099511627776 + sm ans i).tmod 1099511627776
theorem tm (x : Int) : -1099511627776 < x.tmod 1099511627776 ∧ x.tmod 1099511627776 < 1099511627776 := ⟨Int.lt_tmod_of_pos x (by decide), Int.tmod_lt_of_pos x (by decide)⟩
theorem sm_b (ans : Nat → Int) : ∀ k : Nat, -(k * 1099511627776 : Int) ≤ sm ans k ∧ sm ans k ≤ k * 1099511627776
  | 0 => ⟨by simp [sm], by simp [sm]⟩
  | k + 1 => by
    have h := sm_b ans k
    have := tm ((ans k).tmod 1099511627776 + sm ans k)
    rw [sm]; omega
theorem tell_b (ans : Nat → Int) (i : Nat) : -1099511627776 < tell ans i ∧ tell ans i < 1099511627776 := tm _
def dn (b : Bool) : Int := if b = true then 1 else 0
section
variable (w0 : World) (n : Nat) (A : Option Addr) (len cap : Nat) (ans : Nat → Int) (B2 B6 B7 : Nat) (A7 : Option Addr) (k7 : Nat) (Ls : List Nat) (Vs : Nat → Nat)
/-- the closure of cell i -/
def fv (B2 B6 B7 : Nat) (Vs : Nat → Nat) (i : Nat) : Value := .func (.func 13) #[] #[ptr B6, ptr B2, ptr (Vs i), ptr B7]
def cl (i : Nat) (b : Bool) : Obj := cel (fv B2 B6 B7 Vs i) (dn b) 0 (.int .u32 0) (dn b) (.int .i64 (if b = true then tell ans i else 0))
structure NS (r : Nat) (done : Nat → Bool) (cnt : Int) (w : World) : Prop where
  bel : Below w0.heap.size w0 w
  h2 : w.heap[B2]? = some (.cells #[.slice A len cap] 22 (0, 0))
  h6 : w.heap[B6]? = some (.cells #[.int .i64 cnt] 3 (0, 0))
  h7 : w.heap[B7]? = some (.cells #[.slice A7 n k7] 25 (0, 0))
  sl : SL w0.heap.size w (.slice A7 n k7) Ls
  hV : ∀ i, i < n → w.heap[Vs i]? = some (.cells #[.int .i64 i] 3 (0, 0))
  hC : ∀ i, i < r → w.heap[Ls.getD i 0]? = some (cl ans B2 B6 B7 Vs i (done i))
/-- what does not turn -/
structure Lay : Prop where
  ln : Ls.length = n
  inj : ∀ i j, i < n → j < n → Ls.getD i 0 = Ls.getD j 0 → i = j
  c2 : ∀ i, i < n → Ls.getD i 0 ≠ B2
  c6 : ∀ i, i < n → Ls.getD i 0 ≠ B6
  c7 : ∀ i, i < n → Ls.getD i 0 ≠ B7
  cV : ∀ i j, i < n → j < n → Ls.getD i 0 ≠ Vs j
  b26 : B2 ≠ B6
  b76 : B7 ≠ B6
  v6 : ∀ i, i < n → Vs i ≠ B6
  row : ∀ k, (Value.slice A7 n k7).ownBlock = some k → k ≠ B6 ∧ ∀ i, i < n → k ≠ Ls.getD i 0
  ge : ∀ i, i < n → w0.heap.size ≤ Ls.getD i 0
  ge6 : w0.heap.size ≤ B6
  src : ∀ i, i < n → ∃ ad, A = some ad ∧ w0.cell? (ad.add i) = some (.int .i64 (ans i))
  len_ : n ≤ len ∧ n ≤ 12
/-- the blocks that asking cell i may turn -/
def SB (i : Nat) (x : Nat) : Prop := x = B6 ∨ ∃ j, j ≤ i ∧ x = Ls.getD j 0
def SC (i : Nat) (x : Nat) : Prop := x = B6 ∨ ∃ j, j < i ∧ x = Ls.getD j 0
end
section
variable {w0 : World} {n : Nat} {A : Option Addr} {len cap : Nat} {ans : Nat → Int} {B2 B6 B7 : Nat} {A7 : Option Addr} {k7 : Nat} {Ls : List Nat} {Vs : Nat → Nat}
/-- one cell's asking, or anything that turns the count and cells alone -/
theorem NS.turn {r r' : Nat} {done done' : Nat → Bool} {cnt cnt' : Int} {w w' : World} {S : Nat → Prop} (h : NS w0 n A len cap ans B2 B6 B7 A7 k7 Ls Vs r done cnt w) (Y : Lay w0 n A len ans B2 B6 B7 A7 k7 Ls Vs) (hc : Ch S w w') (hS : ∀ x, S x → x = B6 ∨ ∃ j, j < n ∧ x = Ls.getD j 0)
    (h6 : w'.heap[B6]? = some (.cells #[.int .i64 cnt'] 3 (0, 0))) (hC : ∀ i, i < r' → w'.heap[Ls.getD i 0]? = some (cl ans B2 B6 B7 Vs i (done' i))) :
    NS w0 n A len cap ans B2 B6 B7 A7 k7 Ls Vs r' done' cnt' w' := by
  have out : ∀ x, x ≠ B6 → (∀ j, j < n → Ls.getD j 0 ≠ x) → ¬ S x := fun x h6' hj hs => by
    rcases hS x hs with e | ⟨j, hjn, e⟩
    · exact h6' e
    · exact hj j hjn e.symm
  refine ⟨h.bel.trans (hc.below h.bel.size (fun k hk hs => ?_)), hc.at h.h2 (out _ Y.b26 Y.c2), h6, hc.at h.h7 (out _ Y.b76 Y.c7), h.sl.ch2 hc (fun k hk => out k (Y.row k hk).1 (fun j hj e => (Y.row k hk).2 j hj e.symm)), fun i hi => hc.at (h.hV i hi) (out _ (Y.v6 i hi) (fun j hj => Y.cV j i hj hi)), hC⟩
  have := Y.ge6
  rcases hS k hs with rfl | ⟨j, hj, rfl⟩
  · omega
  · have := Y.ge j hj; omega
theorem NS.step {r : Nat} {done : Nat → Bool} {cnt : Int} {w w' : World} (h : NS w0 n A len cap ans B2 B6 B7 A7 k7 Ls Vs r done cnt w) (hb : Below w.heap.size w w') : NS w0 n A len cap ans B2 B6 B7 A7 k7 Ls Vs r done cnt w' := by
  have k : Ch (fun _ => False) w w' := Ch.of_below hb (fun k hk hk' => by omega)
  exact ⟨Reg.below_then' h.bel hb, k.at h.h2 id, k.at h.h6 id, k.at h.h7 id, h.sl.below hb, fun i hi => k.at (h.hV i hi) id, fun i hi => k.at (h.hC i hi) id⟩
theorem NS.less {r r' : Nat} {done : Nat → Bool} {cnt : Int} {w : World} (h : NS w0 n A len cap ans B2 B6 B7 A7 k7 Ls Vs r done cnt w) (hr : r' ≤ r) : NS w0 n A len cap ans B2 B6 B7 A7 k7 Ls Vs r' done cnt w :=
  ⟨h.bel, h.h2, h.h6, h.h7, h.sl, h.hV, fun i hi => h.hC i (by omega)⟩
theorem NS.same {r : Nat} {done done' : Nat → Bool} {cnt : Int} {w : World} (h : NS w0 n A len cap ans B2 B6 B7 A7 k7 Ls Vs r done cnt w) (hd : ∀ i, i < r → done' i = done i) : NS w0 n A len cap ans B2 B6 B7 A7 k7 Ls Vs r done' cnt w :=
  ⟨h.bel, h.h2, h.h6, h.h7, h.sl, h.hV, fun i hi => by rw [hd i hi]; exact h.hC i hi⟩
/-- what asking cell i does -/
def Got (w0 : World) (n : Nat) (A : Option Addr) (len cap : Nat) (ans : Nat → Int) (B2 B6 B7 : Nat) (A7 : Option Addr) (k7 : Nat) (Ls : List Nat) (Vs : Nat → Nat) (i : Nat) (r : Nat) (done : Nat → Bool) (cnt : Int) (w w' : World) : Prop :=
  Ch (SB B6 Ls i) w w' ∧ ∃ done', NS w0 n A len cap ans B2 B6 B7 A7 k7 Ls Vs r done' (cnt + (cntd done' (i + 1) - cntd done (i + 1))) w' ∧ (∀ k, done k = true → done' k = true) ∧ done' i = true ∧ ∀ k, i < k → done' k = done k
/-- asked among more cells -/
theorem Got.more {i r : Nat} {done : Nat → Bool} {cnt : Int} {w w' : World} (h : NS w0 n A len cap ans B2 B6 B7 A7 k7 Ls Vs r done cnt w) (Y : Lay w0 n A len ans B2 B6 B7 A7 k7 Ls Vs) (hi : i < r) (hr : r ≤ n) (g : Got w0 n A len cap ans B2 B6 B7 A7 k7 Ls Vs i (i + 1) done cnt w w') :
    Got w0 n A len cap ans B2 B6 B7 A7 k7 Ls Vs i r done cnt w w' := by
  obtain ⟨hc, d', hn, h1, h2, h3⟩ := g
  refine ⟨hc, d', h.turn Y hc (fun x hx => ?_) hn.h6 (fun j hj => ?_), h1, h2, h3⟩
  · rcases hx with rfl | ⟨j, hj, rfl⟩
    · exact .inl rfl
    · exact .inr ⟨j, by omega, rfl⟩
  · by_cases hji : j < i + 1
    · exact hn.hC j hji
    · rw [h3 j (by omega)]
      refine hc.at (h.hC j hj) (fun hs => ?_)
      rcases hs with e | ⟨k, hk, e⟩
      · exact Y.c6 j (by omega) e
      · have := Y.inj j k (by omega) (by omega) e; omega
end

end Go.Proofs.Ythnkmadipbfmaaa.LzK
