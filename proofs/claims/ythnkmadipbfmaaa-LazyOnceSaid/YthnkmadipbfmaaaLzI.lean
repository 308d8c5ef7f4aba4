/- A slice of acts, opened. -/
import Derived.Test.YthnkmadipbfmaaaRows
import Derived.Test.YthnkmadipbfmaaaMath
import Derived.Test.YthnkmadipbfmaaaRwd
import Derived.Test.YthnkmadipbfmaaaLpj
import Derived.Test.YthnkmadipbfmaaaChp
import Derived.Deep.Slices
import Derived.ChangeArms
namespace Go.Proofs.Ythnkmadipbfmaaa.LzI
open Go.RowKit Go.Proofs.YthnkmadipbfmaaaW.PrintWords Go.Proofs.YthnkmadipbfmaaaW.PrintLast Go.Proofs.YthnkmadipbfmaaaW.PrintMore Go.Proofs.Ythnkmadipbfmaaa.M Go.Proofs.Ythnkmadipbfmaaa.Reg Go.Proofs.Ythnkmadipbfmaaa.Rgw Go.Proofs.Ythnkmadipbfmaaa.Rwd Go.Proofs.Ythnkmadipbfmaaa.Chp
attribute [local go_sem] max2_mx min2_mn max_two min_two max_three min_three max_four min_four
set_option linter.unusedVariables false
set_option linter.unusedSimpArgs false

theorem add_n (a : Addr) {n : Nat} (h : n ≠ 0) : a.add n = ⟨a.block, a.off + n, none⟩ := by unfold Addr.add; split <;> simp_all
theorem open_act {H : Type} {enc : TypeId × Value → H} {W : World} {base : Nat} {spare : Nat → Bool} {held : Bool} {fuel : Nat} {a : Option Addr} {len cap : Nat} {x : DataW H × List MemPlace} (h : DataW.trod enc Try.prog W base spare held fuel 43 (Value.slice a len cap).cells.toList = some x) :
    ∃ f : Nat → Int × Int × Int, (∀ i, i < len → ∃ ad, a = some ad ∧ W.cell? (ad.add (i * 3)) = some (.int .i64 (f i).1) ∧ W.cell? ⟨(ad.add (i * 3)).block, (ad.add (i * 3)).off + 1, none⟩ = some (.int .i64 (f i).2.1) ∧ W.cell? ⟨(ad.add (i * 3)).block, (ad.add (i * 3)).off + 2, none⟩ = some (.int .i64 (f i).2.2)) ∧ len ≤ maxLen := by
  have ce : Try.prog.cellsOf 47 = 3 := by kernel_rfl
  rcases Go.Deep.open_slice Try.underlying43 h with ⟨e, _⟩ | ⟨ad, l, c, m, n, D, Pl, e, hb, hl, hm, hmm, _, hx⟩
  · simp [Value.cells] at e
    obtain ⟨rfl, rfl, rfl⟩ := e
    exact ⟨fun _ => (0, 0, 0), fun i hi => absurd hi (Nat.not_lt_zero _), Nat.zero_le _⟩
  · simp [Value.cells] at e
    obtain ⟨rfl, rfl, rfl⟩ := e
    have hlm : len ≤ m := by rw [hmm]; split <;> omega
    have each : ∀ i, ∃ t : Int × Int × Int, i < len → W.cell? (ad.add (i * 3)) = some (.int .i64 t.1) ∧ W.cell? ⟨(ad.add (i * 3)).block, (ad.add (i * 3)).off + 1, none⟩ = some (.int .i64 t.2.1) ∧ W.cell? ⟨(ad.add (i * 3)).block, (ad.add (i * 3)).off + 2, none⟩ = some (.int .i64 t.2.2) := by
      intro i
      by_cases hi : i < len
      · obtain ⟨cs', h1, h2⟩ := hx i (by omega)
        rw [ce] at h1
        obtain ⟨_, hlen, hcell⟩ := World.cells?_some h1
        obtain ⟨xs, k, _, _, _, hxl, hf⟩ := DataW.trod_struct Try.underlying47 h2
        have e0 := hcell 0 (by omega)
        have e1 := hcell 1 (by omega)
        have e2 := hcell 2 (by omega)
        rw [add_n _ (by decide)] at e1 e2
        match xs, hxl, cs', hlen with
        | [y0, y1, y2], _, [v0, v1, v2], _ =>
          have c3 : Try.prog.cellsOf 3 = 1 := by kernel_rfl
          have g0 := hf 0 _ rfl
          have g1 := hf 1 _ rfl
          have g2 := hf 2 _ rfl
          simp [c3] at g0 g1 g2
          obtain ⟨p, q0, _, _⟩ := DataW.trod_int Try.underlying3 g0
          obtain ⟨q, q1, _, _⟩ := DataW.trod_int Try.underlying3 g1
          obtain ⟨r, q2, _, _⟩ := DataW.trod_int Try.underlying3 g2
          simp at q0 q1 q2
          subst q0 q1 q2
          have a0 : (ad.add (i * 3)).add 0 = ad.add (i * 3) := by unfold Addr.add; split <;> simp_all
          rw [a0] at e0
          exact ⟨(p, q, r), fun _ => ⟨by simpa using e0, by simpa using e1, by simpa using e2⟩⟩
      · exact ⟨(0, 0, 0), fun h => absurd h hi⟩
    have hch := fun i => Classical.choose_spec (each i)
    exact ⟨fun i => Classical.choose (each i), fun i hi => ⟨ad, rfl, hch i hi⟩, by omega⟩
theorem open_bools {H : Type} {enc : TypeId × Value → H} {W : World} {base : Nat} {spare : Nat → Bool} {held : Bool} {fuel : Nat} {a : Option Addr} {len cap : Nat} {x : DataW H × List MemPlace} (h : DataW.trod enc Try.prog W base spare held fuel 23 (Value.slice a len cap).cells.toList = some x) :
    ∃ f : Nat → Bool, (∀ i, i < len → ∃ ad, a = some ad ∧ W.cell? (ad.add i) = some (.bool (f i))) ∧ len ≤ maxLen := by
  have ce : Try.prog.cellsOf 4 = 1 := by kernel_rfl
  rcases Go.Deep.open_slice Try.underlying23 h with ⟨e, _⟩ | ⟨ad, l, c, m, n, D, Pl, e, hb, hl, hm, hmm, _, hx⟩
  · simp [Value.cells] at e
    obtain ⟨rfl, rfl, rfl⟩ := e
    exact ⟨fun _ => false, fun i hi => absurd hi (Nat.not_lt_zero _), Nat.zero_le _⟩
  · simp [Value.cells] at e
    obtain ⟨rfl, rfl, rfl⟩ := e
    have hlm : len ≤ m := by rw [hmm]; split <;> omega
    have each : ∀ i, ∃ b : Bool, i < len → W.cell? (ad.add i) = some (.bool b) := by
      intro i
      by_cases hi : i < len
      · obtain ⟨cs', h1, h2⟩ := hx i (by omega)
        rw [ce] at h1
        obtain ⟨_, hlen, hcell⟩ := World.cells?_some h1
        obtain ⟨b, hb, _⟩ := DataW.trod_bool Try.underlying4 h2
        subst hb
        have e0 := hcell 0 (by omega)
        have a0 : (ad.add (i * 1)).add 0 = ad.add i := by rw [Nat.mul_one]; unfold Addr.add; split <;> simp_all
        rw [a0] at e0
        exact ⟨b, fun _ => by simpa using e0⟩
      · exact ⟨false, fun h => absurd h hi⟩
    have hch := fun i => Classical.choose_spec (each i)
    exact ⟨fun i => Classical.choose (each i), fun i hi => ⟨ad, rfl, hch i hi⟩, by omega⟩

end Go.Proofs.Ythnkmadipbfmaaa.LzI
