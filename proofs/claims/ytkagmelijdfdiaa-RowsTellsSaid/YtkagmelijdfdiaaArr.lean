/- Arrays and rows of whole numbers as parameters: what a value of such a type is. -/
import Derived.ProofKit
import Derived.OpenShut
import Derived.WideShapes
namespace Go.Proofs.Ytkagmelijdfdiaa.Arr
open Go.WideShapes Go.ChangeShapes

def IsRow (k : IntKind) (w : World) (a : Option Addr) (len cap : Nat) (zs : List Int) : Prop :=
  (a = none ∧ len = 0 ∧ cap = 0 ∧ zs = []) ∨
  ∃ x, a = some x ∧ len ≤ cap ∧ cap ≤ maxLen ∧ zs.length = cap ∧ (∀ i, i < zs.length → w.cell? (x.add i) = some (.int k (zs.getD i 0))) ∧ ∀ n ∈ zs, (Lit.int k n).wf = true

theorem okWide_arr {P : Program} {w : World} {r : Reach} {b0 : Nat} {t e : TypeId} {n : Nat} {v : Value} (ht : P.underlying t = some (.array n e)) (h : Value.okWide P w r b0 t v) : ∃ cs, v = .agg cs ∧ cs.size = P.cellsOf t := by
  simp only [Value.okWide, ht] at h
  obtain ⟨cs, h1, h2, _⟩ := h
  exact ⟨cs, h1, h2⟩

theorem list_ints {l : List Value} (h : ∀ v ∈ l, ∃ x : Int, v = .int .i64 x ∧ (Lit.int .i64 x).wf = true) :
    ∃ zs : List Int, zs.length = l.length ∧ l = zs.map (Value.int .i64) ∧ ∀ z ∈ zs, (Lit.int .i64 z).wf = true := by
  induction l with
  | nil => exact ⟨[], rfl, rfl, by simp⟩
  | cons v l ih =>
    obtain ⟨x, rfl, hx⟩ := h v (by simp)
    obtain ⟨zs, h1, h2, h3⟩ := ih (fun u hu => h u (by simp [hu]))
    refine ⟨x :: zs, by simp [h1], by simp [← h2], ?_⟩
    intro z hz
    rcases List.mem_cons.mp hz with rfl | hz
    · exact hx
    · exact h3 z hz

theorem open_arr {H : Type} {enc : TypeId × Value → H} {P : Program} {w : World} {base : Nat} {spare : Nat → Bool} {held : Bool} {r : Reach} {b0 : Nat} {t e : TypeId} {n : Nat} {v : Value} {d : DataW H} {p : List MemPlace}
    (ht : P.underlying t = some (.array n e)) (he : P.underlying e = some (.int .i64)) (hC : P.cellsOf t = n) (hE : P.cellsOf e = 1)
    (hv : Value.okWide P w r b0 t v) (h : DataW.Trod enc P w base spare held t v d p) :
    ∃ zs : List Int, zs.length = n ∧ v = .agg (zs.map (Value.int .i64)).toArray ∧ ∀ z ∈ zs, (Lit.int .i64 z).wf = true := by
  obtain ⟨cs, rfl, hsz⟩ := okWide_arr ht hv
  obtain ⟨fuel, hf⟩ := h
  obtain ⟨xs, m, _, _, hl, hx, hi⟩ := DataW.trod_array ht hf
  have hc : cs.toList.length = n := by simpa [hC] using hsz
  have hall : ∀ v ∈ cs.toList, ∃ x : Int, v = .int .i64 x ∧ (Lit.int .i64 x).wf = true := by
    intro v hv
    obtain ⟨i, hilt, rfl⟩ := List.getElem_of_mem hv
    have h1 := hi i (by omega)
    rw [hE] at h1
    simp only [Value.cells, Nat.mul_one] at h1
    rw [List.getElem?_eq_getElem (by omega : i < xs.length)] at h1
    have e1 : ((cs.toList.drop i).take 1) = [cs.toList[i]] := by
      rw [List.drop_eq_getElem_cons hilt]; rfl
    rw [e1] at h1
    obtain ⟨a, e0, _, wa⟩ := DataW.trod_int he h1
    simp at e0
    exact ⟨a, by simpa using e0, wa⟩
  obtain ⟨zs, h1, h2, h3⟩ := list_ints hall
  refine ⟨zs, by omega, ?_, h3⟩
  rw [← h2]

end Go.Proofs.Ytkagmelijdfdiaa.Arr
