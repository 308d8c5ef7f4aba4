/- Plain law of the passes: an array of forty rows of forty, said by a function; the passes' sizes add up. -/
import Derived.Test.YtkagmelijdfdiaaPRowsPassesx4
import Derived.Test.YtkagmelijdfdiaaMath
namespace Go.Proofs.Ytkagmelijdfdiaa.PsA
open Go.RowKit Go.Proofs.YtkagmelijdfdiaaW.PrintWords Go.Proofs.YtkagmelijdfdiaaW.PrintLast Go.Proofs.YtkagmelijdfdiaaW.PrintMore Go.Proofs.Ytkagmelijdfdiaa.PRowsPasses Go.Proofs.Ytkagmelijdfdiaa.M
attribute [local go_sem] max2_int min2_int max_two min_two max_three min_three max_four min_four
set_option linter.unusedVariables false
set_option linter.unusedSimpArgs false

def ab (z : Nat → Nat → Bool) : Array Value := ((List.range 1600).map fun c => Value.bool (z (c / 40) (c % 40))).toArray
theorem ab_get (z : Nat → Nat → Bool) {x y : Nat} (hx : x < 40) (hy : y < 40) : (ab z)[x * 40 + y]? = some (.bool (z x y)) := by
  have h1 : (x * 40 + y) / 40 = x := by omega
  have h2 : (x * 40 + y) % 40 = y := by omega
  have h3 : x * 40 + y < 1600 := by omega
  simp [ab, h1, h2, h3]
theorem ab_set (z : Nat → Nat → Bool) {x y : Nat} (hx : x < 40) (hy : y < 40) (u : Bool) : (ab z).setIfInBounds (x * 40 + y) (.bool u) = ab (fun a b => if a = x ∧ b = y then u else z a b) := by
  apply Array.ext_getElem?
  intro c
  have h3 : x * 40 + y < 1600 := by omega
  by_cases e : x * 40 + y = c
  · subst e
    have h1 : (x * 40 + y) / 40 = x := by omega
    have h2 : (x * 40 + y) % 40 = y := by omega
    simp [ab, h1, h2, h3]
  · rw [Array.getElem?_setIfInBounds_ne e]
    by_cases hc : c < 1600
    · have : ¬ (c / 40 = x ∧ c % 40 = y) := fun h => e (by omega)
      simp [ab, hc, this]
    · simp [ab, hc]
/-- one pass of the table, of a size -/
def pss (w h : Int) (x y dx dy : Int) : List S41 := if w > x ∧ h > y then [⟨x, y, dx, dy, (w - x + dx - 1).tdiv dx, (h - y + dy - 1).tdiv dy⟩] else []
def ps (w h : Int) : List S41 := pss w h 0 0 8 8 ++ pss w h 4 0 8 8 ++ pss w h 0 4 4 8 ++ pss w h 2 0 4 4 ++ pss w h 0 2 2 4 ++ pss w h 1 0 2 2 ++ pss w h 0 1 1 2
def lst (s : S41) : List Int := [s.f0, s.f1, s.f2, s.f3, s.f4, s.f5]
theorem lst_inj {a b : S41} (h : lst a = lst b) : a = b := by
  cases a; cases b; simp [lst] at h; simp [h]
theorem map_inj : ∀ {l m : List S41}, l.map lst = m.map lst → l = m
  | [], [], _ => rfl
  | [], _ :: _, h => by simp at h
  | _ :: _, [], h => by simp at h
  | a :: l, b :: m, h => by
    rw [List.map_cons, List.map_cons] at h
    injection h with h1 h2
    rw [lst_inj h1, map_inj h2]
def okP (w h : Nat) : Bool := match rows_Passes.f 20 (w : Int) (h : Int) with | some l => l.map lst == (ps w h).map lst | none => false
theorem ps_f' : ((List.range 40).all fun w => (List.range 40).all fun h => okP w h) = true := by decide +kernel
theorem ps_f {w h : Nat} (hw : w < 40) (hh : h < 40) : rows_Passes.f 20 (w : Int) (h : Int) = some (ps w h) := by
  have h1 := List.all_eq_true.1 (List.all_eq_true.1 ps_f' w (List.mem_range.2 hw)) h (List.mem_range.2 hh)
  unfold okP at h1
  cases e : rows_Passes.f 20 (w : Int) (h : Int) with
  | none => rw [e] at h1; cases h1
  | some l => rw [e] at h1; rw [map_inj (eq_of_beq h1)]
theorem ps_sum : ∀ w : Fin 40, ∀ h : Fin 40, ((ps w.val h.val).map fun s => s.f4 * s.f5).sum = (w.val : Int) * h.val := by decide +kernel

end Go.Proofs.Ytkagmelijdfdiaa.PsA
