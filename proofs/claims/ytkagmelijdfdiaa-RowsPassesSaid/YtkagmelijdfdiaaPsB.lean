/- Plain law of the passes: which cells are set ahead of a place, and what one more place changes. -/
import Derived.Test.YtkagmelijdfdiaaPsA
namespace Go.Proofs.Ytkagmelijdfdiaa.PsB
open Go.RowKit Go.Proofs.YtkagmelijdfdiaaW.PrintWords Go.Proofs.YtkagmelijdfdiaaW.PrintLast Go.Proofs.YtkagmelijdfdiaaW.PrintMore Go.Proofs.Ytkagmelijdfdiaa.PRowsPasses Go.Proofs.Ytkagmelijdfdiaa.M Go.Proofs.Ytkagmelijdfdiaa.PsA
attribute [local go_sem] max2_int min2_int max_two min_two max_three min_three max_four min_four
set_option linter.unusedVariables false
set_option linter.unusedSimpArgs false

def inl (q : S41) (x y : Nat) : Bool := ((x : Int) % q.f2 == q.f0) && ((y : Int) % q.f3 == q.f1)
def zA (w h : Nat) (P : List S41) : Nat → Nat → Bool := fun x y => decide (x < w) && decide (y < h) && P.any (fun q => inl q x y)
def zB (w h : Nat) (P : List S41) (s : S41) (j i : Int) : Nat → Nat → Bool := fun x y => decide (x < w) && decide (y < h) && (P.any (fun q => inl q x y) || (inl s x y && (decide ((y : Int) < s.f1 + j * s.f3) || (decide ((y : Int) = s.f1 + j * s.f3) && decide ((x : Int) < s.f0 + i * s.f2)))))
def cl (s : S41) : Nat := if s.f3 = 2 then (if s.f2 = 1 then 6 else 5) else if s.f3 = 4 then (if s.f2 = 2 then 4 else 3) else if s.f2 = 4 then 2 else if s.f0 = 4 then 1 else 0
/-- a row of the table, for a size -/
def Is (w h : Nat) (s : S41) : Prop := ∃ X Y DX DY : Int, s = ⟨X, Y, DX, DY, ((w : Int) - X + DX - 1).tdiv DX, ((h : Int) - Y + DY - 1).tdiv DY⟩ ∧ (w : Int) > X ∧ (h : Int) > Y ∧
  ((X = 0 ∧ Y = 0 ∧ DX = 8 ∧ DY = 8) ∨ (X = 4 ∧ Y = 0 ∧ DX = 8 ∧ DY = 8) ∨ (X = 0 ∧ Y = 4 ∧ DX = 4 ∧ DY = 8) ∨ (X = 2 ∧ Y = 0 ∧ DX = 4 ∧ DY = 4) ∨ (X = 0 ∧ Y = 2 ∧ DX = 2 ∧ DY = 4) ∨ (X = 1 ∧ Y = 0 ∧ DX = 2 ∧ DY = 2) ∨ (X = 0 ∧ Y = 1 ∧ DX = 1 ∧ DY = 2))
theorem pss_is {w h : Nat} {X Y DX DY : Int} {s : S41} (hs : s ∈ pss w h X Y DX DY)
    (hr : (X = 0 ∧ Y = 0 ∧ DX = 8 ∧ DY = 8) ∨ (X = 4 ∧ Y = 0 ∧ DX = 8 ∧ DY = 8) ∨ (X = 0 ∧ Y = 4 ∧ DX = 4 ∧ DY = 8) ∨ (X = 2 ∧ Y = 0 ∧ DX = 4 ∧ DY = 4) ∨ (X = 0 ∧ Y = 2 ∧ DX = 2 ∧ DY = 4) ∨ (X = 1 ∧ Y = 0 ∧ DX = 2 ∧ DY = 2) ∨ (X = 0 ∧ Y = 1 ∧ DX = 1 ∧ DY = 2)) : Is w h s := by
  unfold pss at hs
  split at hs
  · rename_i hc
    simp only [List.mem_singleton] at hs
    exact ⟨X, Y, DX, DY, hs, hc.1, hc.2, hr⟩
  · simp at hs
theorem ps_is {w h : Nat} {s : S41} (hs : s ∈ ps w h) : Is w h s := by
  unfold ps at hs
  simp only [List.mem_append] at hs
  rcases hs with (((((hs | hs) | hs) | hs) | hs) | hs) | hs
  · exact pss_is hs (.inl ⟨rfl, rfl, rfl, rfl⟩)
  · exact pss_is hs (.inr (.inl ⟨rfl, rfl, rfl, rfl⟩))
  · exact pss_is hs (.inr (.inr (.inl ⟨rfl, rfl, rfl, rfl⟩)))
  · exact pss_is hs (.inr (.inr (.inr (.inl ⟨rfl, rfl, rfl, rfl⟩))))
  · exact pss_is hs (.inr (.inr (.inr (.inr (.inl ⟨rfl, rfl, rfl, rfl⟩)))))
  · exact pss_is hs (.inr (.inr (.inr (.inr (.inr (.inl ⟨rfl, rfl, rfl, rfl⟩))))))
  · exact pss_is hs (.inr (.inr (.inr (.inr (.inr (.inr ⟨rfl, rfl, rfl, rfl⟩))))))
/-- the bounds of a row -/
theorem Is.bd {w h : Nat} (hw : w < 40) (hh : h < 40) {s : S41} (hs : Is w h s) :
    (0 ≤ s.f0 ∧ s.f0 ≤ 4) ∧ (0 ≤ s.f1 ∧ s.f1 ≤ 4) ∧ (1 ≤ s.f2 ∧ s.f2 ≤ 8) ∧ (1 ≤ s.f3 ∧ s.f3 ≤ 8) ∧ (1 ≤ s.f4 ∧ s.f4 ≤ w) ∧ (1 ≤ s.f5 ∧ s.f5 ≤ h) := by
  obtain ⟨X, Y, DX, DY, rfl, h1, h2, hr⟩ := hs
  dsimp only
  rcases hr with ⟨rfl, rfl, rfl, rfl⟩ | ⟨rfl, rfl, rfl, rfl⟩ | ⟨rfl, rfl, rfl, rfl⟩ | ⟨rfl, rfl, rfl, rfl⟩ | ⟨rfl, rfl, rfl, rfl⟩ | ⟨rfl, rfl, rfl, rfl⟩ | ⟨rfl, rfl, rfl, rfl⟩ <;> (rw [Int.tdiv_eq_ediv_of_nonneg (by omega), Int.tdiv_eq_ediv_of_nonneg (by omega)]; omega)
theorem Is.at {w h : Nat} {s : S41} (hs : Is w h s) {i j : Int} (i0 : 0 ≤ i) (i1 : i < s.f4) (j0 : 0 ≤ j) (j1 : j < s.f5) :
    0 ≤ s.f0 + i * s.f2 ∧ s.f0 + i * s.f2 < w ∧ 0 ≤ s.f1 + j * s.f3 ∧ s.f1 + j * s.f3 < h := by
  obtain ⟨X, Y, DX, DY, rfl, h1, h2, hr⟩ := hs
  dsimp only at *
  rcases hr with ⟨rfl, rfl, rfl, rfl⟩ | ⟨rfl, rfl, rfl, rfl⟩ | ⟨rfl, rfl, rfl, rfl⟩ | ⟨rfl, rfl, rfl, rfl⟩ | ⟨rfl, rfl, rfl, rfl⟩ | ⟨rfl, rfl, rfl, rfl⟩ | ⟨rfl, rfl, rfl, rfl⟩ <;> (rw [Int.tdiv_eq_ediv_of_nonneg (by omega)] at i1 j1; omega)
theorem inl_iff (q : S41) (x y : Nat) : inl q x y = true ↔ (x : Int) % q.f2 = q.f0 ∧ (y : Int) % q.f3 = q.f1 := by
  unfold inl; simp
/-- two rows have no place in common -/
theorem apart {w h : Nat} {q s : S41} (hq : Is w h q) (hs : Is w h s) (hc : cl q ≠ cl s) {x y : Nat} (h1 : inl q x y = true) : inl s x y = false := by
  cases h2 : inl s x y with
  | false => rfl
  | true =>
    rw [inl_iff] at h1 h2
    obtain ⟨X, Y, DX, DY, rfl, _, _, hr⟩ := hq
    obtain ⟨X', Y', DX', DY', rfl, _, _, hr'⟩ := hs
    dsimp only at h1 h2
    exfalso
    rcases hr with ⟨rfl, rfl, rfl, rfl⟩ | ⟨rfl, rfl, rfl, rfl⟩ | ⟨rfl, rfl, rfl, rfl⟩ | ⟨rfl, rfl, rfl, rfl⟩ | ⟨rfl, rfl, rfl, rfl⟩ | ⟨rfl, rfl, rfl, rfl⟩ | ⟨rfl, rfl, rfl, rfl⟩ <;> rcases hr' with ⟨rfl, rfl, rfl, rfl⟩ | ⟨rfl, rfl, rfl, rfl⟩ | ⟨rfl, rfl, rfl, rfl⟩ | ⟨rfl, rfl, rfl, rfl⟩ | ⟨rfl, rfl, rfl, rfl⟩ | ⟨rfl, rfl, rfl, rfl⟩ | ⟨rfl, rfl, rfl, rfl⟩ <;> first | exact hc rfl | omega
theorem ps_cl : ∀ w : Fin 40, ∀ h : Fin 40, ((ps w.val h.val).map cl).Nodup := by decide +kernel
/-- a pass that has begun -/
theorem zB_00 {w h : Nat} {P : List S41} {s : S41} (hs : Is w h s) : zB w h P s 0 0 = zA w h P := by
  funext x y
  unfold zB zA
  congr 1
  cases hi : inl s x y with
  | false => simp
  | true =>
    rw [inl_iff] at hi
    obtain ⟨X, Y, DX, DY, rfl, h1, h2, hr⟩ := hs
    dsimp only at *
    have a1 : ¬ (y : Int) < Y + 0 * DY := by rcases hr with ⟨rfl, rfl, rfl, rfl⟩ | ⟨rfl, rfl, rfl, rfl⟩ | ⟨rfl, rfl, rfl, rfl⟩ | ⟨rfl, rfl, rfl, rfl⟩ | ⟨rfl, rfl, rfl, rfl⟩ | ⟨rfl, rfl, rfl, rfl⟩ | ⟨rfl, rfl, rfl, rfl⟩ <;> omega
    have a2 : ¬ (x : Int) < X + 0 * DX := by rcases hr with ⟨rfl, rfl, rfl, rfl⟩ | ⟨rfl, rfl, rfl, rfl⟩ | ⟨rfl, rfl, rfl, rfl⟩ | ⟨rfl, rfl, rfl, rfl⟩ | ⟨rfl, rfl, rfl, rfl⟩ | ⟨rfl, rfl, rfl, rfl⟩ | ⟨rfl, rfl, rfl, rfl⟩ <;> omega
    simp
    intro h
    exfalso
    omega
/-- a row that is done -/
theorem zB_row {w h : Nat} {P : List S41} {s : S41} (hs : Is w h s) (j : Int) : zB w h P s j s.f4 = zB w h P s (j + 1) 0 := by
  funext x y
  unfold zB
  by_cases hx : x < w
  · by_cases hy : y < h
    · congr 2
      cases hi : inl s x y with
      | false => simp
      | true =>
        rw [inl_iff] at hi
        obtain ⟨X, Y, DX, DY, rfl, h1, h2, hr⟩ := hs
        dsimp only at *
        have a1 : ((y : Int) < Y + j * DY ∨ ((y : Int) = Y + j * DY ∧ (x : Int) < X + ((w : Int) - X + DX - 1).tdiv DX * DX)) ↔ ((y : Int) < Y + (j + 1) * DY ∨ ((y : Int) = Y + (j + 1) * DY ∧ (x : Int) < X + 0 * DX)) := by
          rcases hr with ⟨rfl, rfl, rfl, rfl⟩ | ⟨rfl, rfl, rfl, rfl⟩ | ⟨rfl, rfl, rfl, rfl⟩ | ⟨rfl, rfl, rfl, rfl⟩ | ⟨rfl, rfl, rfl, rfl⟩ | ⟨rfl, rfl, rfl, rfl⟩ | ⟨rfl, rfl, rfl, rfl⟩ <;> (rw [Int.tdiv_eq_ediv_of_nonneg (by omega)]; omega)
        simp only [Bool.true_and, ← Bool.decide_and, ← Bool.decide_or]
        exact decide_eq_decide.2 a1
    · simp [hy]
  · simp [hx]
/-- a pass that is done -/
theorem zB_end {w h : Nat} {P : List S41} {s : S41} (hs : Is w h s) : zB w h P s s.f5 0 = zA w h (P ++ [s]) := by
  funext x y
  unfold zB zA
  by_cases hx : x < w
  · by_cases hy : y < h
    · congr 1
      rw [List.any_append]
      congr 1
      cases hi : inl s x y with
      | false => simp [hi]
      | true =>
        rw [show [s].any (fun q => inl q x y) = true by simp [hi]]
        rw [inl_iff] at hi
        obtain ⟨X, Y, DX, DY, rfl, h1, h2, hr⟩ := hs
        dsimp only at *
        have a1 : (y : Int) < Y + ((h : Int) - Y + DY - 1).tdiv DY * DY := by
          rcases hr with ⟨rfl, rfl, rfl, rfl⟩ | ⟨rfl, rfl, rfl, rfl⟩ | ⟨rfl, rfl, rfl, rfl⟩ | ⟨rfl, rfl, rfl, rfl⟩ | ⟨rfl, rfl, rfl, rfl⟩ | ⟨rfl, rfl, rfl, rfl⟩ | ⟨rfl, rfl, rfl, rfl⟩ <;> (rw [Int.tdiv_eq_ediv_of_nonneg (by omega)]; omega)
        simp [a1]
    · simp [hy]
  · simp [hx]
theorem in_here {w h : Nat} {s : S41} (hs : Is w h s) {i j : Int} {x y : Nat} (hx : (x : Int) = s.f0 + i * s.f2) (hy : (y : Int) = s.f1 + j * s.f3) : inl s x y = true := by
  rw [inl_iff]
  obtain ⟨X, Y, DX, DY, rfl, h1, h2, hr⟩ := hs
  dsimp only at *
  rcases hr with ⟨rfl, rfl, rfl, rfl⟩ | ⟨rfl, rfl, rfl, rfl⟩ | ⟨rfl, rfl, rfl, rfl⟩ | ⟨rfl, rfl, rfl, rfl⟩ | ⟨rfl, rfl, rfl, rfl⟩ | ⟨rfl, rfl, rfl, rfl⟩ | ⟨rfl, rfl, rfl, rfl⟩ <;> omega
/-- the next place is not set -/
theorem zB_at {w h : Nat} {P : List S41} {s : S41} (hs : Is w h s) (hP : ∀ q ∈ P, Is w h q ∧ cl q ≠ cl s) {i j : Int} {x y : Nat} (hx : (x : Int) = s.f0 + i * s.f2) (hy : (y : Int) = s.f1 + j * s.f3) : zB w h P s j i x y = false := by
  have hi := in_here hs hx hy
  unfold zB
  have h1 : P.any (fun q => inl q x y) = false := by
    rw [List.any_eq_false]
    intro q hq hc
    have := apart (hP q hq).1 hs (hP q hq).2 hc
    rw [hi] at this; cases this
  have h2 : ¬ (y : Int) < s.f1 + j * s.f3 := by omega
  have h3 : ¬ (x : Int) < s.f0 + i * s.f2 := by omega
  simp [h1, h2, h3]
/-- a place is set -/
theorem zB_set {w h : Nat} {P : List S41} {s : S41} (hs : Is w h s) {i j : Int} {x y : Nat} (hx : (x : Int) = s.f0 + i * s.f2) (hy : (y : Int) = s.f1 + j * s.f3) (hxw : x < w) (hyh : y < h) :
    (fun a b => if a = x ∧ b = y then true else zB w h P s j i a b) = zB w h P s j (i + 1) := by
  have hi := in_here hs hx hy
  funext a b
  by_cases e : a = x ∧ b = y
  · obtain ⟨rfl, rfl⟩ := e
    have h2 : 1 ≤ s.f2 := by
      obtain ⟨X, Y, DX, DY, rfl, h1, h2, hr⟩ := hs
      dsimp only at *
      omega
    have h3 : (a : Int) < s.f0 + (i + 1) * s.f2 := by rw [Int.add_mul]; omega
    rw [if_pos ⟨rfl, rfl⟩]
    unfold zB
    rw [hi]
    simp only [decide_eq_true hxw, decide_eq_true hyh, decide_eq_true hy, decide_eq_true h3, Bool.true_and, Bool.or_true, Bool.and_true]
  · rw [if_neg e]
    unfold zB
    congr 2
    cases ha : inl s a b with
    | false => simp
    | true =>
      rw [inl_iff] at ha
      obtain ⟨X, Y, DX, DY, rfl, h1, h2, hr⟩ := hs
      dsimp only at *
      have a1 : ((b : Int) < Y + j * DY ∨ ((b : Int) = Y + j * DY ∧ (a : Int) < X + i * DX)) ↔ ((b : Int) < Y + j * DY ∨ ((b : Int) = Y + j * DY ∧ (a : Int) < X + (i + 1) * DX)) := by
        rcases hr with ⟨rfl, rfl, rfl, rfl⟩ | ⟨rfl, rfl, rfl, rfl⟩ | ⟨rfl, rfl, rfl, rfl⟩ | ⟨rfl, rfl, rfl, rfl⟩ | ⟨rfl, rfl, rfl, rfl⟩ | ⟨rfl, rfl, rfl, rfl⟩ | ⟨rfl, rfl, rfl, rfl⟩ <;> omega
      simp only [Bool.true_and, ← Bool.decide_and, ← Bool.decide_or]
      exact decide_eq_decide.2 a1
/-- how many places the passes ahead have -/
def nn (L : List S41) (t : Nat) : Int := ((L.take t).map fun s => s.f4 * s.f5).sum
theorem nn_0 (L : List S41) : nn L 0 = 0 := by simp [nn]
theorem nn_next {L : List S41} {t : Nat} {s : S41} (h : L[t]? = some s) : nn L (t + 1) = nn L t + s.f4 * s.f5 := by
  unfold nn
  rw [List.take_add_one, h]
  simp [List.sum_append]
theorem nn_end {w h : Nat} (hw : w < 40) (hh : h < 40) : nn (ps w h) (ps w h).length = (w : Int) * h := by
  unfold nn
  rw [List.take_length]
  exact ps_sum ⟨w, hw⟩ ⟨h, hh⟩
theorem sum_nonneg : ∀ {l : List Int}, (∀ a ∈ l, 0 ≤ a) → 0 ≤ l.sum
  | [], _ => by simp
  | a :: l, h => by
    rw [List.sum_cons]
    have h1 := h a (List.mem_cons_self ..)
    have h2 := sum_nonneg fun b hb => h b (List.mem_cons_of_mem _ hb)
    omega
theorem nn_bd {w h : Nat} (hw : w < 40) (hh : h < 40) (t : Nat) : 0 ≤ nn (ps w h) t ∧ nn (ps w h) t ≤ 1600 := by
  have hp : ∀ a ∈ (ps w h).map (fun s : S41 => s.f4 * s.f5), 0 ≤ a := by
    intro a ha
    rw [List.mem_map] at ha
    obtain ⟨s, hs, rfl⟩ := ha
    have := (ps_is hs).bd hw hh
    exact Int.mul_nonneg (by omega) (by omega)
  have h1 : 0 ≤ nn (ps w h) t := sum_nonneg fun a ha => hp a (List.mem_map.2 (by obtain ⟨s, hs, e⟩ := List.mem_map.1 ha; exact ⟨s, List.mem_of_mem_take hs, e⟩))
  have h2 : 0 ≤ (((ps w h).drop t).map fun s : S41 => s.f4 * s.f5).sum := sum_nonneg fun a ha => hp a (List.mem_map.2 (by obtain ⟨s, hs, e⟩ := List.mem_map.1 ha; exact ⟨s, List.mem_of_mem_drop hs, e⟩))
  have h3 : nn (ps w h) t + (((ps w h).drop t).map fun s : S41 => s.f4 * s.f5).sum = (w : Int) * h := by
    have := ps_sum ⟨w, hw⟩ ⟨h, hh⟩
    dsimp only at this
    rw [← this]
    unfold nn
    rw [← List.sum_append, ← List.map_append, List.take_append_drop]
  have h4 : (w : Int) * h ≤ 1600 := by
    have := Nat.mul_le_mul (show w ≤ 40 by omega) (show h ≤ 40 by omega)
    have e : ((w * h : Nat) : Int) = (w : Int) * h := by simp
    omega
  omega
/-- the passes ahead are others -/
theorem ahead {w h : Nat} (hw : w < 40) (hh : h < 40) {t : Nat} {s : S41} (hs : (ps w h)[t]? = some s) : ∀ q ∈ (ps w h).take t, Is w h q ∧ cl q ≠ cl s := by
  intro q hq
  refine ⟨ps_is (List.mem_of_mem_take hq), fun e => ?_⟩
  have hn := ps_cl ⟨w, hw⟩ ⟨h, hh⟩
  dsimp only at hn
  have ht : t < (ps w h).length := by
    rcases Nat.lt_or_ge t (ps w h).length with h1 | h1
    · exact h1
    · rw [List.getElem?_eq_none h1] at hs; cases hs
  rw [List.mem_take_iff_getElem] at hq
  obtain ⟨i, hi, rfl⟩ := hq
  have hi' : i < t := by omega
  have hs' : (ps w h)[t] = s := by rw [List.getElem?_eq_getElem ht] at hs; injection hs
  have := (List.pairwise_iff_getElem.1 hn) i t (by simp; omega) (by simp; omega) hi'
  simp only [List.getElem_map] at this
  rw [hs'] at this
  exact this e
theorem take_next {L : List S41} {t : Nat} {s : S41} (h : L[t]? = some s) : L.take (t + 1) = L.take t ++ [s] := by rw [List.take_add_one, h]; rfl
theorem ps_len {w h : Nat} : (ps w h).length ≤ 7 := by
  have := fun X Y DX DY => (show (pss w h X Y DX DY).length ≤ 1 by unfold pss; split <;> simp)
  unfold ps
  simp only [List.length_append]
  have h1 := this 0 0 8 8; have h2 := this 4 0 8 8; have h3 := this 0 4 4 8; have h4 := this 2 0 4 4; have h5 := this 0 2 2 4; have h6 := this 1 0 2 2; have h7 := this 0 1 1 2
  omega
theorem zA_0 (w h : Nat) : ab (zA w h []) = ab (fun _ _ => false) := by
  congr 1; funext x y; simp [zA]

end Go.Proofs.Ytkagmelijdfdiaa.PsB
