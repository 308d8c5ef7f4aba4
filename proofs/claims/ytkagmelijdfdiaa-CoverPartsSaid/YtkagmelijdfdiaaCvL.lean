/- Plain law of cover: its winding and its mask, and those of its reference, are the same of any lines, at most twenty. -/
import Derived.Test.YtkagmelijdfdiaaPCoverTellsx2
import Derived.Test.YtkagmelijdfdiaaMath
namespace Go.Proofs.Ytkagmelijdfdiaa.CvL
open Go.RowKit Go.Proofs.YtkagmelijdfdiaaW.PrintWords Go.Proofs.YtkagmelijdfdiaaW.PrintLast Go.Proofs.YtkagmelijdfdiaaW.PrintMore Go.Proofs.Ytkagmelijdfdiaa.PCoverTells Go.Proofs.Ytkagmelijdfdiaa.M
attribute [local go_sem] max2_int min2_int max_two min_two max_three min_three max_four min_four
set_option linter.unusedVariables false
set_option linter.unusedSimpArgs false

def nr (n : Int) : Int := mx (-1073741824) (mn n 1073741824)
theorem nr_bd (n : Int) : -1073741824 ≤ nr n ∧ nr n ≤ 1073741824 := by unfold nr mx mn; omega
theorem nr_nr (n : Int) : nr (nr n) = nr n := by unfold nr mx mn; omega
theorem broughtn_f (n : Int) : cover_brought.f n 1073741824 = some (nr n) := by
  unfold cover_brought.f
  rw [w64 (n := -1073741824) (by omega) (by omega)]
  rfl
theorem near_f (n : Int) : versalref14_near.f n = some (nr n) := by
  have e : mn 1073741824 n = mn n 1073741824 := by unfold mn; omega
  unfold versalref14_near.f versalref2_Within.f nr
  rw [e]; rfl
def cr (s : S33) (x y : Int) : Int :=
  if nr s.f1 ≤ y ∧ y < nr s.f3 ∧ (x - nr s.f0) * (nr s.f3 - nr s.f1) < (nr s.f2 - nr s.f0) * (y - nr s.f1) then 1
  else if y < nr s.f1 ∧ nr s.f3 ≤ y ∧ (nr s.f2 - nr s.f0) * (y - nr s.f1) < (x - nr s.f0) * (nr s.f3 - nr s.f1) then -1 else 0
theorem cr_bd (s : S33) (x y : Int) : -1 ≤ cr s x y ∧ cr s x y ≤ 1 := by unfold cr; repeat' split; all_goals omega
theorem crosses_f (k : Nat) (s : S33) {x y : Int} (hx : -1073741824 ≤ x ∧ x ≤ 1073741824) (hy : -1073741824 ≤ y ∧ y ≤ 1073741824) : cover_crosses.f (k + 1) s.f0 s.f1 s.f2 s.f3 x y = some (cr s x y) := by
  unfold cover_crosses.f
  rw [broughtn_f, broughtn_f, broughtn_f, broughtn_f]
  simp only [Option.bind_some, cover_crosses.j0]
  unfold cr
  have ha := nr_bd s.f0
  have hb := nr_bd s.f1
  have hc := nr_bd s.f2
  have hd := nr_bd s.f3
  generalize nr s.f0 = a at *
  generalize nr s.f1 = b at *
  generalize nr s.f2 = c at *
  generalize nr s.f3 = d at *
  rw [w64 (n := c - a) (by omega) (by omega), w64 (n := y - b) (by omega) (by omega), w64 (n := x - a) (by omega) (by omega), w64 (n := d - b) (by omega) (by omega)]
  have m1 := mul_bd (a := c - a) (b := y - b) (A := 2147483648) (B := 2147483648) (by omega) (by omega) (by omega) (by omega)
  have m2 := mul_bd (a := x - a) (b := d - b) (A := 2147483648) (B := 2147483648) (by omega) (by omega) (by omega) (by omega)
  generalize (c - a) * (y - b) = P at *
  generalize (x - a) * (d - b) = Q at *
  rw [w64 (n := P) (by omega) (by omega), w64 (n := Q) (by omega) (by omega)]
  by_cases h1 : b ≤ y
  · rw [if_pos (by omega)]
    by_cases h2 : y < d
    · rw [if_pos (by omega)]
      by_cases h3 : Q < P
      · rw [if_pos (by simp; omega), if_pos ⟨h1, h2, h3⟩]
      · rw [if_neg (by simp; omega), if_neg (by omega), if_neg (by omega), if_neg (by omega)]
    · rw [if_neg (by omega), if_neg (by simp), if_neg (by omega), if_neg (by omega), if_neg (by omega)]
  · rw [if_neg (by omega), if_neg (by simp), if_pos (by omega), if_neg (c := b ≤ y ∧ _) (by omega)]
    by_cases h2 : d ≤ y
    · rw [if_pos (by omega)]
      by_cases h3 : P < Q
      · rw [if_pos (by omega), if_pos (by omega)]
      · rw [if_neg (by omega), if_neg (by omega)]
    · rw [if_neg (by omega), if_neg (by omega)]
def ws (x y : Int) : List S33 → Int
  | [] => 0
  | s :: T => cr s x y + ws x y T
theorem rd_at {L T : List S33} {s : S33} {i : Nat} (h : L.drop i = s :: T) : i < L.length ∧ rd_T33 L (i : Int) = s ∧ L.drop (i + 1) = T := by
  have hlt : i < L.length := by
    refine Decidable.byContradiction fun hn => ?_
    rw [List.drop_eq_nil_of_le (by omega)] at h
    cases h
  have h2 := List.drop_eq_getElem_cons hlt
  rw [h] at h2
  injection h2 with h3 h4
  refine ⟨hlt, ?_, h4.symm⟩
  unfold rd_T33
  rw [Int.toNat_natCast, List.getD_eq_getElem?_getD, List.getElem?_eq_getElem hlt, h3]
  rfl
theorem wind_l {L : List S33} {x y : Int} (hx : -1073741824 ≤ x ∧ x ≤ 1073741824) (hy : -1073741824 ≤ y ∧ y ≤ 1073741824) (hL : L.length ≤ 200) : ∀ (T : List S33) (i : Nat) (acc : Int) (k : Nat), L.drop i = T → -1000 + T.length ≤ acc → acc + T.length ≤ 1000 →
    cover_Winding.l0 (k + T.length + 2) x y acc L (L.length : Int) (i : Int) = some (acc + ws x y T) := by
  intro T
  induction T with
  | nil =>
    intro i acc k h h1 h2
    have hi : L.length ≤ i := by
      refine Decidable.byContradiction fun hn => ?_
      rw [List.drop_eq_getElem_cons (by omega)] at h
      cases h
    rw [cover_Winding.l0, if_neg (by omega)]
    simp [ws]
  | cons s T ih =>
    intro i acc k h h1 h2
    obtain ⟨hlt, hr, hT⟩ := rd_at h
    have hc := cr_bd s x y
    simp only [List.length_cons] at h1 h2 ⊢
    rw [show k + (T.length + 1) + 2 = (k + T.length + 2) + 1 by omega, cover_Winding.l0, if_pos (by omega), if_pos (by omega), if_pos (by omega), hr, show k + T.length + 2 = (k + T.length + 1) + 1 by omega, crosses_f _ s hx hy, Option.bind_some, w64 (n := acc + cr s x y) (by omega) (by omega), w64 (n := (i : Int) + 1) (by omega) (by omega)]
    have := ih (i + 1) (acc + cr s x y) k hT (by omega) (by omega)
    rw [show ((i + 1 : Nat) : Int) = (i : Int) + 1 by omega] at this
    rw [show k + T.length + 1 + 1 = k + T.length + 2 by omega, this]
    rw [Int.add_assoc]
    rfl
theorem winding_f {L : List S33} (hL : L.length ≤ 200) (x y : Int) (k : Nat) : cover_Winding.f (k + L.length + 2) L x y = some (ws (nr x) (nr y) L) := by
  unfold cover_Winding.f
  rw [broughtn_f, broughtn_f]
  simp only [Option.bind_some]
  have := wind_l (nr_bd x) (nr_bd y) hL L 0 0 k rfl (by omega) (by omega)
  rw [Int.zero_add] at this
  exact this
theorem rstep {L T : List S33} {s : S33} {x y acc : Int} {i k : Nat} (hx : -1073741824 ≤ x ∧ x ≤ 1073741824) (hy : -1073741824 ≤ y ∧ y ≤ 1073741824) (hL : L.length ≤ 200) (h : L.drop i = s :: T) (h1 : -1000 < acc) (h2 : acc < 1000) :
    versalref14_Winding.l0 (k + 2) L x y acc (i : Int) = versalref14_Winding.l0 k L x y (acc + cr s x y) ((i + 1 : Nat) : Int) := by
  obtain ⟨hlt, hr, hT⟩ := rd_at h
  rw [versalref14_Winding.l0, if_pos (by omega), if_pos (by omega), hr, near_f, near_f, near_f, near_f]
  simp only [Option.bind_some, versalref14_Winding.j1]
  unfold cr
  have ha := nr_bd s.f0
  have hb := nr_bd s.f1
  have hc := nr_bd s.f2
  have hd := nr_bd s.f3
  generalize nr s.f0 = a at *
  generalize nr s.f1 = b at *
  generalize nr s.f2 = c at *
  generalize nr s.f3 = d at *
  rw [w64 (n := c - a) (by omega) (by omega), w64 (n := y - b) (by omega) (by omega), w64 (n := x - a) (by omega) (by omega), w64 (n := d - b) (by omega) (by omega), w64 (n := (i : Int) + 1) (by omega) (by omega), w64 (n := acc + 1) (by omega) (by omega), w64 (n := acc - 1) (by omega) (by omega), show ((i + 1 : Nat) : Int) = (i : Int) + 1 by omega]
  have m1 := mul_bd (a := c - a) (b := y - b) (A := 2147483648) (B := 2147483648) (by omega) (by omega) (by omega) (by omega)
  have m2 := mul_bd (a := x - a) (b := d - b) (A := 2147483648) (B := 2147483648) (by omega) (by omega) (by omega) (by omega)
  have m3 : y - b ≠ d - b → b ≤ y ∧ y < d ∨ y < b ∧ d ≤ y → -(2147483648 * 2147483647) ≤ (c - a) * (y - b) ∧ (c - a) * (y - b) ≤ 2147483648 * 2147483647 := fun _ _ => mul_bd (by omega) (by omega) (by omega) (by omega)
  have m4 : y - b = d - b → -(2147483648 * 2147483648) ≤ (c - a) * (y - b) - (x - a) * (d - b) ∧ (c - a) * (y - b) - (x - a) * (d - b) ≤ 2147483648 * 2147483648 := fun e => by
    rw [e, ← Int.sub_mul]
    exact mul_bd (by omega) (by omega) (by omega) (by omega)
  generalize (c - a) * (y - b) = P at *
  generalize (x - a) * (d - b) = Q at *
  rw [w64 (n := P) (by omega) (by omega), w64 (n := Q) (by omega) (by omega)]
  have hW : (b ≤ y ∧ y < d ∨ y < b ∧ d ≤ y) → wrap64 (P - Q) = P - Q := fun hh => by
    by_cases e : y - b = d - b
    · have := m4 e; exact w64 (by omega) (by omega)
    · have := m3 e hh; exact w64 (by omega) (by omega)
  by_cases h3 : b ≤ y
  · rw [if_pos (by omega)]
    by_cases h4 : y < d
    · rw [if_pos (by omega), hW (.inl ⟨h3, h4⟩)]
      by_cases h5 : Q < P
      · rw [if_pos (by simp; omega), if_pos ⟨h3, h4, h5⟩]
      · rw [if_neg (by simp; omega), if_neg (by omega), if_neg (by omega), if_neg (by omega), Int.add_zero]
    · rw [if_neg (by omega), if_neg (by simp), if_neg (by omega), if_neg (by omega), if_neg (by omega), Int.add_zero]
  · rw [if_neg (by omega), if_neg (by simp), if_pos (by omega), if_neg (c := b ≤ y ∧ _) (by omega)]
    by_cases h4 : d ≤ y
    · rw [if_pos (by omega), hW (.inr ⟨by omega, h4⟩)]
      by_cases h5 : P < Q
      · rw [if_pos (by omega), if_pos (by omega)]; rfl
      · rw [if_neg (by omega), if_neg (by omega), Int.add_zero]
    · rw [if_neg (by omega), if_neg (by omega), Int.add_zero]
theorem rwind_l {L : List S33} {x y : Int} (hx : -1073741824 ≤ x ∧ x ≤ 1073741824) (hy : -1073741824 ≤ y ∧ y ≤ 1073741824) (hL : L.length ≤ 200) : ∀ (T : List S33) (i : Nat) (acc : Int) (k : Nat), L.drop i = T → -900 + T.length ≤ acc → acc + T.length ≤ 900 →
    versalref14_Winding.l0 (k + 2 * T.length + 2) L x y acc (i : Int) = some (acc + ws x y T) := by
  intro T
  induction T with
  | nil =>
    intro i acc k h h1 h2
    have hi : L.length ≤ i := by
      refine Decidable.byContradiction fun hn => ?_
      rw [List.drop_eq_getElem_cons (by omega)] at h
      cases h
    rw [versalref14_Winding.l0, if_neg (by omega)]
    simp [ws]
  | cons s T ih =>
    intro i acc k h h1 h2
    have hT := (rd_at h).2.2
    have hc := cr_bd s x y
    simp only [List.length_cons] at h1 h2 ⊢
    rw [show k + 2 * (T.length + 1) + 2 = (k + 2 * T.length + 2) + 2 by omega, rstep hx hy hL h (by omega) (by omega), ih (i + 1) (acc + cr s x y) k hT (by omega) (by omega)]
    rw [Int.add_assoc]
    rfl
theorem rwinding_f {L : List S33} (hL : L.length ≤ 200) (x y : Int) (k : Nat) : versalref14_Winding.f (k + 2 * L.length + 2) L x y = some (ws (nr x) (nr y) L) := by
  unfold versalref14_Winding.f
  rw [near_f, near_f]
  simp only [Option.bind_some]
  have := rwind_l (nr_bd x) (nr_bd y) hL L 0 0 k rfl (by omega) (by omega)
  rw [Int.zero_add] at this
  exact this
/-! ### of a pixel -/
def one (L : List S33) (px py j i : Int) : Int := if ws (nr (px * 65536 + (2 * i + 1) * 8192)) (nr (py * 65536 + (2 * j + 1) * 8192)) L = 0 then 0 else 1
def row (L : List S33) (px py j : Int) : Int := one L px py j 0 + one L px py j 1 + one L px py j 2 + one L px py j 3
def all (L : List S33) (px py : Int) : Int := row L px py 0 + row L px py 1 + row L px py 2 + row L px py 3
def part (n : Int) : Int := (n * 255 + 8) / 16
theorem one_b (L : List S33) (px py j i : Int) : 0 ≤ one L px py j i ∧ one L px py j i ≤ 1 := by unfold one; split <;> omega
theorem row_b (L : List S33) (px py j : Int) : 0 ≤ row L px py j ∧ row L px py j ≤ 4 := by
  have h0 := one_b L px py j 0
  have h1 := one_b L px py j 1
  have h2 := one_b L px py j 2
  have h3 := one_b L px py j 3
  unfold row
  omega
theorem all_b (L : List S33) (px py : Int) : 0 ≤ all L px py ∧ all L px py ≤ 16 := by
  have h0 := row_b L px py 0
  have h1 := row_b L px py 1
  have h2 := row_b L px py 2
  have h3 := row_b L px py 3
  unfold all
  omega
theorem place_e {p i : Int} (hp : -30000 ≤ p ∧ p ≤ 30000) (hi : 0 ≤ i ∧ i ≤ 3) : wrap64 ((wrap64 (p * 65536)) + (wrap64 ((wrap64 ((wrap64 (2 * i)) + 1)) * 8192))) = p * 65536 + (2 * i + 1) * 8192 := by
  rw [w64 (n := p * 65536) (by omega) (by omega), w64 (n := 2 * i) (by omega) (by omega), w64 (n := 2 * i + 1) (by omega) (by omega), w64 (n := (2 * i + 1) * 8192) (by omega) (by omega), w64 (by omega) (by omega)]
section
variable {L : List S33} {px py : Int} (hL : L.length ≤ 20) (hpx : -30000 ≤ px ∧ px ≤ 30000) (hpy : -30000 ≤ py ∧ py ≤ 30000)
include hL hpx hpy
set_option linter.unusedSectionVars false
theorem cov_s (k : Nat) {n j i : Int} (hn : 0 ≤ n ∧ n ≤ 100) (hj : 0 ≤ j ∧ j ≤ 3) (hi : 0 ≤ i ∧ i ≤ 3) :
    cover_covered.l1 (k + 61) L px py n j j i = cover_covered.l1 (k + 60) L px py (n + one L px py j i) j j (i + 1) := by
  rw [cover_covered.l1, if_pos (by omega), place_e hpx hi, place_e hpy hj, show k + 60 = (k + 58 - L.length) + L.length + 2 by omega, winding_f (by omega), Option.bind_some]
  unfold one
  split
  · rw [w64 (n := i + 1) (by omega) (by omega), Int.add_zero]
  · rw [w64 (n := i + 1) (by omega) (by omega), w64 (n := n + 1) (by omega) (by omega)]
theorem cov_r (k : Nat) {n j : Int} (hn : 0 ≤ n ∧ n ≤ 90) (hj : 0 ≤ j ∧ j ≤ 3) :
    cover_covered.l0 (k + 66) L px py n j = cover_covered.l0 (k + 60) L px py (n + row L px py j) (j + 1) := by
  have h0 := one_b L px py j 0
  have h1 := one_b L px py j 1
  have h2 := one_b L px py j 2
  have h3 := one_b L px py j 3
  have g1 := one_b L px py j (0 + 1)
  have g2 := one_b L px py j (0 + 1 + 1)
  rw [cover_covered.l0, if_pos (by omega)]
  rw [cov_s hL hpx hpy (k + 4) (n := n) (i := 0) (by omega) hj (by omega)]
  rw [cov_s hL hpx hpy (k + 3) (i := 0 + 1) (by omega) hj (by omega)]
  rw [cov_s hL hpx hpy (k + 2) (i := 0 + 1 + 1) (by omega) hj (by omega)]
  rw [cov_s hL hpx hpy (k + 1) (i := 0 + 1 + 1 + 1) (by omega) hj (by omega)]
  rw [cover_covered.l1, if_neg (by omega), w64 (n := j + 1) (by omega) (by omega)]
  unfold row
  rw [show n + one L px py j 0 + one L px py j (0 + 1) + one L px py j (0 + 1 + 1) + one L px py j (0 + 1 + 1 + 1) = n + (one L px py j 0 + one L px py j 1 + one L px py j 2 + one L px py j 3) by
    rw [show (0 : Int) + 1 = 1 by rfl, show (1 : Int) + 1 = 2 by rfl, show (2 : Int) + 1 = 3 by rfl]; omega]
theorem cov_f (k : Nat) : cover_covered.f (k + 90) L px py = some (part (all L px py)) := by
  have h0 := row_b L px py 0
  have h1 := row_b L px py 1
  have h2 := row_b L px py 2
  have h3 := row_b L px py 3
  unfold cover_covered.f
  rw [cov_r hL hpx hpy (k + 24) (n := 0) (j := 0) (by omega) (by omega)]
  rw [cov_r hL hpx hpy (k + 18) (j := 0 + 1) (by omega) (by omega)]
  rw [cov_r hL hpx hpy (k + 12) (j := 0 + 1 + 1) (by rw [show (0 : Int) + 1 = 1 by rfl]; omega) (by omega)]
  rw [cov_r hL hpx hpy (k + 6) (j := 0 + 1 + 1 + 1) (by rw [show (0 : Int) + 1 = 1 by rfl, show (1 : Int) + 1 = 2 by rfl]; omega) (by omega)]
  rw [show (0 : Int) + row L px py 0 + row L px py (0 + 1) + row L px py (0 + 1 + 1) + row L px py (0 + 1 + 1 + 1) = all L px py by
    unfold all; rw [show (0 : Int) + 1 = 1 by rfl, show (1 : Int) + 1 = 2 by rfl, show (2 : Int) + 1 = 3 by rfl]; omega]
  have hA := all_b L px py
  generalize all L px py = A at *
  rw [cover_covered.l0, if_neg (by omega), w64 (n := A * 255) (by omega) (by omega), w64 (n := A * 255 + 8) (by omega) (by omega), Int.tdiv_eq_ediv_of_nonneg (by omega), w64 (n := (A * 255 + 8) / 16) (by omega) (by omega)]
  unfold part
  congr 1
  omega
theorem rcov_s (k : Nat) {n j i : Int} (hn : 0 ≤ n ∧ n ≤ 100) (hj : 0 ≤ j ∧ j ≤ 3) (hi : 0 ≤ i ∧ i ≤ 3) :
    versalref14_Cover.l1 (k + 61) L px py n j i = versalref14_Cover.l1 (k + 60) L px py (n + one L px py j i) j (i + 1) := by
  rw [versalref14_Cover.l1, if_pos (by omega), place_e hpx hi, place_e hpy hj, show k + 60 = (k + 58 - 2 * L.length) + 2 * L.length + 2 by omega, rwinding_f (by omega), Option.bind_some]
  unfold one
  split
  · rw [w64 (n := i + 1) (by omega) (by omega), Int.add_zero]
  · rw [w64 (n := i + 1) (by omega) (by omega), w64 (n := n + 1) (by omega) (by omega)]
theorem rcov_r (k : Nat) {n j : Int} (hn : 0 ≤ n ∧ n ≤ 90) (hj : 0 ≤ j ∧ j ≤ 3) :
    versalref14_Cover.l0 (k + 66) L px py n j = versalref14_Cover.l0 (k + 60) L px py (n + row L px py j) (j + 1) := by
  have h0 := one_b L px py j 0
  have h1 := one_b L px py j 1
  have h2 := one_b L px py j 2
  have h3 := one_b L px py j 3
  have g1 := one_b L px py j (0 + 1)
  have g2 := one_b L px py j (0 + 1 + 1)
  rw [versalref14_Cover.l0, if_pos (by omega)]
  rw [rcov_s hL hpx hpy (k + 4) (n := n) (i := 0) (by omega) hj (by omega)]
  rw [rcov_s hL hpx hpy (k + 3) (i := 0 + 1) (by omega) hj (by omega)]
  rw [rcov_s hL hpx hpy (k + 2) (i := 0 + 1 + 1) (by omega) hj (by omega)]
  rw [rcov_s hL hpx hpy (k + 1) (i := 0 + 1 + 1 + 1) (by omega) hj (by omega)]
  rw [versalref14_Cover.l1, if_neg (by omega), w64 (n := j + 1) (by omega) (by omega)]
  unfold row
  rw [show n + one L px py j 0 + one L px py j (0 + 1) + one L px py j (0 + 1 + 1) + one L px py j (0 + 1 + 1 + 1) = n + (one L px py j 0 + one L px py j 1 + one L px py j 2 + one L px py j 3) by
    rw [show (0 : Int) + 1 = 1 by rfl, show (1 : Int) + 1 = 2 by rfl, show (2 : Int) + 1 = 3 by rfl]; omega]
theorem rcov_f (k : Nat) : versalref14_Cover.f (k + 90) L px py = some (part (all L px py)) := by
  have h0 := row_b L px py 0
  have h1 := row_b L px py 1
  have h2 := row_b L px py 2
  have h3 := row_b L px py 3
  unfold versalref14_Cover.f
  rw [rcov_r hL hpx hpy (k + 24) (n := 0) (j := 0) (by omega) (by omega)]
  rw [rcov_r hL hpx hpy (k + 18) (j := 0 + 1) (by omega) (by omega)]
  rw [rcov_r hL hpx hpy (k + 12) (j := 0 + 1 + 1) (by rw [show (0 : Int) + 1 = 1 by rfl]; omega) (by omega)]
  rw [rcov_r hL hpx hpy (k + 6) (j := 0 + 1 + 1 + 1) (by rw [show (0 : Int) + 1 = 1 by rfl, show (1 : Int) + 1 = 2 by rfl]; omega) (by omega)]
  rw [show (0 : Int) + row L px py 0 + row L px py (0 + 1) + row L px py (0 + 1 + 1) + row L px py (0 + 1 + 1 + 1) = all L px py by
    unfold all; rw [show (0 : Int) + 1 = 1 by rfl, show (1 : Int) + 1 = 2 by rfl, show (2 : Int) + 1 = 3 by rfl]; omega]
  have hA := all_b L px py
  generalize all L px py = A at *
  rw [versalref14_Cover.l0, if_neg (by omega), w64 (n := A * 255) (by omega) (by omega), w64 (n := A * 255 + 8) (by omega) (by omega), Int.tdiv_eq_ediv_of_nonneg (by omega), w64 (n := (A * 255 + 8) / 16) (by omega) (by omega)]
  rfl
end
theorem part_b (L : List S33) (px py : Int) : part (all L px py) % 256 = part (all L px py) := by
  have hA := all_b L px py
  unfold part
  omega
/-! ### masks -/
def rowL (L : List S33) (x y : Int) : Nat → Int → List Int → List Int
  | 0, _, acc => acc
  | m + 1, i, acc => rowL L x y m (i + 1) (acc ++ [part (all L (x + i) y)])
def allL (L : List S33) (x y : Int) (w : Nat) : Nat → Int → List Int → List Int
  | 0, _, acc => acc
  | m + 1, j, acc => allL L x y w m (j + 1) (rowL L x (y + j) w 0 acc)
theorem rowL_len (L : List S33) (x y : Int) : ∀ (m : Nat) (i : Int) (acc : List Int), (rowL L x y m i acc).length = acc.length + m
  | 0, _, acc => rfl
  | m + 1, i, acc => by rw [rowL, rowL_len L x y m]; simp; omega
section
variable {L : List S33} {x y : Int} (hL : L.length ≤ 20) (hx : -20000 ≤ x ∧ x ≤ 20000) (hy : -20000 ≤ y ∧ y ≤ 20000)
include hL hx hy
set_option linter.unusedSectionVars false
theorem mask_l1 (k : Nat) {w h j : Int} (hw : w ≤ 64) (hj : 0 ≤ j ∧ j ≤ 64) (m : Nat) : ∀ (i : Int) (acc : List Int), 0 ≤ i → i + m = w → acc.length + m ≤ 10000 →
    cover_Mask.l1 (k + m + 91) L x y w acc j h j w i = cover_Mask.l0 (k + 90) L x y w (rowL L x (y + j) m i acc) h (j + 1) := by
  induction m with
  | zero =>
    intro i acc h0 h1 h2
    rw [cover_Mask.l1, if_neg (by omega), w64 (n := j + 1) (by omega) (by omega)]; rfl
  | succ m ih =>
    intro i acc h0 h1 h2
    rw [show k + (m + 1) + 91 = (k + m + 91) + 1 by omega, cover_Mask.l1, if_pos (by omega), w64 (n := x + i) (by omega) (by omega), w64 (n := y + j) (by omega) (by omega), show k + m + 91 = (k + m + 1) + 90 by omega, cov_f hL (by omega) (by omega), Option.bind_some, if_pos (by omega), w64 (n := i + 1) (by omega) (by omega), show k + m + 1 + 90 = k + m + 91 by omega,
      ih (i + 1) _ (by omega) (by omega) (by simp; omega)]
    rfl
theorem mask_l0 {w : Nat} {h : Int} (hw : w ≤ 64) (hh : h ≤ 64) (n : Nat) : ∀ (k : Nat) (j : Int) (acc : List Int), 0 ≤ j → j + n = h → acc.length + n * 64 ≤ 9000 →
    cover_Mask.l0 (k + n * 66 + 91) L x y w acc h j = some (allL L x y w n j acc) := by
  induction n with
  | zero =>
    intro k j acc h0 h1 h2
    rw [cover_Mask.l0, if_neg (by omega)]; rfl
  | succ n ih =>
    intro k j acc h0 h1 h2
    have hl := rowL_len L x (y + j) w 0 acc
    rw [show k + (n + 1) * 66 + 91 = ((k + n * 66 + 65 - w) + w + 91) + 1 by omega, cover_Mask.l0, if_pos (by omega), mask_l1 hL hx hy _ (by omega) (by omega) w 0 acc (by omega) (by omega) (by omega), show k + n * 66 + 65 - w + 90 = (k + 64 - w) + n * 66 + 91 by omega, ih _ (j + 1) _ (by omega) (by omega) (by omega)]
    rfl
theorem rmask_l1 (k : Nat) {w h j : Int} (hw : w ≤ 64) (hj : 0 ≤ j ∧ j ≤ 64) (m : Nat) : ∀ (i : Int) (acc : List Int), 0 ≤ i → i + m = w → acc.length + m ≤ 10000 →
    versalref14_Mask.l1 (k + m + 91) L x y w h acc j i = versalref14_Mask.l0 (k + 90) L x y w h (rowL L x (y + j) m i acc) (j + 1) := by
  induction m with
  | zero =>
    intro i acc h0 h1 h2
    rw [versalref14_Mask.l1, if_neg (by omega), w64 (n := j + 1) (by omega) (by omega)]; rfl
  | succ m ih =>
    intro i acc h0 h1 h2
    rw [show k + (m + 1) + 91 = (k + m + 91) + 1 by omega, versalref14_Mask.l1, if_pos (by omega), w64 (n := x + i) (by omega) (by omega), w64 (n := y + j) (by omega) (by omega), show k + m + 91 = (k + m + 1) + 90 by omega, rcov_f hL (by omega) (by omega), Option.bind_some, if_pos (by omega), part_b, w64 (n := i + 1) (by omega) (by omega), show k + m + 1 + 90 = k + m + 91 by omega,
      ih (i + 1) _ (by omega) (by omega) (by simp; omega)]
    rfl
theorem rmask_l0 {w : Nat} {h : Int} (hw : w ≤ 64) (hh : h ≤ 64) (n : Nat) : ∀ (k : Nat) (j : Int) (acc : List Int), 0 ≤ j → j + n = h → acc.length + n * 64 ≤ 9000 →
    versalref14_Mask.l0 (k + n * 66 + 91) L x y w h acc j = some (allL L x y w n j acc) := by
  induction n with
  | zero =>
    intro k j acc h0 h1 h2
    rw [versalref14_Mask.l0, if_neg (by omega)]; rfl
  | succ n ih =>
    intro k j acc h0 h1 h2
    have hl := rowL_len L x (y + j) w 0 acc
    rw [show k + (n + 1) * 66 + 91 = ((k + n * 66 + 65 - w) + w + 91) + 1 by omega, versalref14_Mask.l0, if_pos (by omega), rmask_l1 hL hx hy _ (by omega) (by omega) w 0 acc (by omega) (by omega) (by omega), show k + n * 66 + 65 - w + 90 = (k + 64 - w) + n * 66 + 91 by omega, ih _ (j + 1) _ (by omega) (by omega) (by omega)]
    rfl
end
def grd (n : Int) : Int := mx (-16000) (mn n 16000)
def tile (n : Int) : Nat := (mx 0 (mn n 64)).toNat
theorem grd_bd (n : Int) : -16000 ≤ grd n ∧ grd n ≤ 16000 := by unfold grd mx mn; omega
theorem tile_e (n : Int) : mx 0 (mn n 64) = (tile n : Int) ∧ tile n ≤ 64 := by unfold tile mx mn; omega
def mask (L : List S33) (a b c d : Int) : List Int := allL L (grd a) (grd b) (tile c) (tile d) 0 []
theorem ground_f (n : Int) : cover_brought.f n 16000 = some (grd n) := by
  unfold cover_brought.f
  rw [w64 (n := -16000) (by omega) (by omega)]
  rfl
theorem mask_f {L : List S33} (hL : L.length ≤ 20) (a b c d : Int) : cover_Mask.f 4400 L a b c d = some (mask L a b c d) := by
  have ha := grd_bd a
  have hb := grd_bd b
  have hc := tile_e c
  have hd := tile_e d
  unfold cover_Mask.f
  rw [ground_f, ground_f, Option.bind_some, Option.bind_some, hc.1, hd.1, show 4400 = (4309 - tile d * 66) + tile d * 66 + 91 by omega]
  exact mask_l0 hL (by omega) (by omega) hc.2 (by omega) (tile d) _ 0 [] (by omega) (by omega) (by simp; omega)
theorem rmask_f {L : List S33} (hL : L.length ≤ 20) (a b c d : Int) : versalref14_Mask.f 4400 L a b c d = some (mask L a b c d) := by
  have ha := grd_bd a
  have hb := grd_bd b
  have hc := tile_e c
  have hd := tile_e d
  have e1 : ∀ n : Int, mn 16000 n = mn n 16000 := fun n => by unfold mn; omega
  have e2 : ∀ n : Int, mn 64 n = mn n 64 := fun n => by unfold mn; omega
  have g : ∀ n : Int, mx (-16000) (mn n 16000) = grd n := fun n => rfl
  unfold versalref14_Mask.f versalref2_Within.f
  simp only [Option.bind_some]
  rw [e1, e1, e2, e2, g, g, hc.1, hd.1, show 4400 = (4309 - tile d * 66) + tile d * 66 + 91 by omega]
  exact rmask_l0 hL (by omega) (by omega) hc.2 (by omega) (tile d) _ 0 [] (by omega) (by omega) (by simp; omega)

end Go.Proofs.Ytkagmelijdfdiaa.CvL
