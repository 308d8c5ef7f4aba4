/- A box covers of each pixel as many of its sixteen places as lie in it; two boxes that touch cover no place twice. No conditions. -/
import Derived.Test.YtkagmelijdfdiaaPCoverBoxesx2
import Derived.Test.YtkagmelijdfdiaaMath
namespace Go.Proofs.Ytkagmelijdfdiaa.Pure
open Go.RowKit Go.Proofs.Ytkagmelijdfdiaa.PCoverBoxes Go.Proofs.YtkagmelijdfdiaaW.PrintWords Go.Proofs.YtkagmelijdfdiaaW.PrintLast Go.Proofs.Ytkagmelijdfdiaa.M
set_option linter.unusedSimpArgs false
set_option linter.unusedVariables false

theorem pick_f {n m : Int} (h1 : 0 < m) (h2 : m ≤ 9223372036854775807) : versalhand_Pick.f n m = some (n % m) := by
  have ha := Int.lt_tmod_of_pos n h1
  have hb := Int.tmod_lt_of_pos n h1
  rw [← tmod_pick h1]
  unfold versalhand_Pick.f
  rw [if_neg (by omega)]
  by_cases h : n.tmod m < 0
  · rw [if_pos h, if_pos h, w64 (by omega) (by omega)]
  · rw [if_neg h, if_neg h]

theorem known_t : ∀ e, versallaw18_known.f (80 + e) = some true := by
  intro e
  induction e with
  | zero => decide +kernel
  | succ e ih => exact versallaw18_known.mono (80 + e) true ih

theorem brought_f {n : Int} (h1 : -1073741824 ≤ n) (h2 : n ≤ 1073741824) : cover_brought.f n 1073741824 = some n := by
  unfold cover_brought.f
  rw [w64 (n := -1073741824) (by omega) (by omega)]
  unfold mx mn
  congr 1
  split <;> split <;> omega

theorem ground_f {n : Int} (h1 : -16000 ≤ n) (h2 : n ≤ 16000) : cover_brought.f n 16000 = some n := by
  unfold cover_brought.f
  rw [w64 (n := -16000) (by omega) (by omega)]
  unfold mx mn
  congr 1
  split <;> split <;> omega

/-- an upright line -/
def up (a b d u v : Int) : Int := if b ≤ v ∧ v < d ∧ u < a then 1 else if d ≤ v ∧ v < b ∧ u < a then -1 else 0

theorem cross_w {a b c d u v : Int} (k : Nat) (ha : -500 ≤ a ∧ a ≤ 500) (hb : -500 ≤ b ∧ b ≤ 500) (hc : -500 ≤ c ∧ c ≤ 500) (hd : -500 ≤ d ∧ d ≤ 500) (hu : -500 ≤ u ∧ u ≤ 500) (hv : -500 ≤ v ∧ v ≤ 500) :
    cover_crosses.f (k + 1) (a * 8192) (b * 8192) (c * 8192) (d * 8192) (u * 8192) (v * 8192) =
      some (if b ≤ v ∧ v < d ∧ (u - a) * (d - b) < (c - a) * (v - b) then 1 else if v < b ∧ d ≤ v ∧ (c - a) * (v - b) < (u - a) * (d - b) then -1 else 0) := by
  unfold cover_crosses.f
  rw [brought_f (n := a * 8192) (by omega) (by omega), brought_f (n := b * 8192) (by omega) (by omega), brought_f (n := c * 8192) (by omega) (by omega), brought_f (n := d * 8192) (by omega) (by omega)]
  simp only [Option.bind_some, cover_crosses.j0]
  rw [w64 (n := c * 8192 - a * 8192) (by omega) (by omega), w64 (n := v * 8192 - b * 8192) (by omega) (by omega), w64 (n := u * 8192 - a * 8192) (by omega) (by omega), w64 (n := d * 8192 - b * 8192) (by omega) (by omega)]
  have e1 : (c * 8192 - a * 8192) * (v * 8192 - b * 8192) = 67108864 * ((c - a) * (v - b)) := by grind
  have e2 : (u * 8192 - a * 8192) * (d * 8192 - b * 8192) = 67108864 * ((u - a) * (d - b)) := by grind
  have m1 := mul_bd (a := c - a) (b := v - b) (A := 1000) (B := 1000) (by omega) (by omega) (by omega) (by omega)
  have m2 := mul_bd (a := u - a) (b := d - b) (A := 1000) (B := 1000) (by omega) (by omega) (by omega) (by omega)
  rw [e1, e2]
  generalize (c - a) * (v - b) = P at *
  generalize (u - a) * (d - b) = Q at *
  rw [w64 (n := 67108864 * P) (by omega) (by omega), w64 (n := 67108864 * Q) (by omega) (by omega)]
  by_cases h1 : b ≤ v
  · rw [if_pos (by omega)]
    by_cases h2 : v < d
    · rw [if_pos (by omega)]
      by_cases h3 : Q < P
      · rw [if_pos (by simp; omega), if_pos ⟨h1, h2, h3⟩]
      · rw [if_neg (by simp; omega), if_neg (by omega), if_neg (by omega), if_neg (by omega)]
    · rw [if_neg (by omega), if_neg (by simp), if_neg (by omega), if_neg (by omega), if_neg (by omega)]
  · rw [if_neg (by omega), if_neg (by simp), if_pos (by omega), if_neg (c := b ≤ v ∧ _) (by omega)]
    by_cases h2 : d ≤ v
    · rw [if_pos (by omega)]
      by_cases h3 : P < Q
      · rw [if_pos (by omega), if_pos (by omega)]
      · rw [if_neg (by omega), if_neg (by omega)]
    · rw [if_neg (by omega), if_neg (by omega)]

theorem cross_up {a b d u v : Int} (k : Nat) (ha : -500 ≤ a ∧ a ≤ 500) (hb : -500 ≤ b ∧ b ≤ 500) (hd : -500 ≤ d ∧ d ≤ 500) (hu : -500 ≤ u ∧ u ≤ 500) (hv : -500 ≤ v ∧ v ≤ 500) :
    cover_crosses.f (k + 1) (a * 8192) (b * 8192) (a * 8192) (d * 8192) (u * 8192) (v * 8192) = some (up a b d u v) := by
  rw [cross_w k ha hb ha hd hu hv]
  unfold up
  rw [show (a - a) * (v - b) = 0 by simp]
  have p1 : b < d → ((u - a) * (d - b) < 0 ↔ u < a) := by
    intro h
    constructor
    · intro h2
      apply Decidable.byContradiction
      intro h3
      have := Int.mul_nonneg (a := u - a) (b := d - b) (by omega) (by omega)
      omega
    · intro h2
      exact Int.mul_neg_of_neg_of_pos (by omega) (by omega)
  have p2 : d < b → (0 < (u - a) * (d - b) ↔ u < a) := by
    intro h
    constructor
    · intro h2
      apply Decidable.byContradiction
      intro h3
      have := Int.mul_nonneg (a := u - a) (b := b - d) (by omega) (by omega)
      have e : (u - a) * (d - b) = -((u - a) * (b - d)) := by grind
      omega
    · intro h2
      exact Int.mul_pos_of_neg_of_neg (by omega) (by omega)
  generalize (u - a) * (d - b) = Q at *
  congr 1
  by_cases h1 : b ≤ v ∧ v < d
  · have := p1 (by omega)
    split <;> split <;> (try split) <;> (try split) <;> omega
  · by_cases h2 : d ≤ v ∧ v < b
    · have := p2 (by omega)
      split <;> split <;> (try split) <;> (try split) <;> omega
    · split <;> split <;> (try split) <;> (try split) <;> omega

theorem cross_flat {a b c u v : Int} (k : Nat) (ha : -500 ≤ a ∧ a ≤ 500) (hb : -500 ≤ b ∧ b ≤ 500) (hc : -500 ≤ c ∧ c ≤ 500) (hu : -500 ≤ u ∧ u ≤ 500) (hv : -500 ≤ v ∧ v ≤ 500) :
    cover_crosses.f (k + 1) (a * 8192) (b * 8192) (c * 8192) (b * 8192) (u * 8192) (v * 8192) = some 0 := by
  rw [cross_w k ha hb hc hb hu hv, if_neg (by omega), if_neg (by omega)]

/-- a box's lines -/
def bx (a b c d : Int) : List S33 := [⟨a * 8192, b * 8192, a * 8192, (b + d) * 8192⟩, ⟨a * 8192, (b + d) * 8192, (a + c) * 8192, (b + d) * 8192⟩, ⟨(a + c) * 8192, (b + d) * 8192, (a + c) * 8192, b * 8192⟩, ⟨(a + c) * 8192, b * 8192, a * 8192, b * 8192⟩]

theorem box_f {a b c d : Int} (ha : -200 ≤ a ∧ a ≤ 200) (hb : -200 ≤ b ∧ b ≤ 200) (hc : 0 ≤ c ∧ c ≤ 200) (hd : 0 ≤ d ∧ d ≤ 200) : versallaw18_box.f a b c d = some (bx a b c d) := by
  unfold versallaw18_box.f bx
  rw [w64 (n := a + c) (by omega) (by omega), w64 (n := b + d) (by omega) (by omega), w64 (n := a * 8192) (by omega) (by omega), w64 (n := b * 8192) (by omega) (by omega), w64 (n := (a + c) * 8192) (by omega) (by omega), w64 (n := (b + d) * 8192) (by omega) (by omega)]

/-- a step of Winding -/
theorem wind_s {L : List S33} {u v acc t : Int} {i : Nat} {s : S33} (k : Nat) (hi : L[i]? = some s) (hl : L.length ≤ 100) (hc : cover_crosses.f (k + 1) s.f0 s.f1 s.f2 s.f3 u v = some t) (h1 : -1 ≤ t) (h2 : t ≤ 1) (h3 : -100 ≤ acc) (h4 : acc ≤ 100) :
    cover_Winding.l0 (k + 2) u v acc L (L.length : Int) (i : Int) = cover_Winding.l0 (k + 1) u v (acc + t) L (L.length : Int) ((i + 1 : Nat) : Int) := by
  obtain ⟨hlt, _⟩ := List.getElem?_eq_some_iff.1 hi
  have hr : rd_T33 L (i : Int) = s := by unfold rd_T33; rw [Int.toNat_natCast, List.getD_eq_getElem?_getD, hi]; rfl
  rw [cover_Winding.l0, if_pos (by omega), if_pos (by omega), if_pos (by omega), hr, hc, Option.bind_some, w64 (n := acc + t) (by omega) (by omega), w64 (n := (i : Int) + 1) (by omega) (by omega)]
  rfl

theorem wind_e {L : List S33} {u v acc : Int} {i : Nat} (k : Nat) (hi : i = L.length) : cover_Winding.l0 (k + 1) u v acc L (L.length : Int) (i : Int) = some acc := by
  subst hi
  rw [cover_Winding.l0, if_neg (by omega)]

/-- in the box -/
def inb (a b c d u v : Int) : Int := if a ≤ u ∧ u < a + c ∧ b ≤ v ∧ v < b + d then -1 else 0

theorem up_box {a b c d u v : Int} (hc : 0 ≤ c) (hd : 0 ≤ d) : up a b (b + d) u v + up (a + c) (b + d) b u v = inb a b c d u v := by
  unfold up inb
  repeat' split
  all_goals omega
theorem up_b (a b d u v : Int) : -1 ≤ up a b d u v ∧ up a b d u v ≤ 1 := by unfold up; repeat' split; all_goals omega

theorem box_w {a b c d u v : Int} (k : Nat) (ha : -200 ≤ a ∧ a ≤ 200) (hb : -200 ≤ b ∧ b ≤ 200) (hc : 0 ≤ c ∧ c ≤ 200) (hd : 0 ≤ d ∧ d ≤ 200) (hu : -500 ≤ u ∧ u ≤ 500) (hv : -500 ≤ v ∧ v ≤ 500) :
    cover_Winding.f (k + 6) (bx a b c d) (u * 8192) (v * 8192) = some (inb a b c d u v) := by
  unfold cover_Winding.f
  rw [brought_f (n := u * 8192) (by omega) (by omega), brought_f (n := v * 8192) (by omega) (by omega), Option.bind_some, Option.bind_some]
  have b1 := up_b a b (b + d) u v
  have b2 := up_b (a + c) (b + d) b u v
  have s0 := wind_s (L := bx a b c d) (acc := 0) (i := 0) (k + 4) rfl (by simp [bx]) (cross_up (k + 4) (a := a) (b := b) (d := b + d) (u := u) (v := v) (by omega) (by omega) (by omega) hu hv) b1.1 b1.2 (by omega) (by omega)
  have s1 := wind_s (L := bx a b c d) (acc := 0 + up a b (b + d) u v) (i := 1) (k + 3) rfl (by simp [bx]) (cross_flat (k + 3) (a := a) (b := b + d) (c := a + c) (u := u) (v := v) (by omega) (by omega) (by omega) hu hv) (by omega) (by omega) (by omega) (by omega)
  have s2 := wind_s (L := bx a b c d) (acc := 0 + up a b (b + d) u v + 0) (i := 2) (k + 2) rfl (by simp [bx]) (cross_up (k + 2) (a := a + c) (b := b + d) (d := b) (u := u) (v := v) (by omega) (by omega) (by omega) hu hv) b2.1 b2.2 (by omega) (by omega)
  have s3 := wind_s (L := bx a b c d) (acc := 0 + up a b (b + d) u v + 0 + up (a + c) (b + d) b u v) (i := 3) (k + 1) rfl (by simp [bx]) (cross_flat (k + 1) (a := a + c) (b := b) (c := a) (u := u) (v := v) (by omega) (by omega) (by omega) hu hv) (by omega) (by omega) (by omega) (by omega)
  have s4 := wind_e (L := bx a b c d) (u := u * 8192) (v := v * 8192) (acc := 0 + up a b (b + d) u v + 0 + up (a + c) (b + d) b u v + 0) (i := 4) (k + 1) rfl
  refine (s0.trans (s1.trans (s2.trans (s3.trans s4)))).trans ?_
  have := up_box (a := a) (b := b) (c := c) (d := d) (u := u) (v := v) hc.1 hd.1
  congr 1
  omega

theorem two_w {a b c d u v : Int} (k : Nat) (ha : -200 ≤ a ∧ a ≤ 200) (hb : -200 ≤ b ∧ b ≤ 200) (hc : 0 ≤ c ∧ c ≤ 90) (hd : 0 ≤ d ∧ d ≤ 200) (hac : a + c ≤ 200) (hu : -500 ≤ u ∧ u ≤ 500) (hv : -500 ≤ v ∧ v ≤ 500) :
    cover_Winding.f (k + 10) (bx a b c d ++ bx (a + c) b c d) (u * 8192) (v * 8192) = some (inb a b (2 * c) d u v) := by
  unfold cover_Winding.f
  rw [brought_f (n := u * 8192) (by omega) (by omega), brought_f (n := v * 8192) (by omega) (by omega), Option.bind_some, Option.bind_some]
  have b1 := up_b a b (b + d) u v
  have b2 := up_b (a + c) (b + d) b u v
  have b3 := up_b (a + c) b (b + d) u v
  have b4 := up_b (a + c + c) (b + d) b u v
  have s0 := wind_s (L := bx a b c d ++ bx (a + c) b c d) (acc := 0) (i := 0) (k + 8) rfl (by simp [bx]) (cross_up (k + 8) (a := a) (b := b) (d := b + d) (u := u) (v := v) (by omega) (by omega) (by omega) hu hv) b1.1 b1.2 (by omega) (by omega)
  have s1 := wind_s (L := bx a b c d ++ bx (a + c) b c d) (acc := 0 + up a b (b + d) u v) (i := 1) (k + 7) rfl (by simp [bx]) (cross_flat (k + 7) (a := a) (b := b + d) (c := a + c) (u := u) (v := v) (by omega) (by omega) (by omega) hu hv) (by omega) (by omega) (by omega) (by omega)
  have s2 := wind_s (L := bx a b c d ++ bx (a + c) b c d) (acc := 0 + up a b (b + d) u v + 0) (i := 2) (k + 6) rfl (by simp [bx]) (cross_up (k + 6) (a := a + c) (b := b + d) (d := b) (u := u) (v := v) (by omega) (by omega) (by omega) hu hv) b2.1 b2.2 (by omega) (by omega)
  have s3 := wind_s (L := bx a b c d ++ bx (a + c) b c d) (acc := 0 + up a b (b + d) u v + 0 + up (a + c) (b + d) b u v) (i := 3) (k + 5) rfl (by simp [bx]) (cross_flat (k + 5) (a := a + c) (b := b) (c := a) (u := u) (v := v) (by omega) (by omega) (by omega) hu hv) (by omega) (by omega) (by omega) (by omega)
  have s4 := wind_s (L := bx a b c d ++ bx (a + c) b c d) (acc := 0 + up a b (b + d) u v + 0 + up (a + c) (b + d) b u v + 0) (i := 4) (k + 4) rfl (by simp [bx]) (cross_up (k + 4) (a := a + c) (b := b) (d := b + d) (u := u) (v := v) (by omega) (by omega) (by omega) hu hv) b3.1 b3.2 (by omega) (by omega)
  have s5 := wind_s (L := bx a b c d ++ bx (a + c) b c d) (acc := 0 + up a b (b + d) u v + 0 + up (a + c) (b + d) b u v + 0 + up (a + c) b (b + d) u v) (i := 5) (k + 3) rfl (by simp [bx]) (cross_flat (k + 3) (a := a + c) (b := b + d) (c := a + c + c) (u := u) (v := v) (by omega) (by omega) (by omega) hu hv) (by omega) (by omega) (by omega) (by omega)
  have s6 := wind_s (L := bx a b c d ++ bx (a + c) b c d) (acc := 0 + up a b (b + d) u v + 0 + up (a + c) (b + d) b u v + 0 + up (a + c) b (b + d) u v + 0) (i := 6) (k + 2) rfl (by simp [bx]) (cross_up (k + 2) (a := a + c + c) (b := b + d) (d := b) (u := u) (v := v) (by omega) (by omega) (by omega) hu hv) b4.1 b4.2 (by omega) (by omega)
  have s7 := wind_s (L := bx a b c d ++ bx (a + c) b c d) (acc := 0 + up a b (b + d) u v + 0 + up (a + c) (b + d) b u v + 0 + up (a + c) b (b + d) u v + 0 + up (a + c + c) (b + d) b u v) (i := 7) (k + 1) rfl (by simp [bx]) (cross_flat (k + 1) (a := a + c + c) (b := b) (c := a + c) (u := u) (v := v) (by omega) (by omega) (by omega) hu hv) (by omega) (by omega) (by omega) (by omega)
  have s8 := wind_e (L := bx a b c d ++ bx (a + c) b c d) (u := u * 8192) (v := v * 8192) (acc := 0 + up a b (b + d) u v + 0 + up (a + c) (b + d) b u v + 0 + up (a + c) b (b + d) u v + 0 + up (a + c + c) (b + d) b u v + 0) (i := 8) (k + 1) rfl
  refine (s0.trans (s1.trans (s2.trans (s3.trans (s4.trans (s5.trans (s6.trans (s7.trans s8)))))))).trans ?_
  have e1 := up_box (a := a) (b := b) (c := c) (d := d) (u := u) (v := v) hc.1 hd.1
  have e2 := up_box (a := a + c) (b := b) (c := c) (d := d) (u := u) (v := v) hc.1 hd.1
  have e3 : inb a b c d u v + inb (a + c) b c d u v = inb a b (2 * c) d u v := by
    unfold inb
    repeat' split
    all_goals omega
  congr 1
  omega

/-- one place, one row, all -/
def one (a b c d px py j i : Int) : Int := if inb a b c d (8 * px + 2 * i + 1) (8 * py + 2 * j + 1) = 0 then 0 else 1
def row (a b c d px py j : Int) : Int := one a b c d px py j 0 + one a b c d px py j 1 + one a b c d px py j 2 + one a b c d px py j 3
def all (a b c d px py : Int) : Int := row a b c d px py 0 + row a b c d px py 1 + row a b c d px py 2 + row a b c d px py 3
theorem one_b (a b c d px py j i : Int) : 0 ≤ one a b c d px py j i ∧ one a b c d px py j i ≤ 1 := by unfold one; split <;> omega
theorem row_b (a b c d px py j : Int) : 0 ≤ row a b c d px py j ∧ row a b c d px py j ≤ 4 := by
  have h0 := one_b a b c d px py j 0
  have h1 := one_b a b c d px py j 1
  have h2 := one_b a b c d px py j 2
  have h3 := one_b a b c d px py j 3
  unfold row
  omega

section
variable {a b c d px py : Int} (ha : -200 ≤ a ∧ a ≤ 200) (hb : -200 ≤ b ∧ b ≤ 200) (hc : 0 ≤ c ∧ c ≤ 90) (hd : 0 ≤ d ∧ d ≤ 90) (hac : a + c ≤ 200) (hpx : -2 ≤ px ∧ px ≤ 10) (hpy : -2 ≤ py ∧ py ≤ 10)
include ha hb hc hd hac hpx hpy

set_option linter.unusedSectionVars false
theorem cov_s (k : Nat) {n j i : Int} (hn : 0 ≤ n ∧ n ≤ 100) (hj : 0 ≤ j ∧ j ≤ 3) (hi : 0 ≤ i ∧ i ≤ 3) :
    cover_covered.l1 (k + 7) (bx a b c d) px py n j j i = cover_covered.l1 (k + 6) (bx a b c d) px py (n + one a b c d px py j i) j j (i + 1) := by
  rw [cover_covered.l1, if_pos (by omega)]
  rw [show wrap64 ((wrap64 (px * 65536)) + (wrap64 ((wrap64 ((wrap64 (2 * i)) + 1)) * 8192))) = (8 * px + 2 * i + 1) * 8192 by
    rw [w64 (n := px * 65536) (by omega) (by omega), w64 (n := 2 * i) (by omega) (by omega), w64 (n := 2 * i + 1) (by omega) (by omega), w64 (n := (2 * i + 1) * 8192) (by omega) (by omega), w64 (by omega) (by omega)]; omega]
  rw [show wrap64 ((wrap64 (py * 65536)) + (wrap64 ((wrap64 ((wrap64 (2 * j)) + 1)) * 8192))) = (8 * py + 2 * j + 1) * 8192 by
    rw [w64 (n := py * 65536) (by omega) (by omega), w64 (n := 2 * j) (by omega) (by omega), w64 (n := 2 * j + 1) (by omega) (by omega), w64 (n := (2 * j + 1) * 8192) (by omega) (by omega), w64 (by omega) (by omega)]; omega]
  rw [box_w k ha hb (by omega) (by omega) (by omega) (by omega), Option.bind_some]
  unfold one
  split
  · rw [w64 (n := i + 1) (by omega) (by omega), Int.add_zero]
  · rw [w64 (n := i + 1) (by omega) (by omega), w64 (n := n + 1) (by omega) (by omega)]

theorem cov_r (k : Nat) {n j : Int} (hn : 0 ≤ n ∧ n ≤ 90) (hj : 0 ≤ j ∧ j ≤ 3) :
    cover_covered.l0 (k + 12) (bx a b c d) px py n j = cover_covered.l0 (k + 6) (bx a b c d) px py (n + row a b c d px py j) (j + 1) := by
  have h0 := one_b a b c d px py j 0
  have h1 := one_b a b c d px py j 1
  have h2 := one_b a b c d px py j 2
  have h3 := one_b a b c d px py j 3
  have g1 := one_b a b c d px py j (0 + 1)
  have g2 := one_b a b c d px py j (0 + 1 + 1)
  rw [cover_covered.l0, if_pos (by omega)]
  rw [cov_s ha hb hc hd hac hpx hpy (k + 4) (n := n) (i := 0) (by omega) hj (by omega)]
  rw [cov_s ha hb hc hd hac hpx hpy (k + 3) (i := 0 + 1) (by omega) hj (by omega)]
  rw [cov_s ha hb hc hd hac hpx hpy (k + 2) (i := 0 + 1 + 1) (by omega) hj (by omega)]
  rw [cov_s ha hb hc hd hac hpx hpy (k + 1) (i := 0 + 1 + 1 + 1) (by omega) hj (by omega)]
  rw [cover_covered.l1, if_neg (by omega), w64 (n := j + 1) (by omega) (by omega)]
  unfold row
  rw [show n + one a b c d px py j 0 + one a b c d px py j (0 + 1) + one a b c d px py j (0 + 1 + 1) + one a b c d px py j (0 + 1 + 1 + 1) = n + (one a b c d px py j 0 + one a b c d px py j 1 + one a b c d px py j 2 + one a b c d px py j 3) by
    rw [show (0 : Int) + 1 = 1 by rfl, show (1 : Int) + 1 = 2 by rfl, show (2 : Int) + 1 = 3 by rfl]; omega]

/-- of sixteen -/
def part (n : Int) : Int := (n * 255 + 8) / 16

theorem cov_f (k : Nat) : cover_covered.f (k + 40) (bx a b c d) px py = some (part (all a b c d px py)) := by
  have h0 := row_b a b c d px py 0
  have h1 := row_b a b c d px py 1
  have h2 := row_b a b c d px py 2
  have h3 := row_b a b c d px py 3
  unfold cover_covered.f
  rw [cov_r ha hb hc hd hac hpx hpy (k + 28) (n := 0) (j := 0) (by omega) (by omega)]
  rw [cov_r ha hb hc hd hac hpx hpy (k + 22) (j := 0 + 1) (by omega) (by omega)]
  rw [cov_r ha hb hc hd hac hpx hpy (k + 16) (j := 0 + 1 + 1) (by rw [show (0 : Int) + 1 = 1 by rfl]; omega) (by omega)]
  rw [cov_r ha hb hc hd hac hpx hpy (k + 10) (j := 0 + 1 + 1 + 1) (by rw [show (0 : Int) + 1 = 1 by rfl, show (1 : Int) + 1 = 2 by rfl]; omega) (by omega)]
  rw [show (0 : Int) + row a b c d px py 0 + row a b c d px py (0 + 1) + row a b c d px py (0 + 1 + 1) + row a b c d px py (0 + 1 + 1 + 1) = all a b c d px py by
    unfold all; rw [show (0 : Int) + 1 = 1 by rfl, show (1 : Int) + 1 = 2 by rfl, show (2 : Int) + 1 = 3 by rfl]; omega]
  have hA : 0 ≤ all a b c d px py ∧ all a b c d px py ≤ 16 := by unfold all; omega
  generalize all a b c d px py = A at *
  rw [cover_covered.l0, if_neg (by omega), w64 (n := A * 255) (by omega) (by omega), w64 (n := A * 255 + 8) (by omega) (by omega), Int.tdiv_eq_ediv_of_nonneg (by omega), w64 (n := (A * 255 + 8) / 16) (by omega) (by omega)]
  unfold part
  congr 1
  omega

theorem mask_f (k : Nat) : cover_Mask.f (k + 44) (bx a b c d) px py 1 1 = some [part (all a b c d px py)] := by
  unfold cover_Mask.f
  rw [ground_f (n := px) (by omega) (by omega), ground_f (n := py) (by omega) (by omega), Option.bind_some, Option.bind_some, show mx 0 (mn 1 64) = 1 by rfl]
  rw [cover_Mask.l0, if_pos (by omega), cover_Mask.l1, if_pos (by omega), w64 (n := px + 0) (by omega) (by omega), w64 (n := py + 0) (by omega) (by omega), Int.add_zero, Int.add_zero]
  rw [cov_f ha hb hc hd hac hpx hpy (k + 2), Option.bind_some, if_pos (by simp), w64 (n := 0 + 1) (by omega) (by omega), cover_Mask.l1, if_neg (by omega), w64 (n := 0 + 1) (by omega) (by omega), cover_Mask.l0, if_neg (by omega)]
  rfl

/-- a step of the law's count -/
theorem law_s (k : Nat) {m : List Int} {n j i : Int} (hn : 0 ≤ n ∧ n ≤ 100) (hj : 0 ≤ j ∧ j ≤ 3) (hi : 0 ≤ i ∧ i ≤ 3) :
    versallaw18_CoverBoxes.l1 (k + 1) a b c d px py m n j i = versallaw18_CoverBoxes.l1 k a b c d px py m (n + one a b c d px py j i) j (i + 1) := by
  rw [versallaw18_CoverBoxes.l1, if_pos (by omega), w64 (n := 8 * px) (by omega) (by omega), w64 (n := 2 * i) (by omega) (by omega), w64 (n := 8 * px + 2 * i) (by omega) (by omega), w64 (n := 8 * px + 2 * i + 1) (by omega) (by omega), w64 (n := 8 * py) (by omega) (by omega), w64 (n := 2 * j) (by omega) (by omega), w64 (n := 8 * py + 2 * j) (by omega) (by omega), w64 (n := 8 * py + 2 * j + 1) (by omega) (by omega), w64 (n := a + c) (by omega) (by omega), w64 (n := b + d) (by omega) (by omega), w64 (n := i + 1) (by omega) (by omega), w64 (n := n + 1) (by omega) (by omega)]
  unfold one inb
  by_cases h : a ≤ 8 * px + 2 * i + 1 ∧ 8 * px + 2 * i + 1 < a + c ∧ b ≤ 8 * py + 2 * j + 1 ∧ 8 * py + 2 * j + 1 < b + d
  · rw [if_pos (by omega), if_pos (by omega), if_pos (by omega), if_pos (by omega), if_pos h, if_neg (by omega)]
  · rw [if_neg h, if_pos rfl, Int.add_zero]
    repeat' split
    all_goals first | rfl | omega

theorem law_r (k : Nat) {m : List Int} {n j : Int} (hn : 0 ≤ n ∧ n ≤ 90) (hj : 0 ≤ j ∧ j ≤ 3) :
    versallaw18_CoverBoxes.l0 (k + 6) a b c d px py m n j = versallaw18_CoverBoxes.l0 k a b c d px py m (n + row a b c d px py j) (j + 1) := by
  have h0 := one_b a b c d px py j 0
  have h1 := one_b a b c d px py j 1
  have h2 := one_b a b c d px py j 2
  have h3 := one_b a b c d px py j 3
  have g1 := one_b a b c d px py j (0 + 1)
  have g2 := one_b a b c d px py j (0 + 1 + 1)
  rw [versallaw18_CoverBoxes.l0, if_pos (by omega)]
  rw [law_s ha hb hc hd hac hpx hpy (k + 4) (n := n) (i := 0) (by omega) hj (by omega)]
  rw [law_s ha hb hc hd hac hpx hpy (k + 3) (i := 0 + 1) (by omega) hj (by omega)]
  rw [law_s ha hb hc hd hac hpx hpy (k + 2) (i := 0 + 1 + 1) (by omega) hj (by omega)]
  rw [law_s ha hb hc hd hac hpx hpy (k + 1) (i := 0 + 1 + 1 + 1) (by omega) hj (by omega)]
  rw [versallaw18_CoverBoxes.l1, if_neg (by omega), w64 (n := j + 1) (by omega) (by omega)]
  unfold row
  rw [show n + one a b c d px py j 0 + one a b c d px py j (0 + 1) + one a b c d px py j (0 + 1 + 1) + one a b c d px py j (0 + 1 + 1 + 1) = n + (one a b c d px py j 0 + one a b c d px py j 1 + one a b c d px py j 2 + one a b c d px py j 3) by
    rw [show (0 : Int) + 1 = 1 by rfl, show (1 : Int) + 1 = 2 by rfl, show (2 : Int) + 1 = 3 by rfl]; omega]

theorem law_t (h2 : 2 * c ≤ 90) : ∀ (m k : Nat) (i : Int), 0 ≤ i → i + m = 16 → versallaw18_CoverBoxes.l2 (k + m + 20) a b c d px py (bx a b c d ++ bx (a + c) b c d) i = some true
  | 0, k, i, h0, h => by
    rw [show k + 0 + 20 = k + 19 + 1 by omega, versallaw18_CoverBoxes.l2, if_neg (by omega)]
  | m + 1, k, i, h0, h => by
    have p1 := Int.tmod_nonneg 4 h0
    have p2 := Int.tmod_lt_of_pos i (show (0 : Int) < 4 by omega)
    have p3 : 0 ≤ Int.tdiv i 4 ∧ Int.tdiv i 4 ≤ 3 := by rw [Int.tdiv_eq_ediv_of_nonneg h0]; omega
    rw [show k + (m + 1) + 20 = (k + m + 20) + 1 by omega, versallaw18_CoverBoxes.l2, if_pos (by omega)]
    generalize Int.tmod i 4 = A at *
    generalize Int.tdiv i 4 = B at *
    rw [w64 (n := 8 * px) (by omega) (by omega), w64 (n := 2 * A) (by omega) (by omega), w64 (n := 8 * px + 2 * A) (by omega) (by omega), w64 (n := 8 * px + 2 * A + 1) (by omega) (by omega), w64 (n := (8 * px + 2 * A + 1) * 8192) (by omega) (by omega),
      w64 (n := 8 * py) (by omega) (by omega), w64 (n := B) (by omega) (by omega), w64 (n := 2 * B) (by omega) (by omega), w64 (n := 8 * py + 2 * B) (by omega) (by omega), w64 (n := 8 * py + 2 * B + 1) (by omega) (by omega), w64 (n := (8 * py + 2 * B + 1) * 8192) (by omega) (by omega), w64 (n := 2 * c) (by omega) (by omega)]
    rw [show k + m + 20 = (k + m + 10) + 10 by omega, two_w _ ha hb hc (by omega) hac (by omega) (by omega), Option.bind_some, box_f ha hb (by omega) (by omega), Option.bind_some, show k + m + 10 + 10 = (k + m + 14) + 6 by omega, box_w _ ha hb (by omega) (by omega) (by omega) (by omega), Option.bind_some, if_pos rfl, w64 (n := i + 1) (by omega) (by omega), show k + m + 14 + 6 = k + m + 20 by omega]
    exact law_t h2 m k (i + 1) (by omega) (by omega)

theorem law_f (h2 : 2 * c ≤ 90) (k : Nat) : versallaw18_CoverBoxes.l0 (k + 140) a b c d px py [part (all a b c d px py)] 0 0 = some true := by
  have h0 := row_b a b c d px py 0
  have h1 := row_b a b c d px py 1
  have h2' := row_b a b c d px py 2
  have h3 := row_b a b c d px py 3
  rw [law_r ha hb hc hd hac hpx hpy (k + 134) (n := 0) (j := 0) (by omega) (by omega)]
  rw [law_r ha hb hc hd hac hpx hpy (k + 128) (j := 0 + 1) (by omega) (by omega)]
  rw [law_r ha hb hc hd hac hpx hpy (k + 122) (j := 0 + 1 + 1) (by rw [show (0 : Int) + 1 = 1 by rfl]; omega) (by omega)]
  rw [law_r ha hb hc hd hac hpx hpy (k + 116) (j := 0 + 1 + 1 + 1) (by rw [show (0 : Int) + 1 = 1 by rfl, show (1 : Int) + 1 = 2 by rfl]; omega) (by omega)]
  rw [show (0 : Int) + row a b c d px py 0 + row a b c d px py (0 + 1) + row a b c d px py (0 + 1 + 1) + row a b c d px py (0 + 1 + 1 + 1) = all a b c d px py by
    unfold all; rw [show (0 : Int) + 1 = 1 by rfl, show (1 : Int) + 1 = 2 by rfl, show (2 : Int) + 1 = 3 by rfl]; omega]
  have hA : 0 ≤ all a b c d px py ∧ all a b c d px py ≤ 16 := by unfold all; omega
  generalize all a b c d px py = A at *
  have hp : 0 ≤ part A ∧ part A ≤ 255 := by unfold part; omega
  have e : wrap64 (Int.tdiv (wrap64 ((wrap64 (A * 255)) + 8)) 16) = part A := by
    rw [w64 (n := A * 255) (by omega) (by omega), w64 (n := A * 255 + 8) (by omega) (by omega), Int.tdiv_eq_ediv_of_nonneg (by omega), w64 (n := (A * 255 + 8) / 16) (by omega) (by omega)]; rfl
  rw [versallaw18_CoverBoxes.l0, if_neg (by omega), show k + 115 = 80 + (k + 35) by omega, known_t, Option.bind_some, if_pos rfl, if_pos (by simp), if_pos (by simp), e, show rd [part A] 0 = part A by rfl, w64 (n := part A) (by omega) (by omega)]
  rw [show 80 + (k + 35) = (k + 114) + 1 by omega, versallaw18_CoverBoxes.j2, if_neg (by simp), box_f ha hb (by omega) (by omega), Option.bind_some, w64 (n := a + c) (by omega) (by omega), box_f (by omega) hb (by omega) (by omega), Option.bind_some, if_pos (by simp [bx])]
  rw [show k + 114 = (k + 78) + 16 + 20 by omega]
  exact law_t ha hb hc hd hac hpx hpy h2 16 (k + 78) 0 (by omega) (by omega)
end

theorem CoverBoxes : versallaw18_CoverBoxes.Pure := by
  intro a0 a1 a2 a3 a4 a5 _ _ _ _ _ _
  refine ⟨140, ?_⟩
  have q1 : (0 : Int) < 40 := by omega
  have q2 : (0 : Int) < 30 := by omega
  have q3 : (0 : Int) < 8 := by omega
  unfold versallaw18_CoverBoxes.f
  simp only [pick_f q1 (by omega), pick_f q2 (by omega), pick_f q3 (by omega), Option.bind_some]
  obtain ⟨x, e0⟩ : ∃ v, v = a0 % 40 - 8 := ⟨_, rfl⟩
  obtain ⟨y, e1⟩ : ∃ v, v = a1 % 40 - 8 := ⟨_, rfl⟩
  obtain ⟨c, e2⟩ : ∃ v, v = a2 % 30 := ⟨_, rfl⟩
  obtain ⟨d, e3⟩ : ∃ v, v = a3 % 30 := ⟨_, rfl⟩
  obtain ⟨px, e4⟩ : ∃ v, v = a4 % 8 - 2 := ⟨_, rfl⟩
  obtain ⟨py, e5⟩ : ∃ v, v = a5 % 8 - 2 := ⟨_, rfl⟩
  rw [← e0, ← e1, ← e2, ← e3, ← e4, ← e5]
  have b0 : -8 ≤ x ∧ x ≤ 31 := by omega
  have b1 : -8 ≤ y ∧ y ≤ 31 := by omega
  have b2 : 0 ≤ c ∧ c ≤ 29 := by omega
  have b3 : 0 ≤ d ∧ d ≤ 29 := by omega
  have b4 : -2 ≤ px ∧ px ≤ 5 := by omega
  have b5 : -2 ≤ py ∧ py ≤ 5 := by omega
  clear e0 e1 e2 e3 e4 e5
  rw [w64 (n := x) (by omega) (by omega), w64 (n := y) (by omega) (by omega), w64 (n := px) (by omega) (by omega), w64 (n := py) (by omega) (by omega)]
  rw [box_f (by omega) (by omega) (by omega) (by omega), Option.bind_some]
  rw [show (140 : Nat) = 96 + 44 by rfl, mask_f (by omega) (by omega) (by omega) (by omega) (by omega) (by omega) (by omega), Option.bind_some]
  exact law_f (by omega) (by omega) (by omega) (by omega) (by omega) (by omega) (by omega) (by omega) 0
end Go.Proofs.Ytkagmelijdfdiaa.Pure
