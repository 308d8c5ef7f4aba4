/- Plain arithmetic of bends: how a node turns, by its format and its numbers. No conditions of ours. -/
import Derived.Test.YtabbpapmndimcaaAfl
namespace Go.Proofs.Ytabbpapmndimcaa.Afm
open Go.RowKit Go.Proofs.YtabbpapmndimcaaW.PrintWords Go.Proofs.Ytabbpapmndimcaa.M
set_option linter.unusedVariables false

def bw (n : Int) : Int := mx (-32768) (mn n 32767)
theorem bw_bd (n : Int) : -32768 ≤ bw n ∧ bw n ≤ 32767 := by unfold bw mx mn; omega
theorem bw_id {n : Int} (h1 : -32768 ≤ n) (h2 : n ≤ 32767) : bw n = n := by unfold bw mx mn; omega
def whole (n : Int) : Int := clip (clip n * 65536)
def from14 (n : Int) : Int := clip (clip n * 4)
theorem whole_id {n : Int} (h1 : -1000 ≤ n) (h2 : n ≤ 1000) : whole n = n * 65536 := by unfold whole; rw [clip_id (n := n) (by omega) (by omega), clip_id (by omega) (by omega)]
theorem from14_id {n : Int} (h1 : -32768 ≤ n) (h2 : n ≤ 32767) : from14 n = n * 4 := by unfold from14; rw [clip_id (n := n) (by omega) (by omega), clip_id (by omega) (by omega)]
/-- how a node turns: format, its eight numbers. -/
def bend (f a b c d e g h i : Int) : A6 × Bool :=
  if f = 12 then ((clip a, clip b, clip c, clip d, clip e, clip g), true)
  else if f = 14 then (shift (whole (bw a)) (whole (bw b)), true)
  else if f = 16 then (scale (from14 (bw a)) (from14 (bw b)), true)
  else if f = 18 then (around (scale (from14 (bw a)) (from14 (bw b))) (whole (bw c)) (whole (bw d)), true)
  else if f = 20 then (scale (from14 (bw a)) (from14 (bw a)), true)
  else if f = 22 then (around (scale (from14 (bw a)) (from14 (bw a))) (whole (bw b)) (whole (bw c)), true)
  else if f = 24 then (rotate (2 * bw a), true)
  else if f = 26 then (around (rotate (2 * bw a)) (whole (bw b)) (whole (bw c)), true)
  else if f = 28 then (skew (2 * bw a) (2 * bw b), true)
  else if f = 30 then (around (skew (2 * bw a) (2 * bw b)) (whole (bw c)) (whole (bw d)), true)
  else (one, false)
/-- what the four pairs of formats hold: turned about a place, what is plain is the same, and the place stays. -/
theorem about {p : A6} {x y : Int} (h : ∃ a b c d, p = (a, b, c, d, 0, 0) ∧ (-300000 ≤ a ∧ a ≤ 300000) ∧ (-300000 ≤ b ∧ b ≤ 300000) ∧ (-300000 ≤ c ∧ c ≤ 300000) ∧ (-300000 ≤ d ∧ d ≤ 300000)) (hx : -1000 ≤ x ∧ x ≤ 1000) (hy : -1000 ≤ y ∧ y ≤ 1000) :
    around p (whole (bw 0)) (whole (bw 0)) = p ∧ ∃ e f, around p (whole (bw x)) (whole (bw y)) = (p.1, p.2.1, p.2.2.1, p.2.2.2.1, e, f) ∧ apply (p.1, p.2.1, p.2.2.1, p.2.2.2.1, e, f) (x * 65536) (y * 65536) = (x * 65536, y * 65536) := by
  obtain ⟨a, b, c, d, rfl, ha, hb, hc, hd⟩ := h
  rw [bw_id (n := x) (by omega) (by omega), bw_id (n := y) (by omega) (by omega), whole_id hx.1 hx.2, whole_id hy.1 hy.2]
  have h0 := around_whole ha hb hc hd (X := 0) (Y := 0) (by omega) (by omega)
  have h1 := around_whole ha hb hc hd hx hy
  refine ⟨?_, _, _, h1.1, h1.2⟩
  rw [bw_id (by omega) (by omega), whole_id (by omega) (by omega)]
  rw [h0.1]
  simp
theorem near_scale {a b : Int} (ha : -10000 ≤ a ∧ a ≤ 10000) (hb : -10000 ≤ b ∧ b ≤ 10000) : ∃ p q r s, scale (from14 (bw a)) (from14 (bw b)) = (p, q, r, s, 0, 0) ∧ (-300000 ≤ p ∧ p ≤ 300000) ∧ (-300000 ≤ q ∧ q ≤ 300000) ∧ (-300000 ≤ r ∧ r ≤ 300000) ∧ (-300000 ≤ s ∧ s ≤ 300000) := by
  rw [bw_id (n := a) (by omega) (by omega), bw_id (n := b) (by omega) (by omega), from14_id (n := a) (by omega) (by omega), from14_id (n := b) (by omega) (by omega)]
  refine ⟨_, _, _, _, rfl, ?_, by omega, by omega, ?_⟩ <;> rw [clip_id (by omega) (by omega)] <;> omega
theorem near_rotate (a : Int) : ∃ p q r s, rotate a = (p, q, r, s, 0, 0) ∧ (-300000 ≤ p ∧ p ≤ 300000) ∧ (-300000 ≤ q ∧ q ≤ 300000) ∧ (-300000 ≤ r ∧ r ≤ 300000) ∧ (-300000 ≤ s ∧ s ≤ 300000) := by
  have h1 := sin_bd a
  have h2 := sin_bd (a % 65536 + 16384)
  have h3 : -65536 ≤ cos a ∧ cos a ≤ 65536 := h2
  exact ⟨_, _, _, _, rfl, by omega, by omega, by omega, by omega⟩
theorem near_skew {a b : Int} (ha : -3340 ≤ a ∧ a ≤ 3340) (hb : -3340 ≤ b ∧ b ≤ 3340) : ∃ p q r s, skew (2 * bw a) (2 * bw b) = (p, q, r, s, 0, 0) ∧ (-300000 ≤ p ∧ p ≤ 300000) ∧ (-300000 ≤ q ∧ q ≤ 300000) ∧ (-300000 ≤ r ∧ r ≤ 300000) ∧ (-300000 ≤ s ∧ s ≤ 300000) := by
  rw [bw_id (n := a) (by omega) (by omega), bw_id (n := b) (by omega) (by omega)]
  have h1 := tan_near (a := 2 * a) (by omega)
  have h2 := tan_near (a := 2 * b) (by omega)
  unfold skew
  exact ⟨_, _, _, _, rfl, by omega, by omega, by omega, by omega⟩
end Go.Proofs.Ytabbpapmndimcaa.Afm
