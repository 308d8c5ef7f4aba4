/- Plain arithmetic of blending: what the modes come to, and what follows of it, without any program. No conditions of ours. -/
import Derived.Test.YtkeacdpphmdodaaMath
namespace Go.Proofs.Ytkeacdpphmdodaa.Blm
open Go.RowKit Go.Proofs.YtkeacdpphmdodaaW.PrintWords Go.Proofs.Ytkeacdpphmdodaa.M

def br (n : Int) : Int := mx 0 (mn n 255)
theorem br_bd (n : Int) : 0 ≤ br n ∧ br n ≤ 255 := by unfold br mx mn; omega
theorem br_id {n : Int} (h0 : 0 ≤ n) (h1 : n ≤ 255) : br n = n := by unfold br mx mn; omega
theorem br_mono {a b : Int} (h : a ≤ b) : br a ≤ br b := by unfold br mx mn; omega
def part (a b : Int) : Int := (br a * br b + 127) / 255
theorem br_mul (a b : Int) : 0 ≤ br a * br b ∧ br a * br b ≤ 65025 := by
  have h := mul_bd (a := br a) (b := br b) (A := 255) (B := 255) (by have := br_bd a; omega) (by have := br_bd a; omega) (by have := br_bd b; omega) (by have := br_bd b; omega)
  exact ⟨Int.mul_nonneg (br_bd a).1 (br_bd b).1, by omega⟩
theorem part_bd (a b : Int) : 0 ≤ part a b ∧ part a b ≤ 255 := by have := br_mul a b; unfold part; omega
theorem part_comm (a b : Int) : part a b = part b a := by unfold part; rw [Int.mul_comm]
theorem part_full {a : Int} (h0 : 0 ≤ a) (h1 : a ≤ 255) : part a 255 = a := by unfold part; rw [br_id h0 h1, br_id (n := 255) (by omega) (by omega)]; omega
theorem part_nil (a : Int) : part a 0 = 0 := by unfold part; rw [br_id (n := 0) (by omega) (by omega), Int.mul_zero]; decide
theorem part_nil' (a : Int) : part 0 a = 0 := by rw [part_comm, part_nil]
theorem part_mono {a b c : Int} (h : a ≤ b) : part a c ≤ part b c := by
  have h1 := Int.mul_le_mul_of_nonneg_right (br_mono h) (br_bd c).1
  unfold part; omega
theorem part_le {a b : Int} (h0 : 0 ≤ a) (h1 : a ≤ 255) : part a b ≤ a := by
  have h := Int.mul_le_mul_of_nonneg_left (br_bd b).2 (br_bd a).1
  rw [br_id h0 h1] at h
  unfold part; rw [br_id h0 h1]; omega

def nt (n : Int) : Int := 255 - n
def screened (c b : Int) : Int := nt (part (nt c) (nt b))
def hard (c b : Int) : Int := if c ≤ 127 then part (2 * c) b else screened (2 * c - 255) b
def dodged (c b : Int) : Int := if b = 0 then 0 else if c = 255 then 255 else mn 255 (b * 255 / (255 - c))
def burnt (c b : Int) : Int := if b = 255 then 255 else if c = 0 then 0 else 255 - mn 255 ((255 - b) * 255 / c)
def mixed (m c b : Int) : Int :=
  if m = 13 then screened c b else if m = 14 then hard b c else if m = 15 then mn c b else if m = 16 then mx c b else if m = 17 then dodged c b else if m = 18 then burnt c b
  else if m = 19 then hard c b else if m = 20 then mn 255 (part (nt c) (part b b) + part c (screened b b)) else if m = 21 then mx c b - mn c b else if m = 22 then mx 0 (c + b - 2 * part c b) else part c b
abbrev T3 := Int × Int × Int
def lum (x : T3) : Int := (30 * x.1 + 59 * x.2.1 + 11 * x.2.2) / 100
def hi3 (x : T3) : Int := mx (mx x.1 x.2.1) x.2.2
def lo3 (x : T3) : Int := mn (mn x.1 x.2.1) x.2.2
def sat (x : T3) : Int := hi3 x - lo3 x
def sated (x : T3) (n : Int) : T3 := if sat x = 0 then (0, 0, 0) else ((x.1 - lo3 x) * n / sat x, (x.2.1 - lo3 x) * n / sat x, (x.2.2 - lo3 x) * n / sat x)
def lit1 (l lo hi x : Int) : Int :=
  let a := if lo < 0 ∧ l ≠ lo then l + (x - l) * l / (l - lo) else x
  let b := if 255 < hi ∧ hi ≠ l then l + (a - l) * (255 - l) / (hi - l) else a
  br b
def up (x : T3) (u : Int) : T3 := (x.1 + u, x.2.1 + u, x.2.2 + u)
def lit (x : T3) (n : Int) : T3 :=
  let y := up x (n - lum x)
  (lit1 (lum y) (lo3 y) (hi3 y) y.1, lit1 (lum y) (lo3 y) (hi3 y) y.2.1, lit1 (lum y) (lo3 y) (hi3 y) y.2.2)
def whole (m : Int) (c b : T3) : T3 := if m = 24 then lit (sated c (sat b)) (lum b) else if m = 25 then lit (sated b (sat c)) (lum b) else if m = 26 then lit c (lum b) else lit b (lum c)
def both (m : Int) (c b : T3) : T3 := if 24 ≤ m then whole m c b else (mixed m c.1 b.1, mixed m c.2.1 b.2.1, mixed m c.2.2 b.2.2)
abbrev P4 := Int × Int × Int × Int
def right (p : P4) : Prop := (0 ≤ p.1 ∧ p.1 ≤ 255) ∧ (0 ≤ p.2.1 ∧ p.2.1 ≤ 255) ∧ (0 ≤ p.2.2.1 ∧ p.2.2.1 ≤ 255) ∧ (0 ≤ p.2.2.2 ∧ p.2.2.2 ≤ 255)
def premul (p : P4) : Prop := right p ∧ p.1 ≤ p.2.2.2 ∧ p.2.1 ≤ p.2.2.2 ∧ p.2.2.1 ≤ p.2.2.2
instance (p : P4) : Decidable (premul p) := by unfold premul right; infer_instance
def bare (n a : Int) : Int := mn 255 ((n * 255 + a / 2) / a)
def bar (p : P4) : T3 := if p.2.2.2 = 0 then (0, 0, 0) else (bare p.1 p.2.2.2, bare p.2.1 p.2.2.2, bare p.2.2.1 p.2.2.2)
def factors (m sa da : Int) : Int × Int :=
  if m = 1 then (255, 0) else if m = 2 then (0, 255) else if m = 3 then (255, nt sa) else if m = 4 then (nt da, 255) else if m = 5 then (da, 0) else if m = 6 then (0, sa) else if m = 7 then (nt da, 0)
  else if m = 8 then (0, nt sa) else if m = 9 then (da, nt sa) else if m = 10 then (nt da, sa) else if m = 11 then (nt da, nt sa) else if m = 12 then (255, 255) else (0, 0)
def comp1 (s d f g : Int) : Int := mn 255 (part s f + part d g)
def composed (s d : P4) (f g : Int) : P4 := (comp1 s.1 d.1 f g, comp1 s.2.1 d.2.1 f g, comp1 s.2.2.1 d.2.2.1 f g, comp1 s.2.2.2 d.2.2.2 f g)
/-- one number of what a mode from 13 on makes: al the alpha, pt both alphas' part -/
def one (al pt s d sa da m : Int) : Int := mn al (part s (nt da) + part d (nt sa) + part pt m)
def blend (m : Int) (s d : P4) : P4 :=
  if m ≤ 12 then composed s d (factors m s.2.2.2 d.2.2.2).1 (factors m s.2.2.2 d.2.2.2).2
  else
    let x := both m (bar s) (bar d)
    let al := comp1 s.2.2.2 d.2.2.2 255 (nt s.2.2.2)
    let pt := part s.2.2.2 d.2.2.2
    (one al pt s.1 d.1 s.2.2.2 d.2.2.2 x.1, one al pt s.2.1 d.2.1 s.2.2.2 d.2.2.2 x.2.1, one al pt s.2.2.1 d.2.2.1 s.2.2.2 d.2.2.2 x.2.2, al)

/-! ### bounds -/
theorem bare_bd {n a : Int} (h0 : 0 ≤ n) (ha : 0 < a) : 0 ≤ bare n a ∧ bare n a ≤ 255 := by
  have h1 := Int.ediv_nonneg (a := n * 255 + a / 2) (b := a) (by omega) (by omega)
  unfold bare mn; omega
def in3 (x : T3) : Prop := (0 ≤ x.1 ∧ x.1 ≤ 255) ∧ (0 ≤ x.2.1 ∧ x.2.1 ≤ 255) ∧ (0 ≤ x.2.2 ∧ x.2.2 ≤ 255)
theorem bar_in {p : P4} (h : right p) : in3 (bar p) := by
  obtain ⟨h1, h2, h3, h4⟩ := h
  unfold bar
  split
  · unfold in3; simp
  · have ha : 0 < p.2.2.2 := by omega
    exact ⟨bare_bd h1.1 ha, bare_bd h2.1 ha, bare_bd h3.1 ha⟩
theorem lo_lum (x : T3) : lo3 x ≤ lum x := by unfold lo3 lum mn; omega
theorem lum_hi (x : T3) : lum x ≤ hi3 x := by unfold hi3 lum mx; omega
theorem lum_in {x : T3} (h : in3 x) : 0 ≤ lum x ∧ lum x ≤ 255 := by unfold in3 at h; unfold lum; omega
theorem sat_in {x : T3} (h : in3 x) : 0 ≤ sat x ∧ sat x ≤ 255 := by unfold in3 at h; unfold sat hi3 lo3 mx mn; omega
theorem lo_le (x : T3) : lo3 x ≤ x.1 ∧ lo3 x ≤ x.2.1 ∧ lo3 x ≤ x.2.2 := by unfold lo3 mn; omega
theorem le_hi (x : T3) : x.1 ≤ hi3 x ∧ x.2.1 ≤ hi3 x ∧ x.2.2 ≤ hi3 x := by unfold hi3 mx; omega
theorem scale_bd {x n s : Int} (h0 : 0 ≤ x) (h1 : x ≤ s) (hs : 0 < s) (n0 : 0 ≤ n) (n1 : n ≤ 255) : 0 ≤ x * n ∧ x * n ≤ s * 255 ∧ 0 ≤ x * n / s ∧ x * n / s ≤ 255 := by
  have e0 := Int.mul_nonneg h0 n0
  have e1 : x * n ≤ s * 255 := Int.le_trans (Int.mul_le_mul_of_nonneg_right h1 n0) (Int.mul_le_mul_of_nonneg_left n1 (by omega))
  refine ⟨e0, e1, Int.ediv_nonneg e0 (by omega), ?_⟩
  apply Int.le_of_lt_add_one
  apply Int.ediv_lt_of_lt_mul hs
  have : (255 + 1) * s = s * 255 + s := by omega
  omega
theorem sated_in {x : T3} {n : Int} (h : in3 x) (n0 : 0 ≤ n) (n1 : n ≤ 255) : in3 (sated x n) := by
  unfold sated
  split
  · unfold in3; simp
  · have hs := sat_in h
    have hl := lo_le x
    have hh := le_hi x
    have e : sat x = hi3 x - lo3 x := rfl
    exact ⟨(scale_bd (by omega) (by omega) (by omega) n0 n1).2.2, (scale_bd (by omega) (by omega) (by omega) n0 n1).2.2, (scale_bd (by omega) (by omega) (by omega) n0 n1).2.2⟩
theorem lit_in (x : T3) (n : Int) : in3 (lit x n) := ⟨br_bd _, br_bd _, br_bd _⟩
end Go.Proofs.Ytkeacdpphmdodaa.Blm
