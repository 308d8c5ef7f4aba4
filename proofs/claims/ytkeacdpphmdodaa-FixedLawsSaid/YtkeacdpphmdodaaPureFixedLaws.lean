/- A product does not hang on the order of its parts, One leaves all as it is, a quotient times its divisor is not more than its divisor's size off, a root's square is not above, the next one's is. No conditions. -/
import Derived.Test.YtkeacdpphmdodaaPFixedLawsx2
import Derived.Test.YtkeacdpphmdodaaMath
namespace Go.Proofs.Ytkeacdpphmdodaa.Pure
open Go.RowKit Go.Proofs.Ytkeacdpphmdodaa.PFixedLaws Go.Proofs.YtkeacdpphmdodaaW.PrintWords Go.Proofs.YtkeacdpphmdodaaW.PrintLast Go.Proofs.Ytkeacdpphmdodaa.M
set_option linter.unusedSimpArgs false
set_option linter.unusedVariables false

theorem pick_f {n m : Int} (h1 : 0 < m) (h2 : m ≤ 9223372036854775807) : versalhand_Pick.f n m = some (n % m) := by
  have ha := Int.lt_tmod_of_pos n h1
  have hb := Int.tmod_lt_of_pos n h1
  rw [← tmod_pick h1]
  unfold versalhand_Pick.f
  rw [if_neg (by omega)]
  by_cases h : n.tmod m < 0
  · rw [if_pos h, if_pos h, w64 (by omega) (by omega)]
  · rw [if_neg h, if_neg h]

theorem num_f {a : Int} (ha : (Lit.int .i64 a).wf = true) : ∃ v, versalhand_Num.f a = some v ∧ -9223372036854775808 ≤ v ∧ v ≤ 9223372036854775807 := by
  have hb := bounds_i64 ha
  unfold versalhand_Num.f
  have w : ∀ n : Int, -9223372036854775808 ≤ wrap64 n ∧ wrap64 n ≤ 9223372036854775807 := fun n => by unfold wrap64; omega
  simp only [pick_f (show (0:Int) < 8 by omega) (by omega), pick_f (show (0:Int) < 2001 by omega) (by omega), pick_f (show (0:Int) < 9 by omega) (by omega), pick_f (show (0:Int) < 1310720 by omega) (by omega), Option.bind_some]
  split
  · exact ⟨_, rfl, hb⟩
  · split
    · exact ⟨_, rfl, w _⟩
    · split
      · exact ⟨_, rfl, w _⟩
      · split
        · exact ⟨_, rfl, w _⟩
        · exact ⟨_, rfl, w _⟩

theorem clip_f (a : Int) : fixed_Clip.f a = some (clip a) := rfl

theorem floored_f {a b : Int} (hb : b ≠ 0) (h1 : -9000000000000000000 ≤ a) (h2 : a ≤ 9000000000000000000) : fixed_floored.f a b = some (fl a b) := by
  have h3 := tdiv_le (n := a) (d := b)
  rw [← fl_tdiv hb]
  unfold fixed_floored.f
  rw [if_neg hb, w64 (n := a.tdiv b) (by omega) (by omega), w64 (n := a.tdiv b - 1) (by omega) (by omega)]
  split
  · rfl
  · split
    · rfl
    · rfl

theorem mul_f (a b : Int) : fixed_Mul.f a b = some (mul a b) := by
  have h := clip_mul_bd a b
  unfold fixed_Mul.f mul
  simp only [clip_f, Option.bind_some]
  rw [w64 (n := clip a * clip b) (by omega) (by omega), w64 (by omega) (by omega)]
theorem div_f (a b : Int) : fixed_Div.f a b = some (div a b) := by
  have h := clip_bd a
  unfold fixed_Div.f div
  simp only [clip_f, Option.bind_some]
  by_cases h0 : clip b = 0
  · rw [if_pos h0, if_pos h0]
    by_cases h1 : clip a > 0
    · rw [if_pos h1, if_pos h1]
    · rw [if_neg h1, if_neg h1]
      by_cases h2 : clip a < 0
      · rw [if_pos h2, if_pos h2]
      · rw [if_neg h2, if_neg h2]
  · rw [if_neg h0, if_neg h0, w64 (by omega) (by omega), floored_f h0 (by omega) (by omega)]
    simp only [Option.bind_some]

def rnd (a : Int) : Int := (clip a + 32768) / 65536
def who (a : Int) : Int := clip (clip a * 65536)
theorem round_f (a : Int) : fixed_Round.f a = some (rnd a) := by
  have h := clip_bd a
  unfold fixed_Round.f rnd
  simp only [clip_f, Option.bind_some]
  rw [w64 (by omega) (by omega)]
theorem whole_f (a : Int) : fixed_Whole.f a = some (who a) := by
  have h := clip_bd a
  unfold fixed_Whole.f who
  simp only [clip_f, Option.bind_some]
  rw [w64 (by omega) (by omega)]

theorem root_l0 {n : Int} (hn : n ≤ 9223372036854775807) : ∀ (i : Nat), i ≤ 32 → ∀ (k : Nat), i < k → ∀ r : Int, 0 ≤ r → r % 2 ^ i = 0 → r + 2 ^ i ≤ 2 ^ 32 → fixed_Root.l0 k n r ((i : Int) - 1) = some (rootS i n r) := by
  intro i
  induction i with
  | zero =>
    intro _ k hk r _ _ _
    obtain ⟨k, rfl⟩ : ∃ m, k = m + 1 := ⟨k - 1, by omega⟩
    simp only [fixed_Root.l0]
    rw [if_neg (by omega)]; rfl
  | succ i ih =>
    intro hi k hk r h0 hm hr
    obtain ⟨k, rfl⟩ : ∃ m, k = m + 1 := ⟨k - 1, by omega⟩
    have hp := two_pow_pos i
    have e : (2 : Int) ^ (i + 1) = 2 ^ i + 2 ^ i := by rw [Int.pow_succ]; omega
    have hd := mod_down hm
    have ei : ((i + 1 : Nat) : Int) - 1 = (i : Int) := by omega
    simp only [fixed_Root.l0]
    rw [ei, shl_one (by omega), or_bit (by omega) h0 hm (by omega), w64 (n := (i : Int) - 1) (by omega) (by omega)]
    rw [if_pos (by omega), if_pos (by omega)]
    have A := ih (by omega) k (by omega) (r + 2 ^ i) (by omega) hd.2 (by omega)
    have B := ih (by omega) k (by omega) r h0 hd.1 (by omega)
    by_cases hn0 : 0 < n
    · have ht := tdiv_le (n := n) (d := r + 2 ^ i)
      rw [if_pos hn0, if_neg (by omega), w64 (n := n.tdiv (r + 2 ^ i)) (by omega) (by omega)]
      have hiff := le_tdiv_iff (n := n) (m := r + 2 ^ i) (by omega) hn0
      by_cases h : (r + 2 ^ i) * (r + 2 ^ i) ≤ n
      · rw [if_pos (hiff.2 h), A]; conv => rhs; unfold rootS
        rw [if_pos ⟨hn0, h⟩]
      · rw [if_neg (fun x => h (hiff.1 x)), B]; conv => rhs; unfold rootS
        rw [if_neg (fun x => h x.2)]
    · rw [if_neg hn0, B]; conv => rhs; unfold rootS
      rw [if_neg (fun x => hn0 x.1)]
theorem root_f {n : Int} (hn : n ≤ 9223372036854775807) {k : Nat} (hk : 32 < k) : fixed_Root.f k n = some (root n) :=
  root_l0 hn 32 (by omega) k hk 0 (by omega) (by decide) (by decide)

theorem known_t : versallaw3_known.f = some true := by decide +kernel

theorem tmod_bd (n : Int) : -1073741824 < n.tmod 1073741824 ∧ n.tmod 1073741824 < 1073741824 :=
  ⟨Int.lt_tmod_of_pos n (by omega), Int.tmod_lt_of_pos n (by omega)⟩

theorem mul_one' {a : Int} (h1 : -1073741824 < a) (h2 : a < 1073741824) : mul a 65536 = a := by
  unfold mul
  rw [clip_id (n := a) (by omega) (by omega), clip_id (n := 65536) (by omega) (by omega), clip_id (by omega) (by omega)]
  omega
theorem mul_zero' (a : Int) : mul a 0 = 0 := by
  unfold mul
  rw [clip_id (n := 0) (by omega) (by omega), Int.mul_zero]; decide
theorem div_one' {a : Int} (h1 : -1073741824 < a) (h2 : a < 1073741824) : div a 65536 = a := by
  unfold div
  rw [clip_id (n := a) (by omega) (by omega), clip_id (n := 65536) (by omega) (by omega), if_neg (by omega), fl_mul (by omega), clip_id (by omega) (by omega)]

theorem root_part {k : Nat} (hk : 32 < k) {n : Int} (h0 : 0 ≤ n) (h1 : n ≤ 1073741824000) :
    ((fixed_Root.f k n).bind fun t => (if t ≥ 0 then (if (wrap64 (t * t)) ≤ n then (some (decide ((wrap64 ((wrap64 (t + 1)) * (wrap64 (t + 1)))) > n))) else (some false)) else (some false))) = some true := by
  have hr := root_spec h0 (show n ≤ 9223372036854775807 by omega)
  have hb : root n < 1073741824 := by
    apply sq_lt (by omega); omega
  rw [root_f (by omega) hk]
  simp only [Option.bind_some]
  generalize root n = r at *
  have e : (r + 1) * (r + 1) = r * r + 2 * r + 1 := by grind
  have hq : r * r ≤ 1073741824000 := by omega
  rw [w64 (n := r * r) (by omega) (by omega), w64 (n := r + 1) (by omega) (by omega), w64 (n := (r + 1) * (r + 1)) (by omega) (by omega)]
  rw [if_pos hr.1, if_pos hr.2.1]
  simp only [Option.some.injEq, decide_eq_true_eq]
  omega

theorem FixedLaws : versallaw3_FixedLaws.Pure := by
  intro a0 a1 w0 w1
  obtain ⟨a', ha, _, _⟩ := num_f w0
  obtain ⟨b', hb, _, _⟩ := num_f w1
  refine ⟨36, ?_⟩
  unfold versallaw3_FixedLaws.f
  simp only [ha, hb, Option.bind_some, known_t, mul_f, round_f, whole_f, clip_f, div_f, if_true]
  have ba := tmod_bd a'
  have bb := tmod_bd b'
  generalize a'.tmod 1073741824 = a at *
  generalize b'.tmod 1073741824 = b at *
  have bt : -30000 < a.tmod 30000 ∧ a.tmod 30000 < 30000 := ⟨Int.lt_tmod_of_pos a (by omega), Int.tmod_lt_of_pos a (by omega)⟩
  rw [if_pos (mul_comm' a b), mul_one' ba.1 ba.2, if_pos rfl, mul_zero', if_pos rfl, div_one' ba.1 ba.2, if_pos rfl]
  have er : rnd (who (a.tmod 30000)) = a.tmod 30000 := by
    unfold rnd who
    rw [clip_clip, clip_id (n := a.tmod 30000) (by omega) (by omega), clip_id (by omega) (by omega)]
    omega
  rw [er]
  have hx : (a.tmod 30000 != a.tmod 30000) = false := by simp
  rw [hx]
  have hm : wrap64 (mx a (wrap64 (-a)) * 1000) = mx a (-a) * 1000 := by
    rw [w64 (n := -a) (by omega) (by omega), w64 (by unfold mx; omega) (by unfold mx; omega)]
  have hm0 : 0 ≤ mx a (-a) * 1000 := by unfold mx; omega
  have hm1 : mx a (-a) * 1000 ≤ 1073741824000 := by unfold mx; omega
  simp only [versallaw3_FixedLaws.j0, div_f, Option.bind_some, hm]
  rw [if_neg (by decide)]
  by_cases hb0 : b = 0
  · rw [if_pos hb0]; exact root_part (by omega) hm0 hm1
  · rw [if_neg hb0]
    have R := root_part (k := 34) (by omega) hm0 hm1
    generalize mx a (-a) * 1000 = n at *
    have eq : div a b = clip (fl (a * 65536) b) := by
      unfold div
      rw [clip_id (n := a) (by omega) (by omega), clip_id (n := b) (by omega) (by omega), if_neg hb0]
    by_cases hq : div a b > -2147483647
    · rw [if_pos hq]
      by_cases hq2 : div a b < 2147483647
      · rw [decide_eq_true hq2]
        simp only [versallaw3_FixedLaws.j1, hm, if_true, R]
        have eq2 : div a b = fl (a * 65536) b := by
          rw [eq] at hq hq2 ⊢
          revert hq hq2
          unfold clip mx mn; omega
        rw [eq2]
        have hs := fl_spec (a := a * 65536) hb0
        generalize fl (a * 65536) b = q at *
        by_cases hp : 0 < b
        · have h1 := hs.1 hp
          rw [if_pos hp, w64 (n := a * 65536) (by omega) (by omega), w64 (n := q * b) (by omega) (by omega), w64 (by omega) (by omega), if_neg (by omega), if_neg (by omega), if_neg (by omega)]
        · have h1 := hs.2 (by omega)
          rw [if_neg (by omega), if_pos (by omega), w64 (n := a * 65536) (by omega) (by omega), w64 (n := q * b) (by omega) (by omega), w64 (by omega) (by omega), if_neg (by omega), if_neg (by omega)]
      · rw [decide_eq_false hq2]
        simp only [versallaw3_FixedLaws.j1, hm, R]
        rfl
    · rw [if_neg hq]
      simp only [versallaw3_FixedLaws.j1, hm, R]
      rfl
end Go.Proofs.Ytkeacdpphmdodaa.Pure
