/- Plain arithmetic over whole numbers: what the printed functions of numbers come to, and lemmas on products, quotients and roots. -/
import Derived.Test.YtkagmelijdfdiaaWMore
import Derived.OpenShut
import Derived.Laws.BitsLemmas
namespace Go.Proofs.Ytkagmelijdfdiaa.M
open Go.RowKit Go.Proofs.YtkagmelijdfdiaaW.PrintWords

theorem w64 {n : Int} (h1 : -9223372036854775808 ≤ n) (h2 : n ≤ 9223372036854775807) : wrap64 n = n := by
  unfold wrap64; omega

theorem tmod_nonpos {a b : Int} (h : a ≤ 0) : a.tmod b ≤ 0 := by
  have := Int.tmod_nonneg b (show 0 ≤ -a by omega)
  rw [Int.neg_tmod] at this
  omega

theorem tmod_pick {n m : Int} (hm : 0 < m) : (if n.tmod m < 0 then n.tmod m + m else n.tmod m) = n % m := by
  rw [Int.tmod_eq_emod]
  have h1 := Int.emod_nonneg n (show m ≠ 0 by omega)
  have h2 := Int.emod_lt_of_pos n hm
  by_cases h : 0 ≤ n ∨ m ∣ n
  · rw [if_pos h]; rw [if_neg (by omega)]; omega
  · rw [if_neg h]
    have : n % m ≠ 0 := fun e => h (Or.inr (Int.dvd_of_emod_eq_zero e))
    rw [if_pos (by omega)]; omega

/-- floored quotient -/
def fl (a b : Int) : Int := if 0 < b then a / b else (-a) / (-b)

theorem tdiv_floor {n d : Int} (hd : 0 < d) : (if n.tmod d < 0 then n.tdiv d - 1 else n.tdiv d) = n / d := by
  rw [Int.tmod_eq_emod, Int.tdiv_eq_ediv]
  have h1 := Int.emod_nonneg n (show d ≠ 0 by omega)
  have h2 := Int.emod_lt_of_pos n hd
  by_cases h : 0 ≤ n ∨ d ∣ n
  · rw [if_pos h, if_pos h]; rw [if_neg (by omega)]; omega
  · rw [if_neg h, if_neg h]
    have : n % d ≠ 0 := fun e => h (Or.inr (Int.dvd_of_emod_eq_zero e))
    rw [if_pos (by omega), Int.sign_eq_one_of_pos hd]; omega

theorem tdiv_le {n d : Int} : n.tdiv d ≤ max n (-n) ∧ -(max n (-n)) ≤ n.tdiv d := by
  have h := Int.natAbs_tdiv_le_natAbs n d
  omega

theorem ediv_bd {n d : Int} (hd : 0 < d) : n / d ≤ max n (-n) ∧ -(max n (-n)) ≤ n / d := by
  have h1 := Int.ediv_mul_le n (show d ≠ 0 by omega)
  have h2 := Int.lt_ediv_add_one_mul_self n hd
  constructor
  · by_cases h : 0 ≤ n
    · have := Int.ediv_le_self d h
      omega
    · have : n / d < 0 := Int.ediv_neg_of_neg_of_pos (by omega) hd
      omega
  · by_cases h : 0 ≤ n
    · have := Int.ediv_nonneg h (show 0 ≤ d by omega)
      omega
    · have h3 : -((-n + d - 1) / d) ≤ n / d := by
        have h4 : (-n + d - 1) / d * d ≤ (-n + d - 1) := Int.ediv_mul_le _ (by omega)
        have h5 : (-n + d - 1) < ((-n + d - 1) / d + 1) * d := Int.lt_ediv_add_one_mul_self _ hd
        apply Int.le_ediv_of_mul_le hd
        rw [Int.neg_mul]
        rw [Int.add_mul] at h5
        omega
      have h6 : (-n + d - 1) / d ≤ -n := by
        have : (-n + d - 1) / d < -n + 1 := by
          apply Int.ediv_lt_of_lt_mul hd
          have : (-n + 1) * d = (-n) * d + d := by rw [Int.add_mul]; omega
          rw [this]
          have : -n * 1 ≤ -n * d := Int.mul_le_mul_of_nonneg_left (by omega) (by omega)
          omega
        omega
      omega

theorem fl_tdiv {a b : Int} (hb : b ≠ 0) : (if a.tmod b = 0 then a.tdiv b else if (decide (a < 0) != decide (b < 0)) = true then a.tdiv b - 1 else a.tdiv b) = fl a b := by
  unfold fl
  by_cases hp : 0 < b
  · rw [if_pos hp, ← tdiv_floor hp]
    have hd : decide (b < 0) = false := by simp; omega
    rw [hd]
    by_cases e : a.tmod b = 0
    · rw [if_pos e, if_neg (by omega)]
    · rw [if_neg e]
      by_cases ha : a < 0
      · have h : decide (a < 0) = true := by simpa using ha
        rw [h]
        have : a.tmod b < 0 := by
          have := tmod_nonpos (b := b) (show a ≤ 0 by omega)
          omega
        rw [if_pos this]; rfl
      · have h : decide (a < 0) = false := by simpa using ha
        rw [h]
        have : 0 ≤ a.tmod b := Int.tmod_nonneg b (by omega)
        rw [if_neg (show ¬ a.tmod b < 0 by omega)]; rfl
  · rw [if_neg hp]
    have hn : 0 < -b := by omega
    rw [← tdiv_floor hn]
    have hd : decide (b < 0) = true := by simp; omega
    rw [hd]
    have e1 : (-a).tmod (-b) = -(a.tmod b) := by rw [Int.neg_tmod, Int.tmod_neg]
    have e2 : (-a).tdiv (-b) = a.tdiv b := by rw [Int.neg_tdiv, Int.tdiv_neg]; omega
    rw [e1, e2]
    by_cases e : a.tmod b = 0
    · rw [if_pos e, if_neg (by omega)]
    · rw [if_neg e]
      by_cases ha : a < 0
      · have h : decide (a < 0) = true := by simpa using ha
        rw [h]
        have : a.tmod b < 0 := by
          have := tmod_nonpos (b := b) (show a ≤ 0 by omega)
          omega
        rw [if_neg (show ¬ -(a.tmod b) < 0 by omega)]; rfl
      · have h : decide (a < 0) = false := by simpa using ha
        rw [h]
        have : 0 ≤ a.tmod b := Int.tmod_nonneg b (by omega)
        rw [if_pos (show -(a.tmod b) < 0 by omega)]; rfl

/-- within the bounds of 16.16 -/
def clip (n : Int) : Int := mx (-2147483647) (mn n 2147483647)
theorem clip_bd (n : Int) : -2147483647 ≤ clip n ∧ clip n ≤ 2147483647 := by unfold clip mx mn; omega
theorem clip_id {n : Int} (h1 : -2147483647 ≤ n) (h2 : n ≤ 2147483647) : clip n = n := by unfold clip mx mn; omega
theorem clip_hi {n : Int} (h : 2147483647 ≤ n) : clip n = 2147483647 := by unfold clip mx mn; omega
theorem clip_lo {n : Int} (h : n ≤ -2147483647) : clip n = -2147483647 := by unfold clip mx mn; omega
theorem clip_mono {a b : Int} (h : a ≤ b) : clip a ≤ clip b := by unfold clip mx mn; omega
theorem clip_clip (n : Int) : clip (clip n) = clip n := clip_id (clip_bd n).1 (clip_bd n).2
theorem clip_neg (n : Int) : clip (-n) = -clip n := by unfold clip mx mn; omega

theorem mul_bd {a b A B : Int} (h1 : -A ≤ a) (h2 : a ≤ A) (h3 : -B ≤ b) (h4 : b ≤ B) : -(A * B) ≤ a * b ∧ a * b ≤ A * B := by
  have hA : 0 ≤ A := by omega
  have hB : 0 ≤ B := by omega
  by_cases ha : 0 ≤ a
  · by_cases hb : 0 ≤ b
    · have := Int.mul_le_mul h2 h4 hb hA
      have := Int.mul_nonneg ha hb
      constructor <;> omega
    · have h := Int.mul_le_mul h2 (show -b ≤ B by omega) (by omega) hA
      have h' := Int.mul_nonneg ha (show 0 ≤ -b by omega)
      rw [Int.mul_neg] at h h'
      constructor <;> omega
  · by_cases hb : 0 ≤ b
    · have h := Int.mul_le_mul (show -a ≤ A by omega) h4 hb hA
      have h' := Int.mul_nonneg (show 0 ≤ -a by omega) hb
      rw [Int.neg_mul] at h h'
      constructor <;> omega
    · have h := Int.mul_le_mul (show -a ≤ A by omega) (show -b ≤ B by omega) (by omega) hA
      have h' := Int.mul_nonneg (show 0 ≤ -a by omega) (show 0 ≤ -b by omega)
      rw [Int.neg_mul_neg] at h h'
      constructor <;> omega

theorem clip_mul_bd (a b : Int) : -4611686014132420609 ≤ clip a * clip b ∧ clip a * clip b ≤ 4611686014132420609 := by
  have h := mul_bd (clip_bd a).1 (clip_bd a).2 (clip_bd b).1 (clip_bd b).2
  omega

/-- a product in 16.16 -/
def mul (a b : Int) : Int := clip ((clip a * clip b + 32768) / 65536)
theorem mul_comm' (a b : Int) : mul a b = mul b a := by unfold mul; rw [Int.mul_comm]
/-- a quotient in 16.16 -/
def div (a b : Int) : Int := if clip b = 0 then (if 0 < clip a then 2147483647 else if clip a < 0 then -2147483647 else 0) else clip (fl (clip a * 65536) (clip b))

def wide (n : Int) : Int := mx (-70368744177664) (mn n 70368744177664)
theorem wide_bd (n : Int) : -70368744177664 ≤ wide n ∧ wide n ≤ 70368744177664 := by unfold wide mx mn; omega
theorem wide_id {n : Int} (h1 : -70368744177664 ≤ n) (h2 : n ≤ 70368744177664) : wide n = n := by unfold wide mx mn; omega
theorem wide_zero {n : Int} : wide n = 0 ↔ n = 0 := by unfold wide mx mn; omega
def ratio (n d : Int) : Int := if wide d = 0 then 0 else clip (fl (wide n * 65536) (wide d))

theorem fl_bd {a b : Int} (hb : b ≠ 0) : fl a b ≤ max a (-a) ∧ -(max a (-a)) ≤ fl a b := by
  unfold fl
  split
  · exact ediv_bd (by omega)
  · have := ediv_bd (n := -a) (d := -b) (by omega)
    omega

/-- what a floored quotient is, by its two bounds -/
theorem fl_spec {a b : Int} (hb : b ≠ 0) : (0 < b → fl a b * b ≤ a ∧ a < fl a b * b + b) ∧ (b < 0 → a ≤ fl a b * b ∧ fl a b * b + b < a) := by
  unfold fl
  constructor
  · intro h
    rw [if_pos h]
    have h1 := Int.ediv_mul_le a (show b ≠ 0 by omega)
    have h2 := Int.lt_ediv_add_one_mul_self a h
    rw [Int.add_mul] at h2
    omega
  · intro h
    rw [if_neg (by omega)]
    have h1 := Int.ediv_mul_le (-a) (show -b ≠ 0 by omega)
    have h2 := Int.lt_ediv_add_one_mul_self (-a) (show 0 < -b by omega)
    rw [Int.add_mul] at h2
    rw [Int.mul_neg] at h1 h2
    omega

theorem fl_eq {a b q : Int} (hb : 0 < b) (h1 : q * b ≤ a) (h2 : a < q * b + b) : fl a b = q := by
  unfold fl; rw [if_pos hb]
  have h3 := Int.ediv_mul_le a (show b ≠ 0 by omega)
  have h4 := Int.lt_ediv_add_one_mul_self a hb
  have h5 : q < a / b + 1 := by
    apply Int.lt_of_mul_lt_mul_right (a := b) _ (by omega)
    omega
  have h6 : a / b < q + 1 := by
    apply Int.lt_of_mul_lt_mul_right (a := b) _ (by omega)
    rw [Int.add_mul]; omega
  omega

theorem fl_mul {q b : Int} (hb : b ≠ 0) : fl (q * b) b = q := by
  unfold fl
  split
  · exact Int.mul_ediv_cancel q hb
  · rw [← Int.mul_neg]; exact Int.mul_ediv_cancel q (by omega)

theorem fl_mono {a b d : Int} (hd : 0 < d) (h : a ≤ b) : fl a d ≤ fl b d := by
  unfold fl; rw [if_pos hd, if_pos hd]; exact Int.ediv_le_ediv hd h

/-- a root, bit by bit, from bit i - 1 on -/
def rootS : Nat → Int → Int → Int
  | 0, _, r => r
  | i + 1, n, r => if 0 < n ∧ (r + 2 ^ i) * (r + 2 ^ i) ≤ n then rootS i n (r + 2 ^ i) else rootS i n r
def root (n : Int) : Int := rootS 32 n 0

theorem sq_mono {a b : Int} (h0 : 0 ≤ a) (h : a ≤ b) : a * a ≤ b * b := Int.mul_le_mul h h h0 (by omega)
theorem sq_lt {a b : Int} (hb : 0 ≤ b) (h : a * a < b * b) : a < b := by
  by_cases h' : a < b
  · exact h'
  · have := sq_mono hb (show b ≤ a by omega)
    omega
theorem two_pow_pos (i : Nat) : (0 : Int) < 2 ^ i := Int.pow_pos (by omega)

theorem rootS_spec (n : Int) (hn : 0 < n) (i : Nat) : ∀ r : Int, 0 ≤ r → r * r ≤ n → n < (r + 2 ^ i) * (r + 2 ^ i) →
    0 ≤ rootS i n r ∧ rootS i n r * rootS i n r ≤ n ∧ n < (rootS i n r + 1) * (rootS i n r + 1) := by
  induction i with
  | zero => intro r h0 h1 h2; exact ⟨h0, h1, by simpa [rootS] using h2⟩
  | succ i ih =>
    intro r h0 h1 h2
    have hp := two_pow_pos i
    unfold rootS
    by_cases h : (r + 2 ^ i) * (r + 2 ^ i) ≤ n
    · rw [if_pos ⟨hn, h⟩]
      refine ih _ (by omega) h ?_
      have e : r + 2 ^ i + 2 ^ i = r + 2 ^ (i + 1) := by rw [Int.pow_succ]; omega
      rw [e]; exact h2
    · rw [if_neg (fun x => h x.2)]
      exact ih r h0 h1 (by omega)

theorem rootS_low (n : Int) (hn : n ≤ 0) (i : Nat) (r : Int) : rootS i n r = r := by
  induction i with
  | zero => rfl
  | succ i ih => unfold rootS; rw [if_neg (fun x => by omega), ih]

theorem root_low {n : Int} (hn : n ≤ 0) : root n = 0 := rootS_low n hn 32 0
theorem root_spec {n : Int} (h0 : 0 ≤ n) (h1 : n ≤ 9223372036854775807) : 0 ≤ root n ∧ root n * root n ≤ n ∧ n < (root n + 1) * (root n + 1) := by
  by_cases h : n = 0
  · subst h; rw [root_low (by omega)]; omega
  · exact rootS_spec n (by omega) 32 0 (by omega) (by omega) (by omega)
theorem root_mono {a b : Int} (h : a ≤ b) (hb : b ≤ 9223372036854775807) : root a ≤ root b := by
  by_cases h0 : 0 ≤ a
  · have ha := root_spec h0 (by omega)
    have hb' := root_spec (n := b) (by omega) hb
    have := sq_lt (a := root a) (b := root b + 1) (by omega) (by omega)
    omega
  · rw [root_low (by omega)]
    by_cases h1 : 0 ≤ b
    · exact (root_spec h1 hb).1
    · rw [root_low (by omega)]; omega
theorem root_bd {n : Int} (h1 : n ≤ 9223372036854775807) : 0 ≤ root n ∧ root n ≤ 3037000499 := by
  by_cases h0 : 0 ≤ n
  · have h := root_spec h0 h1
    have := sq_lt (a := root n) (b := 3037000500) (by omega) (by omega)
    omega
  · rw [root_low (by omega)]; omega

theorem wrap_i64_id {n : Int} (h₀ : 0 ≤ n) (h₁ : n < 2 ^ 63) : IntKind.i64.wrap n = n := by rw [IntKind.wrap_i64]; omega
theorem shl_one {i : Nat} (hi : i < 63) : shl .i64 1 (i : Int) = 2 ^ i := by
  unfold shl
  have h2 : (2 : Int) ^ i < 2 ^ 63 := Int.pow_lt_pow_of_lt (by omega) hi
  have e : min ((i : Int).toNat) IntKind.i64.bits = i := by
    rw [Int.toNat_natCast]; show min i 64 = i; omega
  rw [e, Int.one_mul, wrap_i64_id (by have := two_pow_pos i; omega) h2]
theorem or_bit {i : Nat} {x : Int} (hi : i < 63) (h0 : 0 ≤ x) (hx : x % 2 ^ (i + 1) = 0) (h1 : x < 2 ^ 63) : bits .or .i64 x (2 ^ i) = x + 2 ^ i := by
  have h2 : (2 : Int) ^ i < 2 ^ 63 := Int.pow_lt_pow_of_lt (by omega) hi
  have h3 : (2 : Int) ^ i < 2 ^ (i + 1) := Int.pow_lt_pow_of_lt (by omega) (by omega)
  exact bits_join .i64 63 (by decide) (fun n a b => wrap_i64_id a b) (i + 1) x (2 ^ i) h0 hx h1 (by have := two_pow_pos i; omega) h3 h2
theorem le_tdiv_iff {n m : Int} (hm : 0 < m) (hn : 0 < n) : m ≤ n.tdiv m ↔ m * m ≤ n := by
  rw [Int.tdiv_eq_ediv_of_nonneg (by omega), Int.le_ediv_iff_mul_le hm]

theorem mod_down {i : Nat} {r : Int} (h : r % 2 ^ (i + 1) = 0) : r % 2 ^ i = 0 ∧ (r + 2 ^ i) % 2 ^ i = 0 := by
  have h1 : (2 : Int) ^ i ∣ r := Int.dvd_trans ⟨2, by rw [Int.pow_succ]⟩ (Int.dvd_of_emod_eq_zero h)
  exact ⟨Int.emod_eq_zero_of_dvd h1, Int.emod_eq_zero_of_dvd (Int.dvd_add h1 (Int.dvd_refl _))⟩

end Go.Proofs.Ytkagmelijdfdiaa.M
