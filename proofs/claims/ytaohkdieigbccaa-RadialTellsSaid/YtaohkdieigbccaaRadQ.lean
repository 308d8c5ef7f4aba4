/- What small functions of numbers answer, the world left as it was. -/
import Derived.Test.YtaohkdieigbccaaPRadialTellsx2
import Derived.Test.YtaohkdieigbccaaMath
import Derived.Test.YtaohkdieigbccaaAng
namespace Go.Proofs.Ytaohkdieigbccaa.RadQ
open Go.RowKit Go.Proofs.YtaohkdieigbccaaW.PrintWords Go.Proofs.YtaohkdieigbccaaW.PrintLast Go.Proofs.YtaohkdieigbccaaW.PrintMore Go.Proofs.Ytaohkdieigbccaa.PRadialTells Go.Proofs.Ytaohkdieigbccaa.M
attribute [local go_sem] max2_int min2_int max_two min_two max_three min_three max_four min_four
set_option linter.unusedVariables false
set_option linter.unusedSimpArgs false

theorem clip_f (a : Int) : fixed_Clip.f a = some (clip a) := rfl

theorem floored_f {a b : Int} (hb : b ≠ 0) (h1 : -9000000000000000000 ≤ a) (h2 : a ≤ 9000000000000000000) : fixed_floored.f a b = some (fl a b) := by
  have h3 := tdiv_le (n := a) (d := b)
  rw [← fl_tdiv hb]
  unfold fixed_floored.f
  rw [if_neg hb, w64 (n := a.tdiv b) (by omega) (by omega), w64 (n := a.tdiv b - 1) (by omega) (by omega)]
  split
  · rfl
  · split
    · rfl
    · rfl

theorem root_l0 {n : Int} (hn : n ≤ 9223372036854775807) : ∀ (i : Nat), i ≤ 32 → ∀ (k : Nat), i < k → ∀ r : Int, 0 ≤ r → r % 2 ^ i = 0 → r + 2 ^ i ≤ 2 ^ 32 → fixed_Root.l0 k n r ((i : Int) - 1) = some (rootS i n r) := by
  intro i
  induction i with
  | zero =>
    intro _ k hk r _ _ _
    obtain ⟨k, rfl⟩ : ∃ m, k = m + 1 := ⟨k - 1, by omega⟩
    simp only [fixed_Root.l0]
    rw [if_neg (by omega)]; rfl
  | succ i ih =>
    intro hi k hk r h0 hm hr
    obtain ⟨k, rfl⟩ : ∃ m, k = m + 1 := ⟨k - 1, by omega⟩
    have hp := two_pow_pos i
    have e : (2 : Int) ^ (i + 1) = 2 ^ i + 2 ^ i := by rw [Int.pow_succ]; omega
    have hd := mod_down hm
    have ei : ((i + 1 : Nat) : Int) - 1 = (i : Int) := by omega
    simp only [fixed_Root.l0]
    rw [ei, shl_one (by omega), or_bit (by omega) h0 hm (by omega), w64 (n := (i : Int) - 1) (by omega) (by omega)]
    rw [if_pos (by omega), if_pos (by omega)]
    have A := ih (by omega) k (by omega) (r + 2 ^ i) (by omega) hd.2 (by omega)
    have B := ih (by omega) k (by omega) r h0 hd.1 (by omega)
    by_cases hn0 : 0 < n
    · have ht := tdiv_le (n := n) (d := r + 2 ^ i)
      rw [if_pos hn0, if_neg (by omega), w64 (n := n.tdiv (r + 2 ^ i)) (by omega) (by omega)]
      have hiff := le_tdiv_iff (n := n) (m := r + 2 ^ i) (by omega) hn0
      by_cases h : (r + 2 ^ i) * (r + 2 ^ i) ≤ n
      · rw [if_pos (hiff.2 h), A]; conv => rhs; unfold rootS
        rw [if_pos ⟨hn0, h⟩]
      · rw [if_neg (fun x => h (hiff.1 x)), B]; conv => rhs; unfold rootS
        rw [if_neg (fun x => h x.2)]
    · rw [if_neg hn0, B]; conv => rhs; unfold rootS
      rw [if_neg (fun x => hn0 x.1)]
theorem root_f {n : Int} (hn : n ≤ 9223372036854775807) {k : Nat} (hk : 32 < k) : fixed_Root.f k n = some (root n) :=
  root_l0 hn 32 (by omega) k hk 0 (by omega) (by decide) (by decide)

abbrev Q (f : FuncId) (args : Array Value) (w : World) (v : Value) : Prop := Calls Try.prog f args w fun e w' => e = .returned v ∧ w = w'
theorem ret_eq {a b : Int} (e : a = b) : Ending.returned (.int .i64 a) = .returned (.int .i64 b) := by rw [e]
theorem q52 (a lo hi : Int) (w : World) : Q 52 #[.int .i64 a, .int .i64 lo, .int .i64 hi] w (.int .i64 (mx lo (mn a hi))) := by
  go_enter Try.func52, Try.ntmps52
  go_wp2
  all_goals (go_ret; exact ⟨ret_eq (by unfold mx mn; omega), rfl⟩)
theorem q35 (a : Int) (w : World) : Q 35 #[.int .i64 a] w (.int .i64 (clip a)) := by
  go_enter Try.func35, Try.ntmps35
  go_wp2_with (go_at_call 52; (with_reducible refine (q52 _ _ _ _).mono ?_); rintro e w1 ⟨rfl, rfl⟩)
  go_ret
  exact ⟨rfl, rfl⟩
theorem q54 (a : Int) (w : World) : Q 54 #[.int .i64 a] w (.int .i64 ((clip a + 32768) / 65536)) := by
  have h := clip_bd a
  go_enter Try.func54, Try.ntmps54
  go_wp2_with (go_at_call 35; (with_reducible refine (q35 _ _).mono ?_); rintro e w1 ⟨rfl, rfl⟩)
  go_ret
  exact ⟨rfl, rfl⟩
def near (n lo : Int) : Int := mx lo (mn ((clip n + 32768) / 65536) 8191)
theorem q46 (n lo : Int) (w : World) : Q 46 #[.int .i64 n, .int .i64 lo] w (.int .i64 (near n lo)) := by
  go_enter Try.func46, Try.ntmps46
  go_wp2_with (go_at_call 54; (with_reducible refine (q54 _ _).mono ?_); rintro e w1 ⟨rfl, rfl⟩)
  all_goals (go_ret; exact ⟨ret_eq (by unfold near mx mn; omega), rfl⟩)
theorem near_bd (n : Int) : -8191 ≤ near n (-8191) ∧ near n (-8191) ≤ 8191 := by unfold near mx mn; omega
theorem near_bd0 (n : Int) : 0 ≤ near n 0 ∧ near n 0 ≤ 8191 := by unfold near mx mn; omega
/-- the closure: is a circle's size not below 0 there? -/
theorem q47 (t r0 dr : Int) (b0 b1 : Nat) (o0 o1 : Nat) (w : World) (h0 : w.cell? ⟨b0, o0, none⟩ = some (.int .i64 r0)) (h1 : w.cell? ⟨b1, o1, none⟩ = some (.int .i64 dr))
    (r1 : 0 ≤ r0) (r2 : r0 ≤ 8191) (d1 : -8191 ≤ dr) (d2 : dr ≤ 8191) (t1 : -2147483647 ≤ t) (t2 : t ≤ 2147483647) (hp : -17590038552577 ≤ t * dr ∧ t * dr ≤ 17590038552577) :
    Calls Try.prog 47 #[.int .i64 t, .pointer (some ⟨b0, o0, none⟩), .pointer (some ⟨b1, o1, none⟩)] w fun e w' => e = .returned (.bool (decide (0 ≤ r0 * 65536 + t * dr))) ∧ w = w' := by
  go_enter Try.func47, Try.ntmps47
  go_wp2
  go_ret
  exact ⟨rfl, rfl⟩
theorem d37 (a b : Int) (w : World) : Calls Try.prog 37 #[.int .i64 a, .int .i64 b] w fun e w' => e = .returned (.int .i64 (ratio a b)) ∧ Drawn0 w w' := by
  have ea : mx (-70368744177664) (mn a 70368744177664) = wide a := rfl
  have eb : mx (-70368744177664) (mn b 70368744177664) = wide b := rfl
  have ba := wide_bd a
  have Q1 : ∀ w, Q 52 #[.int .i64 a, .int .i64 (-70368744177664), .int .i64 70368744177664] w (.int .i64 (wide a)) := fun w => q52 a (-70368744177664) 70368744177664 w
  have Q2 : ∀ w, Q 52 #[.int .i64 b, .int .i64 (-70368744177664), .int .i64 70368744177664] w (.int .i64 (wide b)) := fun w => q52 b (-70368744177664) 70368744177664 w
  by_cases h : wide b = 0
  · have hb : (wide b == 0) = true := beq_iff_eq.mpr h
    have hr : ratio a b = 0 := by unfold ratio; rw [if_pos h]
    rw [hr]
    clear ea eb hr h
    go_enter Try.func37, Try.ntmps37
    go_wp2_with (first | (go_at_call 52; (with_reducible refine (Q1 _).mono ?_); rintro e w1 ⟨rfl, rfl⟩) | (go_at_call 52; (with_reducible refine (Q2 _).mono ?_); rintro e w1 ⟨rfl, rfl⟩))
    go_ret
    exact ⟨rfl, Drawn0.refl _⟩
  · have hb : (wide b == 0) = false := beq_eq_false_iff_ne.mpr h
    have hr : ratio a b = clip (fl (wide a * 65536) (wide b)) := by unfold ratio; rw [if_neg h]
    rw [hr]
    have F : ∀ w, Calls Try.prog 53 #[.int .i64 (wide a * 65536), .int .i64 (wide b)] w fun e w' => e = .returned (.int .i64 (fl (wide a * 65536) (wide b))) ∧ Drawn0 w w' := fun w => fixed_floored.calls _ _ _ w (floored_f h (by omega) (by omega))
    clear ea eb hr h
    go_enter Try.func37, Try.ntmps37
    go_wp2_with (first | (go_at_call 52; (with_reducible refine (Q1 _).mono ?_); rintro e w1 ⟨rfl, rfl⟩) | (go_at_call 52; (with_reducible refine (Q2 _).mono ?_); rintro e w1 ⟨rfl, rfl⟩) | (go_at_call 53; (with_reducible refine (F _).mono ?_); rintro e w1 ⟨rfl, ⟨nd, rfl⟩⟩) | (go_at_call 35; (with_reducible refine (q35 _ _).mono ?_); rintro e w1 ⟨rfl, rfl⟩))
    go_ret
    exact ⟨rfl, ⟨⟨_, rfl⟩⟩⟩
theorem d48 (a : Int) (w : World) (h : a ≤ 9223372036854775807) : Calls Try.prog 48 #[.int .i64 a] w fun e w' => e = .returned (.int .i64 (root a)) ∧ Drawn0 w w' := fixed_Root.calls 33 a _ w (root_f h (by omega))

end Go.Proofs.Ytaohkdieigbccaa.RadQ
