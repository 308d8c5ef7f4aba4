/- What the functions of chapter 3, and the document's own, answer: one contract each. -/
import Derived.Test.YtkeacdpphmdodaaFixRef
import Derived.Test.YtkeacdpphmdodaaMath
namespace Go.Proofs.Ytkeacdpphmdodaa.FixCon
open Go.RowKit Go.Proofs.YtkeacdpphmdodaaW.PrintWords Go.Proofs.YtkeacdpphmdodaaW.PrintLast Go.Proofs.YtkeacdpphmdodaaW.PrintMore Go.Proofs.Ytkeacdpphmdodaa.PFixedTells Go.Proofs.Ytkeacdpphmdodaa.FixRef Go.Proofs.Ytkeacdpphmdodaa.M
attribute [local go_sem] max2_int min2_int max_two min_two max_three min_three max_four min_four
set_option linter.unusedVariables false
set_option linter.unusedSimpArgs false

theorem pick_f {n m : Int} (h1 : 0 < m) (h2 : m ≤ 9223372036854775807) : versalhand_Pick.f n m = some (n % m) := by
  have ha := Int.lt_tmod_of_pos n h1
  have hb := Int.tmod_lt_of_pos n h1
  rw [← tmod_pick h1]
  unfold versalhand_Pick.f
  rw [if_neg (by omega)]
  by_cases h : n.tmod m < 0
  · rw [if_pos h, if_pos h, w64 (by omega) (by omega)]
  · rw [if_neg h, if_neg h]

theorem num_f {a : Int} (ha : (Lit.int .i64 a).wf = true) : ∃ v, versalhand_Num.f a = some v ∧ -9223372036854775808 ≤ v ∧ v ≤ 9223372036854775807 := by
  have hb := bounds_i64 ha
  unfold versalhand_Num.f
  have w : ∀ n : Int, -9223372036854775808 ≤ wrap64 n ∧ wrap64 n ≤ 9223372036854775807 := fun n => by unfold wrap64; omega
  simp only [pick_f (show (0:Int) < 8 by omega) (by omega), pick_f (show (0:Int) < 2001 by omega) (by omega), pick_f (show (0:Int) < 9 by omega) (by omega), pick_f (show (0:Int) < 1310720 by omega) (by omega), Option.bind_some]
  split
  · exact ⟨_, rfl, hb⟩
  · split
    · exact ⟨_, rfl, w _⟩
    · split
      · exact ⟨_, rfl, w _⟩
      · split
        · exact ⟨_, rfl, w _⟩
        · exact ⟨_, rfl, w _⟩

theorem clip_f (a : Int) : fixed_Clip.f a = some (clip a) := rfl

theorem floored_f {a b : Int} (hb : b ≠ 0) (h1 : -9000000000000000000 ≤ a) (h2 : a ≤ 9000000000000000000) : fixed_floored.f a b = some (fl a b) := by
  have h3 := tdiv_le (n := a) (d := b)
  rw [← fl_tdiv hb]
  unfold fixed_floored.f
  rw [if_neg hb, w64 (n := a.tdiv b) (by omega) (by omega), w64 (n := a.tdiv b - 1) (by omega) (by omega)]
  split
  · rfl
  · split
    · rfl
    · rfl

theorem mul_f (a b : Int) : fixed_Mul.f a b = some (mul a b) := by
  have h := clip_mul_bd a b
  unfold fixed_Mul.f mul
  simp only [clip_f, Option.bind_some]
  rw [w64 (n := clip a * clip b) (by omega) (by omega), w64 (by omega) (by omega)]
theorem div_f (a b : Int) : fixed_Div.f a b = some (div a b) := by
  have h := clip_bd a
  unfold fixed_Div.f div
  simp only [clip_f, Option.bind_some]
  by_cases h0 : clip b = 0
  · rw [if_pos h0, if_pos h0]
    by_cases h1 : clip a > 0
    · rw [if_pos h1, if_pos h1]
    · rw [if_neg h1, if_neg h1]
      by_cases h2 : clip a < 0
      · rw [if_pos h2, if_pos h2]
      · rw [if_neg h2, if_neg h2]
  · rw [if_neg h0, if_neg h0, w64 (by omega) (by omega), floored_f h0 (by omega) (by omega)]
    simp only [Option.bind_some]

def rnd (a : Int) : Int := (clip a + 32768) / 65536
def who (a : Int) : Int := clip (clip a * 65536)
theorem round_f (a : Int) : fixed_Round.f a = some (rnd a) := by
  have h := clip_bd a
  unfold fixed_Round.f rnd
  simp only [clip_f, Option.bind_some]
  rw [w64 (by omega) (by omega)]
theorem whole_f (a : Int) : fixed_Whole.f a = some (who a) := by
  have h := clip_bd a
  unfold fixed_Whole.f who
  simp only [clip_f, Option.bind_some]
  rw [w64 (by omega) (by omega)]

theorem ratio_f (a b : Int) : fixed_Ratio.f a b = some (ratio a b) := by
  have h1 := wide_bd a
  have e1 : fixed_brought.f a (-70368744177664) 70368744177664 = some (wide a) := rfl
  have e2 : fixed_brought.f b (-70368744177664) 70368744177664 = some (wide b) := rfl
  unfold fixed_Ratio.f ratio
  simp only [e1, e2, Option.bind_some]
  by_cases h : wide b = 0
  · rw [if_pos h, if_pos h]
  · rw [if_neg h, if_neg h, w64 (by omega) (by omega), floored_f h (by omega) (by omega)]
    simp only [Option.bind_some, clip_f]

def lerp (a b t : Int) : Int := clip (clip a + mul (clip b - clip a) t)
def f14 (a : Int) : Int := clip (clip a * 4)
theorem lerp_f (a b t : Int) : fixed_Lerp.f a b t = some (lerp a b t) := by
  have h1 := clip_bd a
  have h2 := clip_bd b
  have h3 := clip_bd ((clip (clip b - clip a) * clip t + 32768) / 65536)
  unfold fixed_Lerp.f lerp
  simp only [clip_f, Option.bind_some, mul_f]
  rw [w64 (n := clip b - clip a) (by omega) (by omega), w64 (by unfold mul; have := clip_bd ((clip (clip b - clip a) * clip t + 32768) / 65536); omega) (by unfold mul; have := clip_bd ((clip (clip b - clip a) * clip t + 32768) / 65536); omega)]
theorem f14_f (a : Int) : fixed_From14.f a = some (f14 a) := by
  have h := clip_bd a
  unfold fixed_From14.f f14
  simp only [clip_f, Option.bind_some]
  rw [w64 (by omega) (by omega)]

theorem root_l0 {n : Int} (hn : n ≤ 9223372036854775807) : ∀ (i : Nat), i ≤ 32 → ∀ (k : Nat), i < k → ∀ r : Int, 0 ≤ r → r % 2 ^ i = 0 → r + 2 ^ i ≤ 2 ^ 32 → fixed_Root.l0 k n r ((i : Int) - 1) = some (rootS i n r) := by
  intro i
  induction i with
  | zero =>
    intro _ k hk r _ _ _
    obtain ⟨k, rfl⟩ : ∃ m, k = m + 1 := ⟨k - 1, by omega⟩
    simp only [fixed_Root.l0]
    rw [if_neg (by omega)]; rfl
  | succ i ih =>
    intro hi k hk r h0 hm hr
    obtain ⟨k, rfl⟩ : ∃ m, k = m + 1 := ⟨k - 1, by omega⟩
    have hp := two_pow_pos i
    have e : (2 : Int) ^ (i + 1) = 2 ^ i + 2 ^ i := by rw [Int.pow_succ]; omega
    have hd := mod_down hm
    have ei : ((i + 1 : Nat) : Int) - 1 = (i : Int) := by omega
    simp only [fixed_Root.l0]
    rw [ei, shl_one (by omega), or_bit (by omega) h0 hm (by omega), w64 (n := (i : Int) - 1) (by omega) (by omega)]
    rw [if_pos (by omega), if_pos (by omega)]
    have A := ih (by omega) k (by omega) (r + 2 ^ i) (by omega) hd.2 (by omega)
    have B := ih (by omega) k (by omega) r h0 hd.1 (by omega)
    by_cases hn0 : 0 < n
    · have ht := tdiv_le (n := n) (d := r + 2 ^ i)
      rw [if_pos hn0, if_neg (by omega), w64 (n := n.tdiv (r + 2 ^ i)) (by omega) (by omega)]
      have hiff := le_tdiv_iff (n := n) (m := r + 2 ^ i) (by omega) hn0
      by_cases h : (r + 2 ^ i) * (r + 2 ^ i) ≤ n
      · rw [if_pos (hiff.2 h), A]; conv => rhs; unfold rootS
        rw [if_pos ⟨hn0, h⟩]
      · rw [if_neg (fun x => h (hiff.1 x)), B]; conv => rhs; unfold rootS
        rw [if_neg (fun x => h x.2)]
    · rw [if_neg hn0, B]; conv => rhs; unfold rootS
      rw [if_neg (fun x => hn0 x.1)]
theorem root_f {n : Int} (hn : n ≤ 9223372036854775807) {k : Nat} (hk : 32 < k) : fixed_Root.f k n = some (root n) :=
  root_l0 hn 32 (by omega) k hk 0 (by omega) (by decide) (by decide)

theorem rclip_f (a : Int) : versalref2_Clip.f a = some (clip a) := by
  unfold versalref2_Clip.f versalref2_Within.f clip
  simp only [Option.bind_some, Option.some.injEq]
  unfold mx mn; omega
theorem rfloor_f {a b : Int} (hb : 0 < b) (h1 : -9000000000000000000 ≤ a) (h2 : a ≤ 9000000000000000000) : versalref2_Floor.f a b = some (a / b) := by
  have h3 := tdiv_le (n := a) (d := b)
  rw [← tdiv_floor hb]
  unfold versalref2_Floor.f
  rw [if_neg (by omega), w64 (n := a.tdiv b) (by omega) (by omega), w64 (n := a.tdiv b - 1) (by omega) (by omega)]
  split <;> rfl

theorem rmul_f (a b : Int) : versalref2_Mul.f a b = some (mul a b) := by
  have h := clip_mul_bd a b
  unfold versalref2_Mul.f mul
  simp only [rclip_f, Option.bind_some]
  rw [w64 (n := clip a * clip b) (by omega) (by omega), w64 (by omega) (by omega), rfloor_f (by omega) (by omega) (by omega)]
  simp only [Option.bind_some]

theorem rdiv_f (k : Nat) (hk : 2 ≤ k) (a b : Int) : versalref2_Div.f k a b = some (div a b) := by
  obtain ⟨k, rfl⟩ : ∃ m, k = m + 2 := ⟨k - 2, by omega⟩
  have h := clip_bd a
  have h' := clip_bd b
  unfold versalref2_Div.f div
  simp only [rclip_f, Option.bind_some]
  by_cases h0 : clip b = 0
  · rw [if_pos h0, if_pos h0]
    by_cases h1 : clip a > 0
    · rw [if_pos h1, decide_eq_true h1]; simp only [versalref2_Div.j0, if_true]
    · rw [if_neg h1, decide_eq_false h1]; simp only [versalref2_Div.j0, versalref2_Div.j1, if_pos h0]
      by_cases h2 : clip a < 0
      · rw [if_pos h2, decide_eq_true h2]; rfl
      · rw [if_neg h2, decide_eq_false h2]; rfl
  · rw [if_neg h0, if_neg h0]; simp only [versalref2_Div.j0, versalref2_Div.j1, if_neg h0]
    unfold fl
    by_cases h3 : clip b < 0
    · rw [if_neg (show ¬ 0 < clip b by omega), if_pos h3, w64 (n := -clip a) (by omega) (by omega), w64 (n := -clip b) (by omega) (by omega), w64 (by omega) (by omega), rfloor_f (by omega) (by omega) (by omega), show -clip a * 65536 = -(clip a * 65536) by omega]
      simp [rclip_f]
    · rw [if_pos (show 0 < clip b by omega), if_neg h3, w64 (by omega) (by omega), rfloor_f (by omega) (by omega) (by omega)]
      simp [rclip_f]

theorem rratio_f (a b : Int) : versalref2_Ratio.f a b = some (ratio a b) := by
  have h := wide_bd a
  have h' := wide_bd b
  have e : ∀ n, versalref2_Within.f n (-70368744177664) 70368744177664 = some (wide n) := by
    intro n; unfold versalref2_Within.f wide; simp only [Option.some.injEq]; unfold mx mn; omega
  unfold versalref2_Ratio.f ratio
  simp only [rclip_f, e, Option.bind_some]
  by_cases h0 : wide b = 0
  · rw [if_pos h0, if_pos h0]
  · rw [if_neg h0, if_neg h0]
    unfold fl
    by_cases h3 : wide b < 0
    · rw [if_neg (show ¬ 0 < wide b by omega), if_pos h3, w64 (n := -wide a) (by omega) (by omega), w64 (n := -wide b) (by omega) (by omega), w64 (by omega) (by omega), rfloor_f (by omega) (by omega) (by omega), show -wide a * 65536 = -(wide a * 65536) by omega]
      simp
    · rw [if_pos (show 0 < wide b by omega), if_neg h3, w64 (by omega) (by omega), rfloor_f (by omega) (by omega) (by omega)]
      simp

theorem rround_f (a : Int) : versalref2_Round.f a = some (rnd a) := by
  have h := clip_bd a
  unfold versalref2_Round.f rnd
  simp only [rclip_f, Option.bind_some]
  rw [w64 (by omega) (by omega), rfloor_f (by omega) (by omega) (by omega)]; rfl
theorem rwhole_f (a : Int) : versalref2_Whole.f a = some (who a) := by
  have h := clip_bd a
  unfold versalref2_Whole.f who
  simp only [rclip_f, Option.bind_some]
  rw [w64 (by omega) (by omega)]
theorem rf14_f (a : Int) : versalref2_From14.f a = some (f14 a) := by
  have h := clip_bd a
  unfold versalref2_From14.f f14
  simp only [rclip_f, Option.bind_some]
  rw [w64 (by omega) (by omega)]
theorem rlerp_f (a b t : Int) : versalref2_Lerp.f a b t = some (lerp a b t) := by
  have h1 := clip_bd a
  have h2 := clip_bd b
  have e : mul (clip (clip b - clip a)) t = mul (clip b - clip a) t := by unfold mul; rw [clip_clip]
  have h3 : -2147483647 ≤ mul (clip b - clip a) t ∧ mul (clip b - clip a) t ≤ 2147483647 := by unfold mul; exact clip_bd _
  unfold versalref2_Lerp.f lerp
  simp only [rclip_f, Option.bind_some, rmul_f]
  rw [w64 (n := clip b - clip a) (by omega) (by omega), e, w64 (by omega) (by omega)]

theorem rroot_l0 {n : Int} (hn : n ≤ 9223372036854775807) : ∀ (i : Nat), i ≤ 32 → ∀ (k : Nat), i < k → ∀ r : Int, 0 ≤ r → r % 2 ^ i = 0 → r + 2 ^ i ≤ 2 ^ 32 → versalref2_Root.l0 k n r ((i : Int) - 1) = some (rootS i n r) := by
  intro i
  induction i with
  | zero =>
    intro _ k hk r _ _ _
    obtain ⟨k, rfl⟩ : ∃ m, k = m + 1 := ⟨k - 1, by omega⟩
    simp only [versalref2_Root.l0]
    rw [if_neg (by omega)]; rfl
  | succ i ih =>
    intro hi k hk r h0 hm hr
    obtain ⟨k, rfl⟩ : ∃ m, k = m + 1 := ⟨k - 1, by omega⟩
    have hp := two_pow_pos i
    have e : (2 : Int) ^ (i + 1) = 2 ^ i + 2 ^ i := by rw [Int.pow_succ]; omega
    have hd := mod_down hm
    have ei : ((i + 1 : Nat) : Int) - 1 = (i : Int) := by omega
    have eu : IntKind.u64.wrap (i : Int) = (i : Int) := by simp [IntKind.wrap, IntKind.bits, IntKind.signed]; omega
    simp only [versalref2_Root.l0]
    rw [ei, eu, shl_one (by omega), w64 (n := (i : Int) - 1) (by omega) (by omega), w64 (n := r + 2 ^ i) (by omega) (by omega)]
    rw [if_pos (by omega), if_pos (by omega)]
    have A := ih (by omega) k (by omega) (r + 2 ^ i) (by omega) hd.2 (by omega)
    have B := ih (by omega) k (by omega) r h0 hd.1 (by omega)
    by_cases hc : r + 2 ^ i ≤ 3037000499
    · have hs : (r + 2 ^ i) * (r + 2 ^ i) ≤ 3037000499 * 3037000499 := sq_mono (by omega) hc
      have hs0 : 1 * 1 ≤ (r + 2 ^ i) * (r + 2 ^ i) := sq_mono (by omega) (by omega)
      rw [if_pos hc, w64 (n := (r + 2 ^ i) * (r + 2 ^ i)) (by omega) (by omega)]
      by_cases h : (r + 2 ^ i) * (r + 2 ^ i) ≤ n
      · rw [if_pos h, A]; conv => rhs; unfold rootS
        rw [if_pos ⟨by omega, h⟩]
      · rw [if_neg h, B]; conv => rhs; unfold rootS
        rw [if_neg (fun x => h x.2)]
    · have hs : 3037000500 * 3037000500 ≤ (r + 2 ^ i) * (r + 2 ^ i) := sq_mono (by omega) (by omega)
      rw [if_neg hc, B]; conv => rhs; unfold rootS
      rw [if_neg (fun x => by omega)]
theorem rroot_f {n : Int} (hn : n ≤ 9223372036854775807) {k : Nat} (hk : 32 < k) : versalref2_Root.f k n = some (root n) :=
  rroot_l0 hn 32 (by omega) k hk 0 (by omega) (by decide) (by decide)

abbrev Ret (f : FuncId) (args : Array Value) (w : World) (v : Value) : Prop := Calls Try.prog f args w fun e w' => e = .returned v ∧ Below w.heap.size w w'
theorem lift {f : FuncId} {args : Array Value} {w : World} {v : Value} (h : Calls Try.prog f args w fun e w' => e = .returned v ∧ Drawn0 w w') : Ret f args w v := h.mono fun _ _ ⟨a, b⟩ => ⟨a, b.below⟩
theorem c14 (n m : Int) (w : World) (h1 : 0 < m) (h2 : m ≤ 9223372036854775807) : Ret 14 #[.int .i64 n, .int .i64 m] w (.int .i64 (n % m)) := lift (versalhand_Pick.calls n m _ w (pick_f h1 h2))
theorem c30 (w : World) : Ret 30 #[] w (.bool true) := versallaw3_known.calls _ w (by decide +kernel)
theorem c36 (a : Int) (w : World) : Ret 36 #[.int .i64 a] w (.int .i64 (clip a)) := fixed_Clip.calls a _ w (clip_f a)
theorem c31 (a b : Int) (w : World) : Ret 31 #[.int .i64 a, .int .i64 b] w (.int .i64 (mul a b)) := fixed_Mul.calls a b _ w (mul_f a b)
theorem c32 (a b : Int) (w : World) : Ret 32 #[.int .i64 a, .int .i64 b] w (.int .i64 (div a b)) := fixed_Div.calls a b _ w (div_f a b)
theorem c49 (a b t : Int) (w : World) : Ret 49 #[.int .i64 a, .int .i64 b, .int .i64 t] w (.int .i64 (lerp a b t)) := fixed_Lerp.calls a b t _ w (lerp_f a b t)
theorem c33 (a : Int) (w : World) : Ret 33 #[.int .i64 a] w (.int .i64 (rnd a)) := fixed_Round.calls a _ w (round_f a)
theorem c34 (a : Int) (w : World) : Ret 34 #[.int .i64 a] w (.int .i64 (who a)) := fixed_Whole.calls a _ w (whole_f a)
theorem c48 (a : Int) (w : World) : Ret 48 #[.int .i64 a] w (.int .i64 (f14 a)) := fixed_From14.calls a _ w (f14_f a)
theorem c50 (a b : Int) (w : World) : Ret 50 #[.int .i64 a, .int .i64 b] w (.int .i64 (ratio a b)) := fixed_Ratio.calls a b _ w (ratio_f a b)
theorem c35 (a : Int) (w : World) (h : a ≤ 9223372036854775807) : Ret 35 #[.int .i64 a] w (.int .i64 (root a)) := lift (fixed_Root.calls 33 a _ w (root_f h (by omega)))
theorem c51 (a : Int) (w : World) : Ret 51 #[.int .i64 a] w (.int .i64 (clip a)) := versalref2_Clip.calls a _ w (rclip_f a)
theorem c52 (a b : Int) (w : World) : Ret 52 #[.int .i64 a, .int .i64 b] w (.int .i64 (mul a b)) := versalref2_Mul.calls a b _ w (rmul_f a b)
theorem c53 (a b : Int) (w : World) : Ret 53 #[.int .i64 a, .int .i64 b] w (.int .i64 (div a b)) := versalref2_Div.calls 2 a b _ w (rdiv_f 2 (by omega) a b)
theorem c54 (a b t : Int) (w : World) : Ret 54 #[.int .i64 a, .int .i64 b, .int .i64 t] w (.int .i64 (lerp a b t)) := versalref2_Lerp.calls a b t _ w (rlerp_f a b t)
theorem c55 (a : Int) (w : World) : Ret 55 #[.int .i64 a] w (.int .i64 (rnd a)) := versalref2_Round.calls a _ w (rround_f a)
theorem c56 (a : Int) (w : World) : Ret 56 #[.int .i64 a] w (.int .i64 (who a)) := versalref2_Whole.calls a _ w (rwhole_f a)
theorem c57 (a : Int) (w : World) : Ret 57 #[.int .i64 a] w (.int .i64 (f14 a)) := versalref2_From14.calls a _ w (rf14_f a)
theorem c58 (a b : Int) (w : World) : Ret 58 #[.int .i64 a, .int .i64 b] w (.int .i64 (ratio a b)) := versalref2_Ratio.calls a b _ w (rratio_f a b)
theorem c59 (a : Int) (w : World) (h : a ≤ 9223372036854775807) : Ret 59 #[.int .i64 a] w (.int .i64 (root a)) := lift (versalref2_Root.calls 33 a _ w (rroot_f h (by omega)))
theorem c22 (a v : Int) (w : World) (h : versalhand_Num.f a = some v) : Ret 22 #[.int .i64 a] w (.int .i64 v) := lift (versalhand_Num.calls a v w h)
theorem ret_of {f : FuncId} {args : Array Value} {w : World} {a b : Int} (e : a = b) (h : Ret f args w (.int .i64 a)) : Ret f args w (.int .i64 b) := e ▸ h

end Go.Proofs.Ytkeacdpphmdodaa.FixCon
