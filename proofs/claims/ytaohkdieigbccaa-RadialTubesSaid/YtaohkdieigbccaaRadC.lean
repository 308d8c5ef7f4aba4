/- What radial.T, the document's own Radial, and what stands about them, answer. -/
import Derived.Test.YtaohkdieigbccaaRadT
namespace Go.Proofs.Ytaohkdieigbccaa.RadC
open Go.RowKit Go.Proofs.YtaohkdieigbccaaW.PrintWords Go.Proofs.YtaohkdieigbccaaW.PrintLast Go.Proofs.YtaohkdieigbccaaW.PrintMore Go.Proofs.Ytaohkdieigbccaa.PRadialTells Go.Proofs.Ytaohkdieigbccaa.M Go.Proofs.Ytaohkdieigbccaa.RadQ Go.Proofs.Ytaohkdieigbccaa.RadT
attribute [local go_sem] max2_int min2_int max_two min_two max_three min_three max_four min_four
set_option linter.unusedVariables false
set_option linter.unusedSimpArgs false

theorem pick_f {n m : Int} (h1 : 0 < m) (h2 : m ≤ 9223372036854775807) : versalhand_Pick.f n m = some (n % m) := by
  have ha := Int.lt_tmod_of_pos n h1
  have hb := Int.tmod_lt_of_pos n h1
  rw [← tmod_pick h1]
  unfold versalhand_Pick.f
  rw [if_neg (by omega)]
  by_cases h : n.tmod m < 0
  · rw [if_pos h, if_pos h, w64 (by omega) (by omega)]
  · rw [if_neg h, if_neg h]

theorem num_f {a : Int} (ha : (Lit.int .i64 a).wf = true) : ∃ v, versalhand_Num.f a = some v ∧ -9223372036854775808 ≤ v ∧ v ≤ 9223372036854775807 := by
  have hb := bounds_i64 ha
  unfold versalhand_Num.f
  have w : ∀ n : Int, -9223372036854775808 ≤ wrap64 n ∧ wrap64 n ≤ 9223372036854775807 := fun n => by unfold wrap64; omega
  simp only [pick_f (show (0:Int) < 8 by omega) (by omega), pick_f (show (0:Int) < 2001 by omega) (by omega), pick_f (show (0:Int) < 9 by omega) (by omega), pick_f (show (0:Int) < 1310720 by omega) (by omega), Option.bind_some]
  split
  · exact ⟨_, rfl, hb⟩
  · split
    · exact ⟨_, rfl, w _⟩
    · split
      · exact ⟨_, rfl, w _⟩
      · split
        · exact ⟨_, rfl, w _⟩
        · exact ⟨_, rfl, w _⟩

theorem rclip_f (a : Int) : versalref2_Clip.f a = some (clip a) := by
  unfold versalref2_Clip.f versalref2_Within.f clip
  simp only [Option.bind_some, Option.some.injEq]
  unfold mx mn; omega
theorem rfloor_f {a b : Int} (hb : 0 < b) (h1 : -9000000000000000000 ≤ a) (h2 : a ≤ 9000000000000000000) : versalref2_Floor.f a b = some (a / b) := by
  have h3 := tdiv_le (n := a) (d := b)
  rw [← tdiv_floor hb]
  unfold versalref2_Floor.f
  rw [if_neg (by omega), w64 (n := a.tdiv b) (by omega) (by omega), w64 (n := a.tdiv b - 1) (by omega) (by omega)]
  split <;> rfl

theorem rratio_f (a b : Int) : versalref2_Ratio.f a b = some (ratio a b) := by
  have h := wide_bd a
  have h' := wide_bd b
  have e : ∀ n, versalref2_Within.f n (-70368744177664) 70368744177664 = some (wide n) := by
    intro n; unfold versalref2_Within.f wide; simp only [Option.some.injEq]; unfold mx mn; omega
  unfold versalref2_Ratio.f ratio
  simp only [rclip_f, e, Option.bind_some]
  by_cases h0 : wide b = 0
  · rw [if_pos h0, if_pos h0]
  · rw [if_neg h0, if_neg h0]
    unfold fl
    by_cases h3 : wide b < 0
    · rw [if_neg (show ¬ 0 < wide b by omega), if_pos h3, w64 (n := -wide a) (by omega) (by omega), w64 (n := -wide b) (by omega) (by omega), w64 (by omega) (by omega), rfloor_f (by omega) (by omega) (by omega), show -wide a * 65536 = -(wide a * 65536) by omega]
      simp
    · rw [if_pos (show 0 < wide b by omega), if_neg h3, w64 (by omega) (by omega), rfloor_f (by omega) (by omega) (by omega)]
      simp

theorem rroot_l0 {n : Int} (hn : n ≤ 9223372036854775807) : ∀ (i : Nat), i ≤ 32 → ∀ (k : Nat), i < k → ∀ r : Int, 0 ≤ r → r % 2 ^ i = 0 → r + 2 ^ i ≤ 2 ^ 32 → versalref2_Root.l0 k n r ((i : Int) - 1) = some (rootS i n r) := by
  intro i
  induction i with
  | zero =>
    intro _ k hk r _ _ _
    obtain ⟨k, rfl⟩ : ∃ m, k = m + 1 := ⟨k - 1, by omega⟩
    simp only [versalref2_Root.l0]
    rw [if_neg (by omega)]; rfl
  | succ i ih =>
    intro hi k hk r h0 hm hr
    obtain ⟨k, rfl⟩ : ∃ m, k = m + 1 := ⟨k - 1, by omega⟩
    have hp := two_pow_pos i
    have e : (2 : Int) ^ (i + 1) = 2 ^ i + 2 ^ i := by rw [Int.pow_succ]; omega
    have hd := mod_down hm
    have ei : ((i + 1 : Nat) : Int) - 1 = (i : Int) := by omega
    have eu : IntKind.u64.wrap (i : Int) = (i : Int) := by simp [IntKind.wrap, IntKind.bits, IntKind.signed]; omega
    simp only [versalref2_Root.l0]
    rw [ei, eu, shl_one (by omega), w64 (n := (i : Int) - 1) (by omega) (by omega), w64 (n := r + 2 ^ i) (by omega) (by omega)]
    rw [if_pos (by omega), if_pos (by omega)]
    have A := ih (by omega) k (by omega) (r + 2 ^ i) (by omega) hd.2 (by omega)
    have B := ih (by omega) k (by omega) r h0 hd.1 (by omega)
    by_cases hc : r + 2 ^ i ≤ 3037000499
    · have hs : (r + 2 ^ i) * (r + 2 ^ i) ≤ 3037000499 * 3037000499 := sq_mono (by omega) hc
      have hs0 : 1 * 1 ≤ (r + 2 ^ i) * (r + 2 ^ i) := sq_mono (by omega) (by omega)
      rw [if_pos hc, w64 (n := (r + 2 ^ i) * (r + 2 ^ i)) (by omega) (by omega)]
      by_cases h : (r + 2 ^ i) * (r + 2 ^ i) ≤ n
      · rw [if_pos h, A]; conv => rhs; unfold rootS
        rw [if_pos ⟨by omega, h⟩]
      · rw [if_neg h, B]; conv => rhs; unfold rootS
        rw [if_neg (fun x => h x.2)]
    · have hs : 3037000500 * 3037000500 ≤ (r + 2 ^ i) * (r + 2 ^ i) := sq_mono (by omega) (by omega)
      rw [if_neg hc, B]; conv => rhs; unfold rootS
      rw [if_neg (fun x => by omega)]
theorem rroot_f {n : Int} (hn : n ≤ 9223372036854775807) {k : Nat} (hk : 32 < k) : versalref2_Root.f k n = some (root n) :=
  rroot_l0 hn 32 (by omega) k hk 0 (by omega) (by decide) (by decide)

abbrev Ret (f : FuncId) (args : Array Value) (w : World) (v : Value) : Prop := Calls Try.prog f args w fun e w' => e = .returned v ∧ Below w.heap.size w w'
theorem lift {f : FuncId} {args : Array Value} {w : World} {v : Value} (h : Calls Try.prog f args w fun e w' => e = .returned v ∧ Drawn0 w w') : Ret f args w v := h.mono fun _ _ ⟨a, b⟩ => ⟨a, b.below⟩
theorem wi {n : Int} (h1 : -9223372036854775808 ≤ n) (h2 : n ≤ 9223372036854775807) : IntKind.i64.wrap n = n := by rw [IntKind.wrap_i64]; omega
theorem ret_tup {f : FuncId} {args : Array Value} {w : World} {p q : Int × Bool} (e : p = q) (h : Ret f args w (.tuple #[.int .i64 p.1, .bool p.2])) : Ret f args w (.tuple #[.int .i64 q.1, .bool q.2]) := e ▸ h

/-- of whole places: the middle of the first circle, its size, the steps to the second one's, the place -/
def radW (X0 Y0 R0 X1 Y1 R1 X Y : Int) : Int × Bool :=
  rad ((X1 - X0) * (X1 - X0) + (Y1 - Y0) * (Y1 - Y0) - (R1 - R0) * (R1 - R0)) ((X - X0) * (X1 - X0) + (Y - Y0) * (Y1 - Y0) + R0 * (R1 - R0)) ((X - X0) * (X - X0) + (Y - Y0) * (Y - Y0) - R0 * R0) R0 (R1 - R0)
def radial (x0 y0 r0 x1 y1 r1 x y : Int) : Int × Bool := radW (near x0 (-8191)) (near y0 (-8191)) (near r0 0) (near x1 (-8191)) (near y1 (-8191)) (near r1 0) (near x (-8191)) (near y (-8191))

/-- the bounds of all that is reckoned on the way -/
structure Bds (X0 Y0 R0 X1 Y1 R1 X Y : Int) : Prop where
  dx : -16382 ≤ X1 - X0 ∧ X1 - X0 ≤ 16382
  dy : -16382 ≤ Y1 - Y0 ∧ Y1 - Y0 ≤ 16382
  dr : -8191 ≤ R1 - R0 ∧ R1 - R0 ≤ 8191
  ex : -16382 ≤ X - X0 ∧ X - X0 ≤ 16382
  ey : -16382 ≤ Y - Y0 ∧ Y - Y0 ≤ 16382
  s1 : -268369924 ≤ (X1 - X0) * (X1 - X0) ∧ (X1 - X0) * (X1 - X0) ≤ 268369924
  s2 : -268369924 ≤ (Y1 - Y0) * (Y1 - Y0) ∧ (Y1 - Y0) * (Y1 - Y0) ≤ 268369924
  s4 : -67092481 ≤ (R1 - R0) * (R1 - R0) ∧ (R1 - R0) * (R1 - R0) ≤ 67092481
  s5 : -268369924 ≤ (X - X0) * (X1 - X0) ∧ (X - X0) * (X1 - X0) ≤ 268369924
  s6 : -268369924 ≤ (Y - Y0) * (Y1 - Y0) ∧ (Y - Y0) * (Y1 - Y0) ≤ 268369924
  s8 : -67092481 ≤ R0 * (R1 - R0) ∧ R0 * (R1 - R0) ≤ 67092481
  s9 : -268369924 ≤ (X - X0) * (X - X0) ∧ (X - X0) * (X - X0) ≤ 268369924
  s10 : -268369924 ≤ (Y - Y0) * (Y - Y0) ∧ (Y - Y0) * (Y - Y0) ≤ 268369924
  s12 : -67092481 ≤ R0 * R0 ∧ R0 * R0 ≤ 67092481
theorem bds {X0 Y0 R0 X1 Y1 R1 X Y : Int} (b0 : -8191 ≤ X0 ∧ X0 ≤ 8191) (b1 : -8191 ≤ Y0 ∧ Y0 ≤ 8191) (b2 : 0 ≤ R0 ∧ R0 ≤ 8191) (b3 : -8191 ≤ X1 ∧ X1 ≤ 8191) (b4 : -8191 ≤ Y1 ∧ Y1 ≤ 8191) (b5 : 0 ≤ R1 ∧ R1 ≤ 8191) (b6 : -8191 ≤ X ∧ X ≤ 8191) (b7 : -8191 ≤ Y ∧ Y ≤ 8191) : Bds X0 Y0 R0 X1 Y1 R1 X Y where
  dx := by omega
  dy := by omega
  dr := by omega
  ex := by omega
  ey := by omega
  s1 := by have := mul_bd (a := X1 - X0) (b := X1 - X0) (A := 16382) (B := 16382) (by omega) (by omega) (by omega) (by omega); omega
  s2 := by have := mul_bd (a := Y1 - Y0) (b := Y1 - Y0) (A := 16382) (B := 16382) (by omega) (by omega) (by omega) (by omega); omega
  s4 := by have := mul_bd (a := R1 - R0) (b := R1 - R0) (A := 8191) (B := 8191) (by omega) (by omega) (by omega) (by omega); omega
  s5 := by have := mul_bd (a := X - X0) (b := X1 - X0) (A := 16382) (B := 16382) (by omega) (by omega) (by omega) (by omega); omega
  s6 := by have := mul_bd (a := Y - Y0) (b := Y1 - Y0) (A := 16382) (B := 16382) (by omega) (by omega) (by omega) (by omega); omega
  s8 := by have := mul_bd (a := R0) (b := R1 - R0) (A := 8191) (B := 8191) (by omega) (by omega) (by omega) (by omega); omega
  s9 := by have := mul_bd (a := X - X0) (b := X - X0) (A := 16382) (B := 16382) (by omega) (by omega) (by omega) (by omega); omega
  s10 := by have := mul_bd (a := Y - Y0) (b := Y - Y0) (A := 16382) (B := 16382) (by omega) (by omega) (by omega) (by omega); omega
  s12 := by have := mul_bd (a := R0) (b := R0) (A := 8191) (B := 8191) (by omega) (by omega) (by omega) (by omega); omega
theorem sq_pos (b : Int) : 0 ≤ b * b := by
  by_cases h : 0 ≤ b
  · exact Int.mul_nonneg h h
  · have := Int.mul_nonneg (show 0 ≤ -b by omega) (show 0 ≤ -b by omega)
    rwa [Int.neg_mul_neg] at this

theorem c30W (x0 y0 r0 x1 y1 r1 x y X0 Y0 R0 X1 Y1 R1 X Y : Int) (w : World)
    (h0 : near x0 (-8191) = X0) (h1 : near y0 (-8191) = Y0) (h2 : near r0 0 = R0) (h3 : near x1 (-8191) = X1) (h4 : near y1 (-8191) = Y1) (h5 : near r1 0 = R1) (h6 : near x (-8191) = X) (h7 : near y (-8191) = Y) :
    Ret 30 #[.int .i64 x0, .int .i64 y0, .int .i64 r0, .int .i64 x1, .int .i64 y1, .int .i64 r1, .int .i64 x, .int .i64 y] w (.tuple #[.int .i64 (radW X0 Y0 R0 X1 Y1 R1 X Y).1, .bool (radW X0 Y0 R0 X1 Y1 R1 X Y).2]) := by
  have b0 := near_bd x0; have b1 := near_bd y0; have b2 := near_bd0 r0; have b3 := near_bd x1; have b4 := near_bd y1; have b5 := near_bd0 r1; have b6 := near_bd x; have b7 := near_bd y
  rw [h0] at b0; rw [h1] at b1; rw [h2] at b2; rw [h3] at b3; rw [h4] at b4; rw [h5] at b5; rw [h6] at b6; rw [h7] at b7
  obtain ⟨dx, dy, dr, ex, ey, s1, s2, s4, s5, s6, s8, s9, s10, s12⟩ := bds b0 b1 b2 b3 b4 b5 b6 b7
  unfold radW
  have bB : -805208064 ≤ (X - X0) * (X1 - X0) + (Y - Y0) * (Y1 - Y0) + R0 * (R1 - R0) ∧ (X - X0) * (X1 - X0) + (Y - Y0) * (Y1 - Y0) + R0 * (R1 - R0) ≤ 805208064 := by omega
  have hBB := mul_bd bB.1 bB.2 bB.1 bB.2
  have hAC := mul_bd (a := (X1 - X0) * (X1 - X0) + (Y1 - Y0) * (Y1 - Y0) - (R1 - R0) * (R1 - R0)) (b := (X - X0) * (X - X0) + (Y - Y0) * (Y - Y0) - R0 * R0) (A := 805208064) (B := 805208064) (by omega) (by omega) (by omega) (by omega)
  refine core x0 y0 r0 x1 y1 r1 x y X0 Y0 R0 X1 Y1 R1 X Y (X1 - X0) (Y1 - Y0) (R1 - R0) (X - X0) (Y - Y0) ((X1 - X0) * (X1 - X0)) ((Y1 - Y0) * (Y1 - Y0)) ((X1 - X0) * (X1 - X0) + (Y1 - Y0) * (Y1 - Y0)) ((R1 - R0) * (R1 - R0)) _ ((X - X0) * (X1 - X0)) ((Y - Y0) * (Y1 - Y0)) ((X - X0) * (X1 - X0) + (Y - Y0) * (Y1 - Y0)) (R0 * (R1 - R0)) _ ((X - X0) * (X - X0)) ((Y - Y0) * (Y - Y0)) ((X - X0) * (X - X0) + (Y - Y0) * (Y - Y0)) (R0 * R0) _ w
    ⟨h0⟩ ⟨h1⟩ ⟨h2⟩ ⟨h3⟩ ⟨h4⟩ ⟨h5⟩ ⟨h6⟩ ⟨h7⟩ ⟨wi (by omega) (by omega)⟩ ⟨wi (by omega) (by omega)⟩ ⟨wi (by omega) (by omega)⟩ ⟨rfl⟩ ⟨rfl⟩ b0 b1 b6 b7 b2 dr bB ⟨sq_pos _, by omega⟩ (by omega)
    ⟨wi (by omega) (by omega)⟩ ⟨wi (by omega) (by omega)⟩ ⟨wi (by omega) (by omega)⟩ ⟨wi (by omega) (by omega)⟩ ⟨wi (by omega) (by omega)⟩ ⟨wi (by omega) (by omega)⟩ ⟨wi (by omega) (by omega)⟩ ⟨wi (by omega) (by omega)⟩ ⟨wi (by omega) (by omega)⟩ ⟨wi (by omega) (by omega)⟩ ⟨wi (by omega) (by omega)⟩ ⟨wi (by omega) (by omega)⟩ ⟨wi (by omega) (by omega)⟩ ⟨wi (by omega) (by omega)⟩ ⟨wi (by omega) (by omega)⟩
theorem c30 (x0 y0 r0 x1 y1 r1 x y : Int) (w : World) : Ret 30 #[.int .i64 x0, .int .i64 y0, .int .i64 r0, .int .i64 x1, .int .i64 y1, .int .i64 r1, .int .i64 x, .int .i64 y] w (.tuple #[.int .i64 (radial x0 y0 r0 x1 y1 r1 x y).1, .bool (radial x0 y0 r0 x1 y1 r1 x y).2]) :=
  c30W x0 y0 r0 x1 y1 r1 x y _ _ _ _ _ _ _ _ w rfl rfl rfl rfl rfl rfl rfl rfl

theorem rwhole_f (a : Int) : versalref20_whole.f a = some (near a (-8191)) := by
  have h := clip_bd a
  have e : versalref2_Round.f a = some ((clip a + 32768) / 65536) := by
    unfold versalref2_Round.f
    simp only [rclip_f, Option.bind_some]
    rw [w64 (by omega) (by omega), rfloor_f (by omega) (by omega) (by omega)]; rfl
  unfold versalref20_whole.f versalref2_Within.f near
  simp only [e, Option.bind_some, Option.some.injEq]
  unfold mx mn; omega
theorem near_pos (a : Int) : mx 0 (near a (-8191)) = near a 0 := by unfold near mx mn; omega
theorem rgood_f (t r d : Int) (r1 : 0 ≤ r) (r2 : r ≤ 8191) (d1 : -8191 ≤ d) (d2 : d ≤ 8191) (t1 : -2147483647 ≤ t) (t2 : t ≤ 2147483647) : versalref20_good.f t r d = some (if 0 ≤ r * 65536 + t * d then (t, true) else (0, false)) := by
  have hp := mul_bd (a := t) (b := d) (A := 2147483647) (B := 8191) t1 t2 d1 d2
  unfold versalref20_good.f
  rw [w64 (n := r * 65536) (by omega) (by omega), w64 (n := t * d) (by omega) (by omega), w64 (by omega) (by omega)]
  by_cases h : 0 ≤ r * 65536 + t * d
  · rw [if_pos h, if_neg (by omega)]
  · rw [if_neg h, if_pos (by omega)]
theorem mx_sym (a b : Int) : mx a b = mx b a := by unfold mx; omega
theorem mn_sym (a b : Int) : mn a b = mn b a := by unfold mn; omega
theorem rradial_f (k : Nat) (hk : 32 < k) (x0 y0 r0 x1 y1 r1 x y : Int) : versalref20_Radial.f k x0 y0 r0 x1 y1 r1 x y = some (radial x0 y0 r0 x1 y1 r1 x y) := by
  unfold versalref20_Radial.f radial
  simp only [rwhole_f, Option.bind_some, near_pos]
  have b0 := near_bd x0; have b1 := near_bd y0; have b2 := near_bd0 r0; have b3 := near_bd x1; have b4 := near_bd y1; have b5 := near_bd0 r1; have b6 := near_bd x; have b7 := near_bd y
  generalize near x0 (-8191) = X0 at *; generalize near y0 (-8191) = Y0 at *; generalize near r0 0 = R0 at *; generalize near x1 (-8191) = X1 at *
  generalize near y1 (-8191) = Y1 at *; generalize near r1 0 = R1 at *; generalize near x (-8191) = X at *; generalize near y (-8191) = Y at *
  obtain ⟨dx, dy, dr, ex, ey, s1, s2, s4, s5, s6, s8, s9, s10, s12⟩ := bds b0 b1 b2 b3 b4 b5 b6 b7
  unfold radW
  have bB : -805208064 ≤ (X - X0) * (X1 - X0) + (Y - Y0) * (Y1 - Y0) + R0 * (R1 - R0) ∧ (X - X0) * (X1 - X0) + (Y - Y0) * (Y1 - Y0) + R0 * (R1 - R0) ≤ 805208064 := by omega
  have hBB := mul_bd bB.1 bB.2 bB.1 bB.2
  have hAC := mul_bd (a := (X1 - X0) * (X1 - X0) + (Y1 - Y0) * (Y1 - Y0) - (R1 - R0) * (R1 - R0)) (b := (X - X0) * (X - X0) + (Y - Y0) * (Y - Y0) - R0 * R0) (A := 805208064) (B := 805208064) (by omega) (by omega) (by omega) (by omega)
  rw [w64 (n := X1 - X0) (by omega) (by omega), w64 (n := Y1 - Y0) (by omega) (by omega), w64 (n := R1 - R0) (by omega) (by omega), w64 (n := X - X0) (by omega) (by omega), w64 (n := Y - Y0) (by omega) (by omega)]
  generalize X1 - X0 = DX at *; generalize Y1 - Y0 = DY at *; generalize R1 - R0 = DR at *; generalize X - X0 = EX at *; generalize Y - Y0 = EY at *
  rw [w64 (n := DX * DX) (by omega) (by omega), w64 (n := DY * DY) (by omega) (by omega), w64 (n := DR * DR) (by omega) (by omega), w64 (n := EX * DX) (by omega) (by omega), w64 (n := EY * DY) (by omega) (by omega), w64 (n := R0 * DR) (by omega) (by omega), w64 (n := EX * EX) (by omega) (by omega), w64 (n := EY * EY) (by omega) (by omega), w64 (n := R0 * R0) (by omega) (by omega)]
  rw [w64 (n := DX * DX + DY * DY) (by omega) (by omega), w64 (n := EX * DX + EY * DY) (by omega) (by omega), w64 (n := EX * EX + EY * EY) (by omega) (by omega)]
  rw [w64 (n := DX * DX + DY * DY - DR * DR) (by omega) (by omega), w64 (n := EX * DX + EY * DY + R0 * DR) (by omega) (by omega), w64 (n := EX * EX + EY * EY - R0 * R0) (by omega) (by omega)]
  have cA : -805208064 ≤ DX * DX + DY * DY - DR * DR ∧ DX * DX + DY * DY - DR * DR ≤ 805208064 := by omega
  have cC : -805208064 ≤ EX * EX + EY * EY - R0 * R0 ∧ EX * EX + EY * EY - R0 * R0 ≤ 805208064 := by omega
  generalize DX * DX + DY * DY - DR * DR = A at *; generalize EX * DX + EY * DY + R0 * DR = B at *; generalize EX * EX + EY * EY - R0 * R0 = C at *
  rw [w64 (n := 2 * B) (by omega) (by omega), w64 (n := B * B) (by omega) (by omega), w64 (n := A * C) (by omega) (by omega), w64 (n := B * B - A * C) (by omega) (by omega)]
  unfold rad
  have G : ∀ t, -2147483647 ≤ t → t ≤ 2147483647 → versalref20_good.f t R0 DR = some (if 0 ≤ R0 * 65536 + t * DR then (t, true) else (0, false)) := fun t h1 h2 => rgood_f t R0 DR b2.1 b2.2 dr.1 dr.2 h1 h2
  by_cases hA : A = 0
  · rw [if_pos hA, if_pos hA]
    by_cases hB : B = 0
    · rw [if_pos hB, if_pos hB]
    · rw [if_neg hB, if_neg hB, rratio_f]
      simp only [Option.bind_some]
      rw [G _ (ratio_bd _ _).1 (ratio_bd _ _).2]
      simp only [Option.bind_some]
  · rw [if_neg hA, if_neg hA]
    by_cases hq : B * B - A * C < 0
    · rw [if_pos hq, if_pos hq]
    · rw [if_neg hq, if_neg hq, rroot_f (by omega) hk]
      have hR := root_bd (n := B * B - A * C) (by omega)
      generalize root (B * B - A * C) = RT at *
      simp only [Option.bind_some]
      rw [w64 (n := B + RT) (by omega) (by omega), w64 (n := B - RT) (by omega) (by omega)]
      simp only [rratio_f, Option.bind_some]
      have tS := ratio_bd (B + RT) A
      have tT := ratio_bd (B - RT) A
      generalize ratio (B + RT) A = S at *
      generalize ratio (B - RT) A = T at *
      rw [mx_sym T S, mn_sym T S, G (mx S T) (by unfold mx; omega) (by unfold mx; omega), G (mn S T) (by unfold mn; omega) (by unfold mn; omega)]
      by_cases hg : 0 ≤ R0 * 65536 + mx S T * DR
      · rw [if_pos hg, if_pos hg]; rfl
      · rw [if_neg hg, if_neg hg]; rfl
theorem c33 (x0 y0 r0 x1 y1 r1 x y : Int) (w : World) : Ret 33 #[.int .i64 x0, .int .i64 y0, .int .i64 r0, .int .i64 x1, .int .i64 y1, .int .i64 r1, .int .i64 x, .int .i64 y] w (.tuple #[.int .i64 (radial x0 y0 r0 x1 y1 r1 x y).1, .bool (radial x0 y0 r0 x1 y1 r1 x y).2]) := by
  first | exact versalref20_Radial.calls 33 x0 y0 r0 x1 y1 r1 x y _ _ w (rradial_f 33 (by omega) ..) | exact lift (versalref20_Radial.calls 33 x0 y0 r0 x1 y1 r1 x y _ _ w (rradial_f 33 (by omega) ..))
theorem c31 (a v : Int) (w : World) (h : wrap64 (a * 65536) = v) : Ret 31 #[.int .i64 a] w (.int .i64 v) := by first | exact versallaw22_w.calls a v w (h ▸ rfl) | exact lift (versallaw22_w.calls a v w (h ▸ rfl))
theorem d18 (a v : Int) (w : World) (h : versalhand_Num.f a = some v) : Calls Try.prog 18 #[.int .i64 a] w fun e w' => e = .returned (.int .i64 v) ∧ Drawn0 w w' := versalhand_Num.calls a v w h
theorem d22 (n m : Int) (w : World) (h1 : 0 < m) (h2 : m ≤ 9223372036854775807) : Calls Try.prog 22 #[.int .i64 n, .int .i64 m] w fun e w' => e = .returned (.int .i64 (n % m)) ∧ Drawn0 w w' := versalhand_Pick.calls n m _ w (pick_f h1 h2)
theorem w5 (w : World) : Ret 31 #[.int .i64 5] w (.int .i64 327680) := c31 5 _ w (by decide +kernel)
theorem w10 (w : World) : Ret 31 #[.int .i64 10] w (.int .i64 655360) := c31 10 _ w (by decide +kernel)
theorem t0 (w : World) : Ret 30 #[.int .i64 0, .int .i64 0, .int .i64 0, .int .i64 0, .int .i64 0, .int .i64 655360, .int .i64 327680, .int .i64 0] w (.tuple #[.int .i64 32768, .bool true]) := ret_tup (q := (32768, true)) (by decide +kernel) (c30 0 0 0 0 0 655360 327680 0 w)
set_option maxHeartbeats 4000000 in
theorem c32 (w : World) : Ret 32 #[] w (.bool true) := by
  have HB := Aside0.mk (Below.refl w.heap.size w)
  go_enter Try.func32, Try.ntmps32
  go_wp2_with (first | (go_at_call 31; (with_reducible refine (w10 _).mono ?_); rintro e w1 ⟨rfl, hb⟩; have n0_ := Aside0.mk (below_step (w := w) (by repeat (first | (with_reducible first | exact HB.out | apply below_alloc | apply pw_below_drewN | apply below_drew1 | (refine below_set ?_ (by omega))) | exact HB.out)) hb); clear HB; have HB := n0_; clear n0_ hb) | (go_at_call 31; (with_reducible refine (w5 _).mono ?_); rintro e w1 ⟨rfl, hb⟩; have n0_ := Aside0.mk (below_step (w := w) (by repeat (first | (with_reducible first | exact HB.out | apply below_alloc | apply pw_below_drewN | apply below_drew1 | (refine below_set ?_ (by omega))) | exact HB.out)) hb); clear HB; have HB := n0_; clear n0_ hb) | (go_at_call 30; (with_reducible refine (t0 _).mono ?_); rintro e w1 ⟨rfl, hb⟩; have n0_ := Aside0.mk (below_step (w := w) (by repeat (first | (with_reducible first | exact HB.out | apply below_alloc | apply pw_below_drewN | apply below_drew1 | (refine below_set ?_ (by omega))) | exact HB.out)) hb); clear HB; have HB := n0_; clear n0_ hb))
  go_ret
  exact ⟨rfl, HB.out⟩

end Go.Proofs.Ytaohkdieigbccaa.RadC
