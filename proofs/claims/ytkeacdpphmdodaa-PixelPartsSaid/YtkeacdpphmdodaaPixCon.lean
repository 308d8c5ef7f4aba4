/- What the functions of chapter 12 answer: one contract each. -/
import Derived.Test.YtkeacdpphmdodaaPixQ
namespace Go.Proofs.Ytkeacdpphmdodaa.PixCon
open Go.RowKit Go.Proofs.YtkeacdpphmdodaaW.PrintWords Go.Proofs.YtkeacdpphmdodaaW.PrintLast Go.Proofs.YtkeacdpphmdodaaW.PrintMore Go.Proofs.Ytkeacdpphmdodaa.PPixelTells Go.Proofs.Ytkeacdpphmdodaa.M Go.Proofs.Ytkeacdpphmdodaa.PixQ
attribute [local go_sem] max2_int min2_int max_two min_two max_three min_three max_four min_four
set_option linter.unusedVariables false
set_option linter.unusedSimpArgs false

theorem pick_f {n m : Int} (h1 : 0 < m) (h2 : m ≤ 9223372036854775807) : versalhand_Pick.f n m = some (n % m) := by
  have ha := Int.lt_tmod_of_pos n h1
  have hb := Int.tmod_lt_of_pos n h1
  rw [← tmod_pick h1]
  unfold versalhand_Pick.f
  rw [if_neg (by omega)]
  by_cases h : n.tmod m < 0
  · rw [if_pos h, if_pos h, w64 (by omega) (by omega)]
  · rw [if_neg h, if_neg h]

def br (n : Int) : Int := mx 0 (mn n 255)
theorem br_bd (n : Int) : 0 ≤ br n ∧ br n ≤ 255 := by unfold br mx mn; omega
theorem br_id {n : Int} (h0 : 0 ≤ n) (h1 : n ≤ 255) : br n = n := by unfold br mx mn; omega
theorem br_mono {a b : Int} (h : a ≤ b) : br a ≤ br b := by unfold br mx mn; omega
def part (a b : Int) : Int := (br a * br b + 127) / 255
theorem br_mul (a b : Int) : 0 ≤ br a * br b ∧ br a * br b ≤ 65025 := by
  have h := mul_bd (a := br a) (b := br b) (A := 255) (B := 255) (by have := br_bd a; omega) (by have := br_bd a; omega) (by have := br_bd b; omega) (by have := br_bd b; omega)
  exact ⟨Int.mul_nonneg (br_bd a).1 (br_bd b).1, by omega⟩
theorem part_bd (a b : Int) : 0 ≤ part a b ∧ part a b ≤ 255 := by have := br_mul a b; unfold part; omega
theorem part_comm (a b : Int) : part a b = part b a := by unfold part; rw [Int.mul_comm]
theorem part_full {a : Int} (h0 : 0 ≤ a) (h1 : a ≤ 255) : part a 255 = a := by unfold part; rw [br_id h0 h1, br_id (n := 255) (by omega) (by omega)]; omega
theorem part_nil (a : Int) : part a 0 = 0 := by unfold part; rw [br_id (n := 0) (by omega) (by omega), Int.mul_zero]; decide
theorem part_mono {a b c : Int} (h : a ≤ b) : part a c ≤ part b c := by
  have h1 := Int.mul_le_mul_of_nonneg_right (br_mono h) (br_bd c).1
  unfold part; omega
theorem part_le {a b : Int} (h0 : 0 ≤ a) (h1 : a ≤ 255) : part a b ≤ a := by
  have h := Int.mul_le_mul_of_nonneg_left (br_bd b).2 (br_bd a).1
  rw [br_id h0 h1] at h
  unfold part; rw [br_id h0 h1]; omega
theorem part_f (a b : Int) : pixel_Part.f a b = some (part a b) := by
  have h := br_mul a b
  have e : ∀ n, pixel_brought.f n = some (br n) := fun n => rfl
  unfold pixel_Part.f part
  simp only [e, Option.bind_some]
  rw [w64 (n := br a * br b) (by omega) (by omega), w64 (n := br a * br b + 127) (by omega) (by omega), Int.tdiv_eq_ediv_of_nonneg (by omega), w64 (by omega) (by omega)]

theorem lift {f : FuncId} {args : Array Value} {w : World} {v : Value} (h : Calls Try.prog f args w fun e w' => e = .returned v ∧ Drawn0 w w') : Ret f args w v := h.mono fun _ _ ⟨a, b⟩ => ⟨a, b.below⟩
theorem ret_of {f : FuncId} {args : Array Value} {w : World} {a b : Int} (e : a = b) (h : Ret f args w (.int .i64 a)) : Ret f args w (.int .i64 b) := e ▸ h
/-- a right pixel -/
def right (r g b a : Int) : Bool := decide (0 ≤ r) && decide (r ≤ 255) && (decide (0 ≤ g) && decide (g ≤ 255)) && (decide (0 ≤ b) && decide (b ≤ 255)) && (decide (0 ≤ a) && decide (a ≤ 255))
theorem right_iff {r g b a : Int} : right r g b a = true ↔ (0 ≤ r ∧ r ≤ 255) ∧ (0 ≤ g ∧ g ≤ 255) ∧ (0 ≤ b ∧ b ≤ 255) ∧ (0 ≤ a ∧ a ≤ 255) := by
  unfold right; simp [and_assoc]
theorem right_f (r g b a : Int) : pixel_Right.f r g b a = some (right r g b a) := by
  unfold pixel_Right.f
  by_cases h : right r g b a = true
  · rw [h]
    have h' := right_iff.1 h
    rw [if_pos (by unfold mn; omega), decide_eq_true (by unfold mx; omega)]
  · have e : right r g b a = false := by simpa using h
    rw [e]
    have h' : ¬ ((0 ≤ r ∧ r ≤ 255) ∧ (0 ≤ g ∧ g ≤ 255) ∧ (0 ≤ b ∧ b ≤ 255) ∧ (0 ≤ a ∧ a ≤ 255)) := fun x => h (right_iff.2 x)
    split
    · rename_i h1
      rw [decide_eq_false (by intro h2; apply h'; unfold mn at h1; unfold mx at h2; omega)]
    · rfl
/-- the four numbers that are taken of a pixel -/
def tk (r g b a : Int) : Int × Int × Int × Int := if right r g b a = true then (r, g, b, a) else (0, 0, 0, 0)
theorem tk_bd (r g b a : Int) : (0 ≤ (tk r g b a).1 ∧ (tk r g b a).1 ≤ 255) ∧ (0 ≤ (tk r g b a).2.1 ∧ (tk r g b a).2.1 ≤ 255) ∧ (0 ≤ (tk r g b a).2.2.1 ∧ (tk r g b a).2.2.1 ≤ 255) ∧ (0 ≤ (tk r g b a).2.2.2 ∧ (tk r g b a).2.2.2 ≤ 255) := by
  unfold tk
  split
  · rename_i h; exact right_iff.1 h
  · decide
theorem taken_f (r g b a : Int) : pixel_taken.f r g b a = some (tk r g b a) := by
  unfold pixel_taken.f tk
  simp only [right_f, Option.bind_some]
  split <;> rfl
abbrev pxt (p : Int × Int × Int × Int) : Value := px p.1 p.2.1 p.2.2.1 p.2.2.2
theorem c61 (r g b a : Int) (w : World) : Ret 61 #[px r g b a] w (pxt (tk r g b a)) := pixel_taken.calls r g b a _ _ _ _ w (taken_f r g b a)
theorem c15 (a b : Int) (w : World) : Ret 15 #[.int .i64 a, .int .i64 b] w (.int .i64 (part a b)) := pixel_Part.calls a b _ w (part_f a b)
def pre (r g b a : Int) : Int × Int × Int × Int := let p := tk r g b a; (part p.1 p.2.2.2, part p.2.1 p.2.2.2, part p.2.2.1 p.2.2.2, p.2.2.2)
theorem pre_f (r g b a : Int) : pixel_Pre.f r g b a = some (pre r g b a) := by
  unfold pixel_Pre.f pre
  simp only [taken_f, part_f, Option.bind_some]
theorem c18 (r g b a : Int) (w : World) : Ret 18 #[px r g b a] w (pxt (pre r g b a)) := pixel_Pre.calls r g b a _ _ _ _ w (pre_f r g b a)
def bar (r g b a : Int) : Int × Int × Int × Int := let p := tk r g b a; if p.2.2.2 = 0 then (0, 0, 0, 0) else (bare p.1 p.2.2.2, bare p.2.1 p.2.2.2, bare p.2.2.1 p.2.2.2, p.2.2.2)
theorem c17bar (r g b a : Int) (w : World) : Ret 17 #[px r g b a] w (pxt (bar r g b a)) := by
  have h := tk_bd r g b a
  have K := fun w => c61 r g b a w
  by_cases h0 : (tk r g b a).2.2.2 = 0
  · have e : bar r g b a = (0, 0, 0, 0) := by unfold bar; rw [if_pos h0]
    rw [e]; exact c17z r g b a _ _ _ _ w K h0
  · have e : bar r g b a = (bare (tk r g b a).1 (tk r g b a).2.2.2, bare (tk r g b a).2.1 (tk r g b a).2.2.2, bare (tk r g b a).2.2.1 (tk r g b a).2.2.2, (tk r g b a).2.2.2) := by unfold bar; rw [if_neg h0]
    rw [e]; exact c17 r g b a _ _ _ _ w K h.1.1 h.1.2 h.2.1.1 h.2.1.2 h.2.2.1.1 h.2.2.1.2 (by omega) h.2.2.2.2
theorem c16 (w : World) : Ret 16 #[] w (.bool true) := by first | exact versallaw12_known.calls _ w (by decide +kernel) | exact lift (versallaw12_known.calls _ w (by decide +kernel))
theorem c14 (n m : Int) (w : World) (h1 : 0 < m) (h2 : m ≤ 9223372036854775807) : Ret 14 #[.int .i64 n, .int .i64 m] w (.int .i64 (n % m)) := lift (versalhand_Pick.calls n m _ w (pick_f h1 h2))

end Go.Proofs.Ytkeacdpphmdodaa.PixCon
