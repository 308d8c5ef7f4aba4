/- Plain law of RowsTells: Undo and Do of both answer the same; the list of passes, for sizes up to 256. -/
import Derived.Test.YtkagmelijdfdiaaPRowsTellsx
import Derived.Test.YtkagmelijdfdiaaMath
namespace Go.Proofs.Ytkagmelijdfdiaa.RtA
open Go.RowKit Go.Proofs.YtkagmelijdfdiaaW.PrintWords Go.Proofs.YtkagmelijdfdiaaW.PrintLast Go.Proofs.YtkagmelijdfdiaaW.PrintMore Go.Proofs.Ytkagmelijdfdiaa.PRowsTells Go.Proofs.Ytkagmelijdfdiaa.M
attribute [local go_sem] max2_int min2_int max_two min_two max_three min_three max_four min_four
set_option linter.unusedVariables false
set_option linter.unusedSimpArgs false

theorem rat_f (l : List Int) (i : Int) : versalref6_at.f l i = rows_at.f l i := rfl
def atv (l : List Int) (i : Int) : Int := if i < 0 then 0 else if i ≥ (l.length : Int) then 0 else wrap64 (rd l i)
theorem at_f (l : List Int) (i : Int) : rows_at.f l i = some (atv l i) := by
  unfold rows_at.f atv
  by_cases h : i < 0
  · rw [if_pos h, if_pos h]
  · rw [if_neg h, if_neg h]
    by_cases h2 : i ≥ (l.length : Int)
    · rw [if_pos h2, if_pos h2]
    · rw [if_neg h2, if_neg h2, if_pos (by omega), if_pos (by omega)]
theorem wneg (x y : Int) : wrap64 (-(wrap64 (x - y))) = wrap64 (y - x) := by unfold wrap64; omega
theorem near_same (k : Nat) (a b c : Int) : rows_nearest.f (k + 1) a b c = versalref6_guess.f (k + 1) 4 a b c := by
  unfold rows_nearest.f versalref6_guess.f rows_away.f
  simp only [Option.bind_some, rows_nearest.j0, versalref6_guess.j0, rows_away.f, wneg]
  rfl
theorem guess_same (k : Nat) (kind bpp : Int) (l2 l3 : List Int) (i : Int) : rows_guess.f (k + 1) kind bpp l2 l3 i = versalref6_guess.f (k + 1) kind (atv l2 (wrap64 (i - bpp))) (atv l3 i) (atv l3 (wrap64 (i - bpp))) := by
  unfold rows_guess.f
  simp only [at_f, Option.bind_some, near_same]
  by_cases h4 : kind = 4
  · subst h4
    rw [if_neg (by decide), if_neg (by decide), if_neg (by decide), if_pos rfl]
    cases versalref6_guess.f (k + 1) 4 (atv l2 (wrap64 (i - bpp))) (atv l3 i) (atv l3 (wrap64 (i - bpp))) <;> rfl
  · rw [if_neg h4]
    unfold versalref6_guess.f
    rw [if_neg h4]
theorem guess_some (k : Nat) (kind a b c : Int) : ∃ g, versalref6_guess.f (k + 1) kind a b c = some g := by
  unfold versalref6_guess.f
  simp only [versalref6_guess.j0]
  repeat' split
  all_goals exact ⟨_, rfl⟩
theorem add_byte (x t : Int) : (x + t % 256) % 256 = wrap64 (wrap64 x + t) % 256 := by unfold wrap64; omega
theorem sub_byte (x t : Int) : (x - t % 256) % 256 = wrap64 (wrap64 x - t) % 256 := by unfold wrap64; omega
theorem undo_l (kind bpp : Int) (line above : List Int) (hn : line.length ≤ 140737488351232) : ∀ (m e i : Nat) (out : List Int), i + m = line.length → out.length = line.length →
    ∃ r, rows_Undo.l0 (m + e + 2) kind bpp line above out (line.length : Int) (i : Int) = some (r, 0) ∧ versalref6_Undo.l0 (m + e + 2) kind bpp line above out (i : Int) = some (r, true)
  | 0, e, i, out, h, ho => by
    refine ⟨out, ?_, ?_⟩
    · rw [show 0 + e + 2 = (e + 1) + 1 by omega]
      unfold rows_Undo.l0
      rw [if_neg (by omega)]
    · rw [show 0 + e + 2 = (e + 1) + 1 by omega]
      unfold versalref6_Undo.l0
      rw [if_neg (by omega)]
  | m + 1, e, i, out, h, ho => by
    obtain ⟨g, hg⟩ := guess_some (m + e + 1) kind (atv out (wrap64 ((i : Int) - bpp))) (atv above (i : Int)) (atv above (wrap64 ((i : Int) - bpp)))
    obtain ⟨r, e1, e2⟩ := undo_l kind bpp line above hn m e (i + 1) (out.set i ((rd line i + g % 256) % 256)) (by omega) (by simpa using ho)
    refine ⟨r, ?_, ?_⟩
    · rw [show m + 1 + e + 2 = (m + e + 2) + 1 by omega]
      unfold rows_Undo.l0
      rw [if_pos (by omega), if_pos (by omega), if_pos (by omega), show m + e + 2 = (m + e + 1) + 1 by omega, guess_same, hg, Option.bind_some, if_pos (by omega), w64 (n := (i : Int) + 1) (by omega) (by omega)]
      exact e1
    · rw [show m + 1 + e + 2 = (m + e + 2) + 1 by omega]
      unfold versalref6_Undo.l0
      rw [if_pos (by omega), if_pos (by omega)]
      simp only [rat_f, at_f, Option.bind_some]
      rw [show m + e + 2 = (m + e + 1) + 1 by omega, hg, Option.bind_some, if_pos (by omega), w64 (n := (i : Int) + 1) (by omega) (by omega), ← add_byte]
      exact e2
theorem do_l (kind bpp : Int) (line above : List Int) (hn : line.length ≤ 140737488351232) : ∀ (m e i : Nat) (out : List Int), i + m = line.length → out.length = line.length →
    ∃ r, rows_Do.l0 (m + e + 2) kind bpp line above out (line.length : Int) (i : Int) = some (r, 0) ∧ versalref6_Do.l0 (m + e + 2) kind bpp line above out (i : Int) = some (r, true)
  | 0, e, i, out, h, ho => by
    refine ⟨out, ?_, ?_⟩
    · rw [show 0 + e + 2 = (e + 1) + 1 by omega]
      unfold rows_Do.l0
      rw [if_neg (by omega)]
    · rw [show 0 + e + 2 = (e + 1) + 1 by omega]
      unfold versalref6_Do.l0
      rw [if_neg (by omega)]
  | m + 1, e, i, out, h, ho => by
    obtain ⟨g, hg⟩ := guess_some (m + e + 1) kind (atv line (wrap64 ((i : Int) - bpp))) (atv above (i : Int)) (atv above (wrap64 ((i : Int) - bpp)))
    obtain ⟨r, e1, e2⟩ := do_l kind bpp line above hn m e (i + 1) (out.set i ((rd line i - g % 256) % 256)) (by omega) (by simpa using ho)
    refine ⟨r, ?_, ?_⟩
    · rw [show m + 1 + e + 2 = (m + e + 2) + 1 by omega]
      unfold rows_Do.l0
      rw [if_pos (by omega), if_pos (by omega), if_pos (by omega), show m + e + 2 = (m + e + 1) + 1 by omega, guess_same, hg, Option.bind_some, if_pos (by omega), w64 (n := (i : Int) + 1) (by omega) (by omega)]
      exact e1
    · rw [show m + 1 + e + 2 = (m + e + 2) + 1 by omega]
      unfold versalref6_Do.l0
      rw [if_pos (by omega), if_pos (by omega)]
      simp only [rat_f, at_f, Option.bind_some]
      rw [show m + e + 2 = (m + e + 1) + 1 by omega, hg, Option.bind_some, if_pos (by omega), w64 (n := (i : Int) + 1) (by omega) (by omega), ← sub_byte]
      exact e2
/-- a right kind and pixel's width -/
def okR (kind bpp : Int) : Bool := decide (0 ≤ kind ∧ kind ≤ 4 ∧ 1 ≤ bpp ∧ bpp ≤ 8)
def eR (kind bpp : Int) : Int := if okR kind bpp = true then 0 else 1
theorem right_f (kind bpp : Int) : rows_right.f kind bpp = some (okR kind bpp) := by
  unfold rows_right.f okR
  repeat' split
  all_goals (congr 1; first | (rw [decide_eq_decide]; omega) | (symm; rw [decide_eq_false_iff_not]; omega))
theorem gate_f {α : Type} (kind bpp : Int) (j : Bool → Option α) : (if kind < 0 then j true else if kind > 4 then j true else if bpp < 1 then j true else j (decide (bpp > 8))) = j (!okR kind bpp) := by
  unfold okR
  repeat' split
  all_goals (congr 1; first | (symm; rw [Bool.not_eq_true', decide_eq_false_iff_not]; omega) | (rw [← decide_not, decide_eq_decide]; omega))
theorem undo_both (kind bpp : Int) (line above : List Int) (hn : line.length ≤ 140737488351232) :
    ∃ Z, rows_Undo.f (line.length + 2) kind bpp line above = some (Z, eR kind bpp) ∧ versalref6_Undo.f (line.length + 3) kind bpp line above = some (Z, okR kind bpp) := by
  cases hk : okR kind bpp with
  | true =>
    obtain ⟨r, e1, e2⟩ := undo_l kind bpp line above hn line.length 0 0 (List.replicate line.length 0) (by omega) (by simp)
    refine ⟨r, ?_, ?_⟩
    · unfold rows_Undo.f eR
      rw [right_f, hk, Option.bind_some, if_pos rfl, if_pos (by omega), if_pos (by omega), Int.toNat_natCast, if_pos rfl]
      exact e1
    · unfold versalref6_Undo.f
      rw [gate_f, hk, show line.length + 3 = (line.length + 2) + 1 by omega]
      unfold versalref6_Undo.j0
      dsimp only
      rw [Bool.not_true, if_neg (by decide), if_pos (by omega), if_pos (by omega), Int.toNat_natCast]
      exact e2
  | false =>
    refine ⟨[], ?_, ?_⟩
    · unfold rows_Undo.f eR
      rw [right_f, hk, Option.bind_some, if_neg (by decide), if_neg (by decide)]
    · unfold versalref6_Undo.f
      rw [gate_f, hk, show line.length + 3 = (line.length + 2) + 1 by omega]
      unfold versalref6_Undo.j0
      dsimp only
      rw [Bool.not_false, if_pos rfl]
theorem do_both (kind bpp : Int) (line above : List Int) (hn : line.length ≤ 140737488351232) :
    ∃ Z, rows_Do.f (line.length + 2) kind bpp line above = some (Z, eR kind bpp) ∧ versalref6_Do.f (line.length + 3) kind bpp line above = some (Z, okR kind bpp) := by
  cases hk : okR kind bpp with
  | true =>
    obtain ⟨r, e1, e2⟩ := do_l kind bpp line above hn line.length 0 0 (List.replicate line.length 0) (by omega) (by simp)
    refine ⟨r, ?_, ?_⟩
    · unfold rows_Do.f eR
      rw [right_f, hk, Option.bind_some, if_pos rfl, if_pos (by omega), if_pos (by omega), Int.toNat_natCast, if_pos rfl]
      exact e1
    · unfold versalref6_Do.f
      rw [gate_f, hk, show line.length + 3 = (line.length + 2) + 1 by omega]
      unfold versalref6_Do.j0
      dsimp only
      rw [Bool.not_true, if_neg (by decide), if_pos (by omega), if_pos (by omega), Int.toNat_natCast]
      exact e2
  | false =>
    refine ⟨[], ?_, ?_⟩
    · unfold rows_Do.f eR
      rw [right_f, hk, Option.bind_some, if_neg (by decide), if_neg (by decide)]
    · unfold versalref6_Do.f
      rw [gate_f, hk, show line.length + 3 = (line.length + 2) + 1 by omega]
      unfold versalref6_Do.j0
      dsimp only
      rw [Bool.not_false, if_pos rfl]
/-- one pass of the table, of a size -/
def pss (w h : Int) (x y dx dy : Int) : List S41 := if w > x ∧ h > y then [⟨x, y, dx, dy, (w - x + dx - 1).tdiv dx, (h - y + dy - 1).tdiv dy⟩] else []
def tbl : List S41 := [⟨0, 0, 8, 8, 0, 0⟩, ⟨4, 0, 8, 8, 0, 0⟩, ⟨0, 4, 4, 8, 0, 0⟩, ⟨2, 0, 4, 4, 0, 0⟩, ⟨0, 2, 2, 4, 0, 0⟩, ⟨1, 0, 2, 2, 0, 0⟩, ⟨0, 1, 1, 2, 0, 0⟩]
def pt (w h : Int) (s : S41) : List S41 := pss w h s.f0 s.f1 s.f2 s.f3
/-- the passes, behind k rows of the table -/
def pk (w h : Int) (k : Nat) : List S41 := (tbl.take k).flatMap (pt w h)
theorem pk_next (w h : Int) {k : Nat} {s : S41} (hs : tbl[k]? = some s) : pk w h (k + 1) = pk w h k ++ pt w h s := by
  unfold pk
  rw [List.take_add_one, hs]
  simp
theorem pss_len (w h x y dx dy : Int) : (pss w h x y dx dy).length ≤ 1 := by unfold pss; split <;> simp
theorem flat_len (w h : Int) : ∀ l : List S41, (l.flatMap (pt w h)).length ≤ l.length
  | [] => by simp
  | a :: l => by
    have h1 := flat_len w h l
    have h2 := pss_len w h a.f0 a.f1 a.f2 a.f3
    rw [List.flatMap_cons, List.length_append, List.length_cons]
    unfold pt at *
    omega
theorem pk_len (w h : Int) (k : Nat) : (pk w h k).length ≤ 7 := by
  have h1 := flat_len w h (tbl.take k)
  have h2 : (tbl.take k).length ≤ 7 := by rw [List.length_take]; exact Nat.min_le_right _ _
  unfold pk
  omega
/-- what the rows of the table are -/
theorem tbl_row {k : Nat} {s : S41} (hs : tbl[k]? = some s) : (s.f0 = 0 ∨ s.f0 = 1 ∨ s.f0 = 2 ∨ s.f0 = 4) ∧ (s.f1 = 0 ∨ s.f1 = 1 ∨ s.f1 = 2 ∨ s.f1 = 4) ∧ (s.f2 = 1 ∨ s.f2 = 2 ∨ s.f2 = 4 ∨ s.f2 = 8) ∧ (s.f3 = 2 ∨ s.f3 = 4 ∨ s.f3 = 8) ∧ s.f4 = 0 ∧ s.f5 = 0 := by
  have hm := List.mem_of_getElem? hs
  have : ∀ s ∈ tbl.map (fun s : S41 => (s.f0, s.f1, s.f2, s.f3, s.f4, s.f5)), (s.1 = 0 ∨ s.1 = 1 ∨ s.1 = 2 ∨ s.1 = 4) ∧ (s.2.1 = 0 ∨ s.2.1 = 1 ∨ s.2.1 = 2 ∨ s.2.1 = 4) ∧ (s.2.2.1 = 1 ∨ s.2.2.1 = 2 ∨ s.2.2.1 = 4 ∨ s.2.2.1 = 8) ∧ (s.2.2.2.1 = 2 ∨ s.2.2.2.1 = 4 ∨ s.2.2.2.1 = 8) ∧ s.2.2.2.2.1 = 0 ∧ s.2.2.2.2.2 = 0 := by decide
  exact this _ (List.mem_map_of_mem hm)
theorem pass_l {w h : Int} (w0 : 0 ≤ w) (w1 : w ≤ 256) (h0 : 0 ≤ h) (h1 : h ≤ 256) : ∀ (d k : Nat), k + d = 7 → rows_Passes.l0 (d + 1) w h (pk w h k) tbl 7 (k : Int) = some (pk w h 7)
  | 0, k, e => by
    obtain rfl : k = 7 := by omega
    unfold rows_Passes.l0
    rw [if_neg (by omega)]
  | d + 1, k, e => by
    have hk : k < 7 := by omega
    obtain ⟨s, hs⟩ : ∃ s, tbl[k]? = some s := ⟨_, List.getElem?_eq_getElem hk⟩
    have hrd : rd_T41 tbl (k : Int) = s := by unfold rd_T41; rw [Int.toNat_natCast, List.getD_eq_getElem?_getD, hs]; rfl
    have ih := pass_l w0 w1 h0 h1 d (k + 1) (by omega)
    obtain ⟨r0, r1, r2, r3, _, _⟩ := tbl_row hs
    have hl := pk_len w h k
    rw [pk_next w h hs] at ih
    unfold rows_Passes.l0
    rw [if_pos (by omega), if_pos (by omega), if_pos (by show (k : Int) < ((7 : Nat) : Int); omega), hrd, if_neg (by omega), if_neg (by omega), w64 (n := (k : Int) + 1) (by omega) (by omega)]
    unfold pt pss at ih
    by_cases hw : w > s.f0
    · rw [if_pos hw]
      by_cases hh : h > s.f1
      · rw [if_pos hh, if_pos (by omega)]
        rw [if_pos ⟨hw, hh⟩] at ih
        rw [w64 (n := w - s.f0) (by omega) (by omega), w64 (n := w - s.f0 + s.f2) (by omega) (by omega), w64 (n := w - s.f0 + s.f2 - 1) (by omega) (by omega), w64 (n := h - s.f1) (by omega) (by omega), w64 (n := h - s.f1 + s.f3) (by omega) (by omega), w64 (n := h - s.f1 + s.f3 - 1) (by omega) (by omega)]
        have a1 : -9223372036854775808 ≤ (w - s.f0 + s.f2 - 1).tdiv s.f2 ∧ (w - s.f0 + s.f2 - 1).tdiv s.f2 ≤ 9223372036854775807 := by
          rw [Int.tdiv_eq_ediv_of_nonneg (by omega)]
          rcases r2 with e | e | e | e <;> rw [e] <;> omega
        have a2 : -9223372036854775808 ≤ (h - s.f1 + s.f3 - 1).tdiv s.f3 ∧ (h - s.f1 + s.f3 - 1).tdiv s.f3 ≤ 9223372036854775807 := by
          rw [Int.tdiv_eq_ediv_of_nonneg (by omega)]
          rcases r3 with e | e | e <;> rw [e] <;> omega
        rw [w64 a1.1 a1.2, w64 a2.1 a2.2]
        exact ih
      · rw [if_neg hh]
        rw [if_neg (fun hc => hh hc.2), List.append_nil] at ih
        exact ih
    · rw [if_neg hw]
      rw [if_neg (fun hc => hw hc.1), List.append_nil] at ih
      exact ih
/-- the size that an image has -/
def cw (a : Int) : Int := mx 0 (mn a 256)
theorem cw_b (a : Int) : 0 ≤ cw a ∧ cw a ≤ 256 := by unfold cw mx mn; repeat' split
                                                     all_goals omega
theorem passes_f (a b : Int) : rows_Passes.f 8 a b = some (pk (cw a) (cw b) 7) := by
  have h := pass_l (cw_b a).1 (cw_b a).2 (cw_b b).1 (cw_b b).2 7 0 (by omega)
  unfold rows_Passes.f
  exact h
theorem within_f (a : Int) : versalref2_Within.f a 0 256 = some (cw a) := by
  unfold versalref2_Within.f cw mx mn
  congr 1
  repeat' split
  all_goals omega
/-- how many steps -/
def cnt (w x dx : Int) : Int := if w > x then (w - x + dx - 1).tdiv dx else 0
theorem cnt_b {w x dx : Int} (w1 : w ≤ 256) (x0 : 0 ≤ x) (hd : dx = 1 ∨ dx = 2 ∨ dx = 4 ∨ dx = 8) : 0 ≤ cnt w x dx ∧ cnt w x dx ≤ 256 := by
  unfold cnt
  split
  · rw [Int.tdiv_eq_ediv_of_nonneg (by omega)]
    rcases hd with rfl | rfl | rfl | rfl <;> omega
  · omega
theorem cnt_lt {w x dx k : Int} (hd : dx = 1 ∨ dx = 2 ∨ dx = 4 ∨ dx = 8) (h0 : 0 ≤ k) (hk : k < cnt w x dx) : x + k * dx < w := by
  unfold cnt at hk
  split at hk
  · rw [Int.tdiv_eq_ediv_of_nonneg (by omega)] at hk
    rcases hd with rfl | rfl | rfl | rfl <;> omega
  · omega
theorem cnt_end {w x dx : Int} (hd : dx = 1 ∨ dx = 2 ∨ dx = 4 ∨ dx = 8) : ¬ x + cnt w x dx * dx < w := by
  unfold cnt
  split
  · rw [Int.tdiv_eq_ediv_of_nonneg (by omega)]
    rcases hd with rfl | rfl | rfl | rfl <;> omega
  · omega
theorem cnt_pos {w x dx : Int} (hd : dx = 1 ∨ dx = 2 ∨ dx = 4 ∨ dx = 8) : 0 < cnt w x dx ↔ w > x := by
  unfold cnt
  split
  · rename_i h
    rw [Int.tdiv_eq_ediv_of_nonneg (by omega)]
    rcases hd with rfl | rfl | rfl | rfl <;> omega
  · omega
theorem pt_yes {w h : Int} {s : S41} (hw : w > s.f0) (hh : h > s.f1) : pt w h s = [⟨s.f0, s.f1, s.f2, s.f3, cnt w s.f0 s.f2, cnt h s.f1 s.f3⟩] := by
  unfold pt pss cnt; rw [if_pos ⟨hw, hh⟩, if_pos hw, if_pos hh]
theorem pt_no {w h : Int} {s : S41} (hn : ¬ (w > s.f0 ∧ h > s.f1)) : pt w h s = [] := by unfold pt pss; rw [if_neg hn]

end Go.Proofs.Ytkagmelijdfdiaa.RtA
