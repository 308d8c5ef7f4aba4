/- What is done is undone, and what is undone is done: for each kind, each pixel's width, each line and each line above. No conditions. -/
import Derived.Test.YtkagmelijdfdiaaPRowsBackx5
import Derived.Test.YtkagmelijdfdiaaMath
namespace Go.Proofs.Ytkagmelijdfdiaa.Pure
open Go.RowKit Go.Proofs.Ytkagmelijdfdiaa.PRowsBack Go.Proofs.YtkagmelijdfdiaaW.PrintWords Go.Proofs.YtkagmelijdfdiaaW.PrintLast Go.Proofs.Ytkagmelijdfdiaa.M
set_option linter.unusedSimpArgs false
set_option linter.unusedVariables false

theorem pick_f {n m : Int} (h1 : 0 < m) (h2 : m ≤ 9223372036854775807) : versalhand_Pick.f n m = some (n % m) := by
  have ha := Int.lt_tmod_of_pos n h1
  have hb := Int.tmod_lt_of_pos n h1
  rw [← tmod_pick h1]
  unfold versalhand_Pick.f
  rw [if_neg (by omega)]
  by_cases h : n.tmod m < 0
  · rw [if_pos h, if_pos h, w64 (by omega) (by omega)]
  · rw [if_neg h, if_neg h]

theorem known_t : ∀ e, versallaw10_known.f (20 + e) = some true := by
  intro e
  induction e with
  | zero => decide +kernel
  | succ e ih => exact versallaw10_known.mono (20 + e) true ih

def atv (l : List Int) (i : Int) : Int := if i < 0 then 0 else if i ≥ (l.length : Int) then 0 else wrap64 (rd l i)
theorem at_f (l : List Int) (i : Int) : rows_at.f l i = some (atv l i) := by
  unfold rows_at.f atv
  by_cases h : i < 0
  · rw [if_pos h, if_pos h]
  · rw [if_neg h, if_neg h]
    by_cases h2 : i ≥ (l.length : Int)
    · rw [if_pos h2, if_pos h2]
    · rw [if_neg h2, if_neg h2, if_pos (by omega), if_pos (by omega)]

def near (a b c : Int) : Int := (rows_nearest.f 1 a b c).getD 0
theorem near_f (k : Nat) (a b c : Int) : rows_nearest.f (k + 1) a b c = some (near a b c) := by
  unfold near rows_nearest.f rows_away.f
  simp only [Option.bind_some, rows_nearest.j0, rows_away.f]
  repeat' split
  all_goals first | rfl | simp_all

def gv (kind a b c : Int) : Int := if kind = 1 then a else if kind = 2 then b else if kind = 3 then wrap64 (Int.tdiv (wrap64 (a + b)) 2) else if kind = 4 then near a b c else 0
/-- the guess -/
def gs (kind bpp : Int) (line above : List Int) (i : Int) : Int := gv kind (atv line (wrap64 (i - bpp))) (atv above i) (atv above (wrap64 (i - bpp)))
theorem guess_f (k : Nat) (kind bpp : Int) (l2 l3 : List Int) (i : Int) : rows_guess.f (k + 1) kind bpp l2 l3 i = some (gs kind bpp l2 l3 i) := by
  unfold rows_guess.f gs gv
  simp only [at_f, Option.bind_some, near_f]
  repeat' split
  all_goals rfl

theorem rd_set {l : List Int} {i j : Nat} (hi : i < l.length) (v : Int) : rd (l.set i v) (j : Int) = if i = j then v else rd l (j : Int) := by
  unfold rd
  simp only [Int.toNat_natCast, List.getD_eq_getElem?_getD, List.getElem?_set]
  by_cases h : i = j
  · subst h; simp [hi]
  · simp [h]

/-- the loop of Do -/
theorem do_l (kind bpp : Int) (line above : List Int) (hn : line.length ≤ 140737488351232) : ∀ (m e i : Nat) (out : List Int), i + m = line.length → out.length = line.length →
    ∃ r, rows_Do.l0 (m + e + 2) kind bpp line above out (line.length : Int) (i : Int) = some (r, 0) ∧ r.length = line.length ∧ (∀ j : Nat, j < i → rd r j = rd out j) ∧
      ∀ j : Nat, i ≤ j → j < line.length → rd r j = (rd line j - gs kind bpp line above j % 256) % 256
  | 0, e, i, out, h, ho => by
    refine ⟨out, ?_, ho, fun _ _ => rfl, fun j h1 h2 => by omega⟩
    rw [show 0 + e + 2 = (e + 1) + 1 by omega]
    unfold rows_Do.l0
    rw [if_neg (by omega)]
  | m + 1, e, i, out, h, ho => by
    obtain ⟨r, e1, e2, e3, e4⟩ := do_l kind bpp line above hn m e (i + 1) (out.set i ((rd line i - gs kind bpp line above i % 256) % 256)) (by omega) (by simpa using ho)
    refine ⟨r, ?_, e2, ?_, ?_⟩
    · rw [show m + 1 + e + 2 = (m + e + 2) + 1 by omega]
      unfold rows_Do.l0
      rw [if_pos (by omega), if_pos (by omega), if_pos (by omega), show m + e + 2 = (m + e + 1) + 1 by omega, guess_f, Option.bind_some, if_pos (by omega), w64 (n := (i : Int) + 1) (by omega) (by omega)]
      exact e1
    · intro j hj
      rw [e3 j (by omega), rd_set (by omega), if_neg (by omega)]
    · intro j h1 h2
      by_cases h3 : j = i
      · subst h3
        rw [e3 j (by omega), rd_set (by omega), if_pos rfl]
      · exact e4 j (by omega) h2

theorem atv_same {l l' : List Int} (hl : l.length = l'.length) {i : Int} (h : ∀ j : Nat, (j : Int) ≤ i → rd l j = rd l' j) : atv l i = atv l' i := by
  unfold atv
  rw [hl]
  by_cases h0 : i < 0
  · rw [if_pos h0, if_pos h0]
  · rw [if_neg h0, if_neg h0]
    have := h i.toNat (by omega)
    rw [Int.toNat_of_nonneg (by omega)] at this
    rw [this]

theorem gs_same {kind bpp : Int} {l l' above : List Int} {i : Nat} (hl : l.length = l'.length) (h1 : 1 ≤ bpp) (h8 : bpp ≤ 8) (hi : i < 140737488351232) (h : ∀ j : Nat, j < i → rd l j = rd l' j) :
    gs kind bpp l above i = gs kind bpp l' above i := by
  unfold gs
  rw [w64 (n := (i : Int) - bpp) (by omega) (by omega), atv_same hl (i := (i : Int) - bpp) (fun j hj => h j (by omega))]

/-- the loop of Undo -/
theorem undo_l {kind bpp : Int} (h1 : 1 ≤ bpp) (h8 : bpp ≤ 8) (line above : List Int) (hn : line.length ≤ 140737488351232) : ∀ (m e i : Nat) (out : List Int), i + m = line.length → out.length = line.length →
    ∃ r, rows_Undo.l0 (m + e + 2) kind bpp line above out (line.length : Int) (i : Int) = some (r, 0) ∧ r.length = line.length ∧ (∀ j : Nat, j < i → rd r j = rd out j) ∧
      ∀ j : Nat, i ≤ j → j < line.length → rd r j = (rd line j + gs kind bpp r above j % 256) % 256
  | 0, e, i, out, h, ho => by
    refine ⟨out, ?_, ho, fun _ _ => rfl, fun j h1 h2 => by omega⟩
    rw [show 0 + e + 2 = (e + 1) + 1 by omega]
    unfold rows_Undo.l0
    rw [if_neg (by omega)]
  | m + 1, e, i, out, h, ho => by
    obtain ⟨r, e1, e2, e3, e4⟩ := undo_l h1 h8 line above hn m e (i + 1) (out.set i ((rd line i + gs kind bpp out above i % 256) % 256)) (by omega) (by simpa using ho)
    refine ⟨r, ?_, e2, ?_, ?_⟩
    · rw [show m + 1 + e + 2 = (m + e + 2) + 1 by omega]
      unfold rows_Undo.l0
      rw [if_pos (by omega), if_pos (by omega), if_pos (by omega), show m + e + 2 = (m + e + 1) + 1 by omega, guess_f, Option.bind_some, if_pos (by omega), w64 (n := (i : Int) + 1) (by omega) (by omega)]
      exact e1
    · intro j hj
      rw [e3 j (by omega), rd_set (by omega), if_neg (by omega)]
    · intro j hj h2
      by_cases h3 : j = i
      · subst h3
        rw [e3 j (by omega), rd_set (by omega), if_pos rfl, gs_same (l := out) (l' := r) (by omega) h1 h8 (by omega)]
        intro q hq
        rw [e3 q (by omega), rd_set (by omega), if_neg (by omega)]
      · exact e4 j (by omega) h2

theorem right_t {kind bpp : Int} (h0 : 0 ≤ kind) (h4 : kind ≤ 4) (h1 : 1 ≤ bpp) (h8 : bpp ≤ 8) : rows_right.f kind bpp = some true := by
  unfold rows_right.f
  rw [if_pos (by omega), if_pos (by omega), if_pos (by omega), decide_eq_true (by omega)]

theorem do_f {kind bpp : Int} (h0 : 0 ≤ kind) (h4 : kind ≤ 4) (h1 : 1 ≤ bpp) (h8 : bpp ≤ 8) (line above : List Int) (hn : line.length ≤ 140737488351232) {k : Nat} (hk : line.length + 2 ≤ k) :
    ∃ r, rows_Do.f k kind bpp line above = some (r, 0) ∧ r.length = line.length ∧ ∀ j : Nat, j < line.length → rd r j = (rd line j - gs kind bpp line above j % 256) % 256 := by
  obtain ⟨r, e1, e2, _, e4⟩ := do_l kind bpp line above hn line.length (k - line.length - 2) 0 (List.replicate line.length 0) (by omega) (by simp)
  refine ⟨r, ?_, e2, fun j h => e4 j (by omega) h⟩
  unfold rows_Do.f
  rw [right_t h0 h4 h1 h8, Option.bind_some, if_pos rfl, if_pos (by omega), if_pos (by omega), Int.toNat_natCast, ← e1, show line.length + (k - line.length - 2) + 2 = k by omega]; rfl

theorem undo_f {kind bpp : Int} (h0 : 0 ≤ kind) (h4 : kind ≤ 4) (h1 : 1 ≤ bpp) (h8 : bpp ≤ 8) (line above : List Int) (hn : line.length ≤ 140737488351232) {k : Nat} (hk : line.length + 2 ≤ k) :
    ∃ r, rows_Undo.f k kind bpp line above = some (r, 0) ∧ r.length = line.length ∧ ∀ j : Nat, j < line.length → rd r j = (rd line j + gs kind bpp r above j % 256) % 256 := by
  obtain ⟨r, e1, e2, _, e4⟩ := undo_l h1 h8 line above hn line.length (k - line.length - 2) 0 (List.replicate line.length 0) (by omega) (by simp)
  refine ⟨r, ?_, e2, fun j h => e4 j (by omega) h⟩
  unfold rows_Undo.f
  rw [right_t h0 h4 h1 h8, Option.bind_some, if_pos rfl, if_pos (by omega), if_pos (by omega), Int.toNat_natCast, ← e1, show line.length + (k - line.length - 2) + 2 = k by omega]; rfl

theorem list_eq {l l' : List Int} (hl : l.length = l'.length) (h : ∀ j : Nat, j < l'.length → rd l j = rd l' j) : l = l' := by
  refine List.ext_getElem hl fun j h1 h2 => ?_
  have := h j h2
  simpa [rd, List.getD_eq_getElem?_getD, h1, h2] using this

theorem rd_byte {l : List Int} (h : ∀ x ∈ l, (Lit.int .u8 x).wf = true) (j : Nat) : 0 ≤ rd l j ∧ rd l j < 256 := by
  unfold rd
  by_cases hj : j < l.length
  · have := h _ (List.getElem_mem hj)
    simp only [Lit.wf, decide_eq_true_eq, Bool.and_eq_true] at this
    have m1 : IntKind.u8.min = 0 := rfl
    have m2 : IntKind.u8.max = 255 := rfl
    simp only [List.getD_eq_getElem?_getD, Int.toNat_natCast, List.getElem?_eq_getElem hj, Option.getD_some]
    omega
  · simp [List.getD_eq_getElem?_getD, hj]

/-- one round -/
theorem round {kind bpp : Int} (h0 : 0 ≤ kind) (h4 : kind ≤ 4) (h1 : 1 ≤ bpp) (h8 : bpp ≤ 8) (line above : List Int) (hb : ∀ x ∈ line, (Lit.int .u8 x).wf = true) (hn : line.length ≤ 140737488351232) {k : Nat} (hk : line.length + 2 ≤ k) :
    versallaw10_RowsBack.l0 (k + 1) line above bpp kind = versallaw10_RowsBack.l0 k line above bpp (kind + 1) := by
  obtain ⟨d, d1, d2, d3⟩ := do_f h0 h4 h1 h8 line above hn hk
  obtain ⟨u, u1, u2, u3⟩ := undo_f h0 h4 h1 h8 d above (by omega) (k := k) (by omega)
  obtain ⟨v, v1, v2, v3⟩ := undo_f h0 h4 h1 h8 line above hn hk
  obtain ⟨x, x1, x2, x3⟩ := do_f h0 h4 h1 h8 v above (by omega) (k := k) (by omega)
  have hu : u = line := by
    have H : ∀ n j : Nat, j < n → j < line.length → rd u j = rd line j := by
      intro n
      induction n with
      | zero => intro j hj; omega
      | succ n ih =>
        intro j hj hl
        have b := rd_byte hb j
        rw [u3 j (by omega), d3 j hl, gs_same (l := u) (l' := line) (by omega) h1 h8 (by omega) (fun q hq => ih q (by omega) (by omega))]
        omega
    exact list_eq (by omega) (fun j hj => H (j + 1) j (by omega) hj)
  have hx : x = line := by
    refine list_eq (by omega) (fun j hj => ?_)
    have b := rd_byte hb j
    rw [x3 j (by omega), v3 j hj]
    omega
  rw [versallaw10_RowsBack.l0, if_pos (by omega), d1, Option.bind_some, u1, Option.bind_some, v1, Option.bind_some, x1, Option.bind_some, if_pos rfl, if_pos rfl, if_pos rfl, if_pos rfl, hu, hx, if_pos rfl, if_pos rfl, w64 (n := kind + 1) (by omega) (by omega)]

theorem RowsBack : versallaw10_RowsBack.Pure := by
  intro l0 l1 a2 _ hn hb _ _ _ _
  refine ⟨l0.length + 40, ?_⟩
  have q : (0 : Int) < 8 := by omega
  unfold versallaw10_RowsBack.f
  rw [pick_f q (by omega), Option.bind_some]
  obtain ⟨p, e⟩ : ∃ v, v = a2 % 8 := ⟨_, rfl⟩
  rw [← e]
  have hp : 0 ≤ p ∧ p < 8 := by omega
  rw [w64 (n := 1 + p) (by omega) (by omega)]
  have hn' : l0.length ≤ 140737488351232 := by omega
  rw [show l0.length + 40 = l0.length + 39 + 1 by omega, round (by omega) (by omega) (by omega) (by omega) l0 l1 hb hn' (by omega),
    show l0.length + 39 = l0.length + 38 + 1 by omega, round (by omega) (by omega) (by omega) (by omega) l0 l1 hb hn' (by omega),
    show l0.length + 38 = l0.length + 37 + 1 by omega, round (by omega) (by omega) (by omega) (by omega) l0 l1 hb hn' (by omega),
    show l0.length + 37 = l0.length + 36 + 1 by omega, round (by omega) (by omega) (by omega) (by omega) l0 l1 hb hn' (by omega),
    show l0.length + 36 = l0.length + 35 + 1 by omega, round (by omega) (by omega) (by omega) (by omega) l0 l1 hb hn' (by omega),
    show l0.length + 35 = l0.length + 34 + 1 by omega, versallaw10_RowsBack.l0, if_neg (by omega), show l0.length + 34 = 20 + (l0.length + 14) by omega, known_t]
  rfl
end Go.Proofs.Ytkagmelijdfdiaa.Pure
