/- Plain law of masks' parts, and of lines that go there and back. -/
import Derived.Test.YtkagmelijdfdiaaLnW
import Derived.Test.YtkagmelijdfdiaaCvL
import Derived.Test.YtkagmelijdfdiaaCvM
namespace Go.Proofs.Ytkagmelijdfdiaa.CvN
open Go.RowKit Go.Proofs.YtkagmelijdfdiaaW.PrintWords Go.Proofs.YtkagmelijdfdiaaW.PrintLast Go.Proofs.YtkagmelijdfdiaaW.PrintMore Go.Proofs.Ytkagmelijdfdiaa.PCoverTells Go.Proofs.Ytkagmelijdfdiaa.M Go.Proofs.Ytkagmelijdfdiaa.Rwd Go.Proofs.Ytkagmelijdfdiaa.LnW Go.Proofs.Ytkagmelijdfdiaa.CvL Go.Proofs.Ytkagmelijdfdiaa.CvM
attribute [local go_sem] max2_int min2_int max_two min_two max_three min_three max_four min_four
set_option linter.unusedVariables false
set_option linter.unusedSimpArgs false

section
variable {L : List S33} {px py : Int} (hL : L.length ≤ 50) (hpx : -30000 ≤ px ∧ px ≤ 30000) (hpy : -30000 ≤ py ∧ py ≤ 30000)
include hL hpx hpy
set_option linter.unusedSectionVars false
theorem cov_s5 (k : Nat) {n j i : Int} (hn : 0 ≤ n ∧ n ≤ 100) (hj : 0 ≤ j ∧ j ≤ 3) (hi : 0 ≤ i ∧ i ≤ 3) :
    cover_covered.l1 (k + 61) L px py n j j i = cover_covered.l1 (k + 60) L px py (n + one L px py j i) j j (i + 1) := by
  rw [cover_covered.l1, if_pos (by omega), place_e hpx hi, place_e hpy hj, show k + 60 = (k + 58 - L.length) + L.length + 2 by omega, winding_f (by omega), Option.bind_some]
  unfold one
  split
  · rw [w64 (n := i + 1) (by omega) (by omega), Int.add_zero]
  · rw [w64 (n := i + 1) (by omega) (by omega), w64 (n := n + 1) (by omega) (by omega)]
theorem cov_r5 (k : Nat) {n j : Int} (hn : 0 ≤ n ∧ n ≤ 90) (hj : 0 ≤ j ∧ j ≤ 3) :
    cover_covered.l0 (k + 66) L px py n j = cover_covered.l0 (k + 60) L px py (n + row L px py j) (j + 1) := by
  have h0 := one_b L px py j 0
  have h1 := one_b L px py j 1
  have h2 := one_b L px py j 2
  have h3 := one_b L px py j 3
  have g1 := one_b L px py j (0 + 1)
  have g2 := one_b L px py j (0 + 1 + 1)
  rw [cover_covered.l0, if_pos (by omega)]
  rw [cov_s5 hL hpx hpy (k + 4) (n := n) (i := 0) (by omega) hj (by omega)]
  rw [cov_s5 hL hpx hpy (k + 3) (i := 0 + 1) (by omega) hj (by omega)]
  rw [cov_s5 hL hpx hpy (k + 2) (i := 0 + 1 + 1) (by omega) hj (by omega)]
  rw [cov_s5 hL hpx hpy (k + 1) (i := 0 + 1 + 1 + 1) (by omega) hj (by omega)]
  rw [cover_covered.l1, if_neg (by omega), w64 (n := j + 1) (by omega) (by omega)]
  unfold row
  rw [show n + one L px py j 0 + one L px py j (0 + 1) + one L px py j (0 + 1 + 1) + one L px py j (0 + 1 + 1 + 1) = n + (one L px py j 0 + one L px py j 1 + one L px py j 2 + one L px py j 3) by
    rw [show (0 : Int) + 1 = 1 by rfl, show (1 : Int) + 1 = 2 by rfl, show (2 : Int) + 1 = 3 by rfl]; omega]
theorem cov_f5 (k : Nat) : cover_covered.f (k + 90) L px py = some (CvL.part (all L px py)) := by
  have h0 := row_b L px py 0
  have h1 := row_b L px py 1
  have h2 := row_b L px py 2
  have h3 := row_b L px py 3
  unfold cover_covered.f
  rw [cov_r5 hL hpx hpy (k + 24) (n := 0) (j := 0) (by omega) (by omega)]
  rw [cov_r5 hL hpx hpy (k + 18) (j := 0 + 1) (by omega) (by omega)]
  rw [cov_r5 hL hpx hpy (k + 12) (j := 0 + 1 + 1) (by rw [show (0 : Int) + 1 = 1 by rfl]; omega) (by omega)]
  rw [cov_r5 hL hpx hpy (k + 6) (j := 0 + 1 + 1 + 1) (by rw [show (0 : Int) + 1 = 1 by rfl, show (1 : Int) + 1 = 2 by rfl]; omega) (by omega)]
  rw [show (0 : Int) + row L px py 0 + row L px py (0 + 1) + row L px py (0 + 1 + 1) + row L px py (0 + 1 + 1 + 1) = all L px py by
    unfold all; rw [show (0 : Int) + 1 = 1 by rfl, show (1 : Int) + 1 = 2 by rfl, show (2 : Int) + 1 = 3 by rfl]; omega]
  have hA := all_b L px py
  generalize all L px py = A at *
  rw [cover_covered.l0, if_neg (by omega), w64 (n := A * 255) (by omega) (by omega), w64 (n := A * 255 + 8) (by omega) (by omega), Int.tdiv_eq_ediv_of_nonneg (by omega), w64 (n := (A * 255 + 8) / 16) (by omega) (by omega)]
  unfold CvL.part
  congr 1
  omega
end
section
variable {L : List S33} {x y : Int} (hL : L.length ≤ 50) (hx : -20000 ≤ x ∧ x ≤ 20000) (hy : -20000 ≤ y ∧ y ≤ 20000)
include hL hx hy
set_option linter.unusedSectionVars false
theorem mask_l15 (k : Nat) {w h j : Int} (hw : w ≤ 64) (hj : 0 ≤ j ∧ j ≤ 64) (m : Nat) : ∀ (i : Int) (acc : List Int), 0 ≤ i → i + m = w → acc.length + m ≤ 10000 →
    cover_Mask.l1 (k + m + 91) L x y w acc j h j w i = cover_Mask.l0 (k + 90) L x y w (rowL L x (y + j) m i acc) h (j + 1) := by
  induction m with
  | zero =>
    intro i acc h0 h1 h2
    rw [cover_Mask.l1, if_neg (by omega), w64 (n := j + 1) (by omega) (by omega)]; rfl
  | succ m ih =>
    intro i acc h0 h1 h2
    rw [show k + (m + 1) + 91 = (k + m + 91) + 1 by omega, cover_Mask.l1, if_pos (by omega), w64 (n := x + i) (by omega) (by omega), w64 (n := y + j) (by omega) (by omega), show k + m + 91 = (k + m + 1) + 90 by omega, cov_f5 hL (by omega) (by omega), Option.bind_some, if_pos (by omega), w64 (n := i + 1) (by omega) (by omega), show k + m + 1 + 90 = k + m + 91 by omega,
      ih (i + 1) _ (by omega) (by omega) (by simp; omega)]
    rfl
theorem mask_l05 {w : Nat} {h : Int} (hw : w ≤ 64) (hh : h ≤ 64) (n : Nat) : ∀ (k : Nat) (j : Int) (acc : List Int), 0 ≤ j → j + n = h → acc.length + n * 64 ≤ 9000 →
    cover_Mask.l0 (k + n * 66 + 91) L x y w acc h j = some (allL L x y w n j acc) := by
  induction n with
  | zero =>
    intro k j acc h0 h1 h2
    rw [cover_Mask.l0, if_neg (by omega)]; rfl
  | succ n ih =>
    intro k j acc h0 h1 h2
    have hl := rowL_len L x (y + j) w 0 acc
    rw [show k + (n + 1) * 66 + 91 = ((k + n * 66 + 65 - w) + w + 91) + 1 by omega, cover_Mask.l0, if_pos (by omega), mask_l15 hL hx hy _ (by omega) (by omega) w 0 acc (by omega) (by omega) (by omega), show k + n * 66 + 65 - w + 90 = (k + 64 - w) + n * 66 + 91 by omega, ih _ (j + 1) _ (by omega) (by omega) (by omega)]
    rfl
end
theorem mask_f5 {L : List S33} (hL : L.length ≤ 50) (a b c d : Int) : cover_Mask.f 4400 L a b c d = some (mask L a b c d) := by
  have ha := grd_bd a
  have hb := grd_bd b
  have hc := tile_e c
  have hd := tile_e d
  unfold cover_Mask.f
  rw [ground_f, ground_f, Option.bind_some, Option.bind_some, hc.1, hd.1, show 4400 = (4309 - tile d * 66) + tile d * 66 + 91 by omega]
  exact mask_l05 hL (by omega) (by omega) hc.2 (by omega) (tile d) _ 0 [] (by omega) (by omega) (by simp; omega)

/-! ### parts -/
theorem rowL_acc (L : List S33) (x y : Int) : ∀ (m : Nat) (i : Int) (acc : List Int), rowL L x y m i acc = acc ++ rowL L x y m i []
  | 0, i, acc => by simp [rowL]
  | m + 1, i, acc => by rw [rowL, rowL_acc L x y m (i + 1) (acc ++ _), rowL, rowL_acc L x y m (i + 1) ([] ++ _)]; simp
theorem allL_acc (L : List S33) (x y : Int) (w : Nat) : ∀ (m : Nat) (j : Int) (acc : List Int), allL L x y w m j acc = acc ++ allL L x y w m j []
  | 0, j, acc => by simp [allL]
  | m + 1, j, acc => by rw [allL, allL_acc L x y w m (j + 1) (rowL L x (y + j) w 0 acc), allL, allL_acc L x y w m (j + 1) (rowL L x (y + j) w 0 []), rowL_acc L x (y + j) w 0 acc]; simp
theorem allL_succ (L : List S33) (x y : Int) (w m : Nat) (j : Int) : allL L x y w (m + 1) j [] = rowL L x (y + j) w 0 [] ++ allL L x y w m (j + 1) [] := by
  rw [allL, allL_acc]
theorem allL_add (L : List S33) (x y : Int) (w n : Nat) : ∀ (m : Nat) (j : Int), allL L x y w (m + n) j [] = allL L x y w m j [] ++ allL L x y w n (j + m) []
  | 0, j => by simp [allL]
  | m + 1, j => by
    rw [show m + 1 + n = (m + n) + 1 by omega, allL_succ, allL_succ, allL_add L x y w n m (j + 1), List.append_assoc, show j + 1 + (m : Int) = j + ((m + 1 : Nat) : Int) by omega]
theorem allL_down (L : List S33) (x y k : Int) (w : Nat) : ∀ (m : Nat) (j : Int), allL L x (y + k) w m j [] = allL L x y w m (k + j) []
  | 0, j => rfl
  | m + 1, j => by
    rw [allL_succ, allL_succ, allL_down L x y k w m (j + 1), show y + k + j = y + (k + j) by omega, show k + (j + 1) = k + j + 1 by omega]
theorem rowL_succ (L : List S33) (x y : Int) (m : Nat) (i : Int) : rowL L x y (m + 1) i [] = CvL.part (all L (x + i) y) :: rowL L x y m (i + 1) [] := by
  rw [rowL, rowL_acc]; rfl
theorem rowL_add (L : List S33) (x y : Int) (n : Nat) : ∀ (m : Nat) (i : Int), rowL L x y (m + n) i [] = rowL L x y m i [] ++ rowL L x y n (i + m) []
  | 0, i => by simp [rowL]
  | m + 1, i => by
    rw [show m + 1 + n = (m + n) + 1 by omega, rowL_succ, rowL_succ, rowL_add L x y n m (i + 1), List.cons_append, show i + 1 + (m : Int) = i + ((m + 1 : Nat) : Int) by omega]
theorem rowL_right (L : List S33) (x y c : Int) : ∀ (m : Nat) (i : Int), rowL L (x + c) y m i [] = rowL L x y m (c + i) []
  | 0, i => rfl
  | m + 1, i => by
    rw [rowL_succ, rowL_succ, rowL_right L x y c m (i + 1), show x + c + i = x + (c + i) by omega, show c + (i + 1) = c + i + 1 by omega]
theorem allL_chunk (L : List S33) (x y : Int) (w : Nat) : ∀ (m k : Nat) (j : Int), k < m → ((allL L x y w m j []).drop (k * w)).take w = rowL L x (y + (j + k)) w 0 []
  | 0, k, j, h => by omega
  | m + 1, 0, j, h => by
    have hl := rowL_len L x (y + j) w 0 []
    rw [allL_succ, Nat.zero_mul, List.drop_zero, List.take_left' (by simpa using hl)]
    simp
  | m + 1, k + 1, j, h => by
    have hl := rowL_len L x (y + j) w 0 []
    rw [allL_succ, Nat.succ_mul, Nat.add_comm (k * w) w, ← List.drop_drop, List.drop_left' (by simpa using hl), allL_chunk L x y w m k (j + 1) (by omega), show j + 1 + (k : Int) = j + ((k + 1 : Nat) : Int) by omega]
theorem grd_id {n : Int} (h1 : -16000 ≤ n) (h2 : n ≤ 16000) : grd n = n := by unfold grd mx mn; omega
theorem tile_id {n : Nat} (h : n ≤ 64) : tile (n : Int) = n := by unfold tile mx mn; omega
theorem mask_is {L : List S33} {x y : Int} {w h : Nat} (hx : -1000 ≤ x ∧ x ≤ 1000) (hy : -1000 ≤ y ∧ y ≤ 1000) (hw : w ≤ 64) (hh : h ≤ 64) : mask L x y w h = allL L x y w h 0 [] := by
  unfold mask
  rw [grd_id (by omega) (by omega), grd_id (by omega) (by omega), tile_id hw, tile_id hh]
theorem mask_len {L : List S33} {x y : Int} {w h : Nat} (hx : -1000 ≤ x ∧ x ≤ 1000) (hy : -1000 ≤ y ∧ y ≤ 1000) (hw : w ≤ 64) (hh : h ≤ 64) : (mask L x y w h).length = h * w := by
  rw [mask_is hx hy hw hh, allL_len]; simp
theorem mask_rows {L : List S33} {x y : Int} {w h k : Nat} (hx : -100 ≤ x ∧ x ≤ 100) (hy : -100 ≤ y ∧ y ≤ 100) (hw : w ≤ 64) (hh : h ≤ 64) (hk : k ≤ h) : mask L x y w k ++ mask L x (y + k) w ((h - k : Nat) : Int) = mask L x y w h := by
  rw [mask_is (by omega) (by omega) hw (by omega), mask_is (by omega) (by omega) hw (by omega), mask_is (by omega) (by omega) hw hh, allL_down, show (k : Int) + 0 = 0 + (k : Int) by omega, ← allL_add, show k + (h - k) = h by omega]
theorem mask_row {L : List S33} {x y : Int} {w h c j : Nat} (hx : -100 ≤ x ∧ x ≤ 100) (hy : -100 ≤ y ∧ y ≤ 100) (hw : w ≤ 64) (hh : h ≤ 64) (hc : c ≤ w) (hj : j < h) :
    ((mask L x y c h).drop (j * c)).take c ++ ((mask L (x + c) y ((w - c : Nat) : Int) h).drop (j * (w - c))).take (w - c) = ((mask L x y w h).drop (j * w)).take w := by
  rw [mask_is (by omega) (by omega) (by omega) hh, mask_is (by omega) (by omega) (by omega) hh, mask_is (by omega) (by omega) hw hh, allL_chunk _ _ _ _ _ _ _ hj, allL_chunk _ _ _ _ _ _ _ hj, allL_chunk _ _ _ _ _ _ _ hj, rowL_right, show (c : Int) + 0 = 0 + (c : Int) by omega, ← rowL_add, show c + (w - c) = w by omega]
/-! ### there and back -/
def rev (s : S33) : S33 := ⟨s.f2, s.f3, s.f0, s.f1⟩
theorem cr_rev (s : S33) (x y : Int) : cr (rev s) x y = -cr s x y := by
  unfold cr rev
  dsimp only
  generalize nr s.f0 = a
  generalize nr s.f1 = b
  generalize nr s.f2 = c
  generalize nr s.f3 = d
  have e : (a - c) * (y - d) - (x - c) * (b - d) = -((c - a) * (y - b) - (x - a) * (d - b)) := by grind
  generalize (a - c) * (y - d) = P at *
  generalize (x - c) * (b - d) = Q at *
  generalize (c - a) * (y - b) = R at *
  generalize (x - a) * (d - b) = T at *
  repeat' split
  all_goals omega
theorem ws_back (x y : Int) (L : List S33) : ws x y (L ++ L.map rev) = 0 := by
  rw [ws_app]
  have h : ws x y (L.map rev) = -ws x y L := by
    induction L with
    | nil => rfl
    | cons s L ih => simp only [List.map_cons, ws, cr_rev, ih]; omega
  omega
theorem all_back (L : List S33) (px py : Int) : all (L ++ L.map rev) px py = 0 := by
  unfold all row one
  simp [ws_back]
theorem mask_back (L : List S33) (a b c d : Int) : ∀ n ∈ mask (L ++ L.map rev) a b c d, n = 0 := by
  have hp : CvL.part 0 = 0 := by decide
  have hr : ∀ (x y : Int) (m : Nat) (i : Int), ∀ n ∈ rowL (L ++ L.map rev) x y m i [], n = 0 := by
    intro x y m
    induction m with
    | zero => intro i n hn; simp [rowL] at hn
    | succ m ih =>
      intro i n hn
      rw [rowL_succ, all_back, hp] at hn
      rcases List.mem_cons.1 hn with h | h
      · exact h
      · exact ih _ n h
  have hal : ∀ (x y : Int) (w m : Nat) (j : Int), ∀ n ∈ allL (L ++ L.map rev) x y w m j [], n = 0 := by
    intro x y w m
    induction m with
    | zero => intro j n hn; simp [allL] at hn
    | succ m ih =>
      intro j n hn
      rw [allL_succ] at hn
      rcases List.mem_append.1 hn with h | h
      · exact hr _ _ _ _ n h
      · exact ih _ n h
  exact hal _ _ _ _ _

end Go.Proofs.Ytkagmelijdfdiaa.CvN
