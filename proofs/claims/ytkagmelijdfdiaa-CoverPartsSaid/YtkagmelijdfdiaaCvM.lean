/- Plain law of moved lines: moved by whole pixels, in another order, they cover the same, moved. -/
import Derived.Test.YtkagmelijdfdiaaCvL
namespace Go.Proofs.Ytkagmelijdfdiaa.CvM
open Go.RowKit Go.Proofs.YtkagmelijdfdiaaW.PrintWords Go.Proofs.YtkagmelijdfdiaaW.PrintLast Go.Proofs.YtkagmelijdfdiaaW.PrintMore Go.Proofs.Ytkagmelijdfdiaa.PCoverTells Go.Proofs.Ytkagmelijdfdiaa.M Go.Proofs.Ytkagmelijdfdiaa.CvL
attribute [local go_sem] max2_int min2_int max_two min_two max_three min_three max_four min_four
set_option linter.unusedVariables false
set_option linter.unusedSimpArgs false

def sh (dx dy : Int) (s : S33) : S33 := ⟨s.f0 + dx * 65536, s.f1 + dy * 65536, s.f2 + dx * 65536, s.f3 + dy * 65536⟩
def small (s : S33) : Prop := (-268435456 ≤ s.f0 ∧ s.f0 ≤ 268435456) ∧ (-268435456 ≤ s.f1 ∧ s.f1 ≤ 268435456) ∧ (-268435456 ≤ s.f2 ∧ s.f2 ≤ 268435456) ∧ (-268435456 ≤ s.f3 ∧ s.f3 ≤ 268435456)
theorem nr_id {n : Int} (h1 : -1073741824 ≤ n) (h2 : n ≤ 1073741824) : nr n = n := by unfold nr mx mn; omega
theorem cr_sh {s : S33} {dx dy x y : Int} (h : small s) (hx : -100 ≤ dx ∧ dx ≤ 100) (hy : -100 ≤ dy ∧ dy ≤ 100) : cr (sh dx dy s) (x + dx * 65536) (y + dy * 65536) = cr s x y := by
  unfold small at h
  unfold cr sh
  dsimp only
  rw [nr_id (n := s.f0 + dx * 65536) (by omega) (by omega), nr_id (n := s.f1 + dy * 65536) (by omega) (by omega), nr_id (n := s.f2 + dx * 65536) (by omega) (by omega), nr_id (n := s.f3 + dy * 65536) (by omega) (by omega),
    nr_id (n := s.f0) (by omega) (by omega), nr_id (n := s.f1) (by omega) (by omega), nr_id (n := s.f2) (by omega) (by omega), nr_id (n := s.f3) (by omega) (by omega),
    show x + dx * 65536 - (s.f0 + dx * 65536) = x - s.f0 by omega, show s.f3 + dy * 65536 - (s.f1 + dy * 65536) = s.f3 - s.f1 by omega, show s.f2 + dx * 65536 - (s.f0 + dx * 65536) = s.f2 - s.f0 by omega, show y + dy * 65536 - (s.f1 + dy * 65536) = y - s.f1 by omega]
  congr 1
  · rw [eq_iff_iff]; constructor <;> (rintro ⟨h1, h2, h3⟩; exact ⟨by omega, by omega, h3⟩)
  · congr 1
    rw [eq_iff_iff]; constructor <;> (rintro ⟨h1, h2, h3⟩; exact ⟨by omega, by omega, h3⟩)
theorem ws_app (x y : Int) (A B : List S33) : ws x y (A ++ B) = ws x y A + ws x y B := by
  induction A with
  | nil => simp [ws]
  | cons s A ih => simp only [List.cons_append, ws, ih]; omega
theorem ws_sh {L : List S33} {dx dy x y : Int} (h : ∀ s ∈ L, small s) (hx : -100 ≤ dx ∧ dx ≤ 100) (hy : -100 ≤ dy ∧ dy ≤ 100) : ws (x + dx * 65536) (y + dy * 65536) (L.map (sh dx dy)) = ws x y L := by
  induction L with
  | nil => rfl
  | cons s L ih =>
    simp only [List.map_cons, ws]
    rw [cr_sh (h s (by simp)) hx hy, ih (fun t ht => h t (by simp [ht]))]
/-- another one first -/
def rot (L : List S33) (j : Nat) : List S33 := L.drop j ++ L.take j
theorem ws_rot (x y : Int) (L : List S33) (j : Nat) : ws x y (rot L j) = ws x y L := by
  have h := ws_app x y (L.take j) (L.drop j)
  rw [List.take_append_drop] at h
  unfold rot
  rw [ws_app, h]
  omega
def mvd (L : List S33) (dx dy : Int) (j : Nat) : List S33 := (rot L j).map (sh dx dy)
theorem mvd_len (L : List S33) (dx dy : Int) (j : Nat) : (mvd L dx dy j).length = L.length := by unfold mvd rot; simp; omega
theorem rot_get {L : List S33} {j i : Nat} (hj : j ≤ L.length) (hi : i < L.length) : (rot L j)[i]? = L[(i + j) % L.length]? := by
  unfold rot
  by_cases h : i + j < L.length
  · rw [List.getElem?_append_left (by simp; omega), List.getElem?_drop, Nat.mod_eq_of_lt h, Nat.add_comm]
  · rw [List.getElem?_append_right (by simp; omega), List.length_drop, List.getElem?_take_of_lt (by omega), Nat.mod_eq_sub_mod (by omega), Nat.mod_eq_of_lt (by omega)]
    congr 1
    omega
theorem mvd_take {L : List S33} {dx dy : Int} {j i : Nat} {s : S33} (hj : j ≤ L.length) (hi : i < L.length) (hs : L[(i + j) % L.length]? = some s) : (mvd L dx dy j).take (i + 1) = (mvd L dx dy j).take i ++ [sh dx dy s] := by
  rw [List.take_add_one]
  congr 1
  unfold mvd
  rw [List.getElem?_map, rot_get hj hi, hs]
  rfl
theorem small_all {L : List S33} {j : Nat} (hj : j ≤ L.length) (h : ∀ i, i < L.length → ∀ s, L[(i + j) % L.length]? = some s → small s) : ∀ s ∈ rot L j, small s := by
  intro s hs
  obtain ⟨i, hi⟩ := List.getElem?_of_mem hs
  have hlt : i < (rot L j).length := (List.getElem?_eq_some_iff.1 hi).1
  have hlen : (rot L j).length = L.length := by unfold rot; simp; omega
  rw [hlen] at hlt
  rw [rot_get hj hlt] at hi
  exact h i hlt s hi
section
variable {L : List S33} {dx dy : Int} {j : Nat} (hs : ∀ s ∈ rot L j, small s) (hx : -100 ≤ dx ∧ dx ≤ 100) (hy : -100 ≤ dy ∧ dy ≤ 100)
include hs hx hy
set_option linter.unusedSectionVars false
theorem ws_mvd (x y : Int) : ws (x + dx * 65536) (y + dy * 65536) (mvd L dx dy j) = ws x y L := by
  unfold mvd; rw [ws_sh hs hx hy, ws_rot]
theorem wind_mvd {x y : Int} (h1 : -1000 ≤ x ∧ x ≤ 1000) (h2 : -1000 ≤ y ∧ y ≤ 1000) : ws (nr ((x + dx) * 65536)) (nr ((y + dy) * 65536)) (mvd L dx dy j) = ws (nr (x * 65536)) (nr (y * 65536)) L := by
  rw [nr_id (n := (x + dx) * 65536) (by omega) (by omega), nr_id (n := (y + dy) * 65536) (by omega) (by omega), nr_id (n := x * 65536) (by omega) (by omega), nr_id (n := y * 65536) (by omega) (by omega), show (x + dx) * 65536 = x * 65536 + dx * 65536 by omega, show (y + dy) * 65536 = y * 65536 + dy * 65536 by omega]
  exact ws_mvd hs hx hy _ _
theorem one_mvd {x y a b : Int} (h1 : -1000 ≤ x ∧ x ≤ 1000) (h2 : -1000 ≤ y ∧ y ≤ 1000) (ha : 0 ≤ a ∧ a ≤ 3) (hb : 0 ≤ b ∧ b ≤ 3) : one (mvd L dx dy j) (x + dx) (y + dy) a b = one L x y a b := by
  unfold one
  rw [nr_id (n := (x + dx) * 65536 + _) (by omega) (by omega), nr_id (n := (y + dy) * 65536 + _) (by omega) (by omega), nr_id (n := x * 65536 + _) (by omega) (by omega), nr_id (n := y * 65536 + _) (by omega) (by omega),
    show (x + dx) * 65536 + (2 * b + 1) * 8192 = x * 65536 + (2 * b + 1) * 8192 + dx * 65536 by omega, show (y + dy) * 65536 + (2 * a + 1) * 8192 = y * 65536 + (2 * a + 1) * 8192 + dy * 65536 by omega, ws_mvd hs hx hy]
theorem all_mvd {x y : Int} (h1 : -1000 ≤ x ∧ x ≤ 1000) (h2 : -1000 ≤ y ∧ y ≤ 1000) : all (mvd L dx dy j) (x + dx) (y + dy) = all L x y := by
  have H := fun a b (ha : 0 ≤ a ∧ a ≤ 3) (hb : 0 ≤ b ∧ b ≤ 3) => one_mvd hs hx hy (x := x) (y := y) (a := a) (b := b) h1 h2 ha hb
  unfold all row
  rw [H 0 0 (by omega) (by omega), H 0 1 (by omega) (by omega), H 0 2 (by omega) (by omega), H 0 3 (by omega) (by omega), H 1 0 (by omega) (by omega), H 1 1 (by omega) (by omega), H 1 2 (by omega) (by omega), H 1 3 (by omega) (by omega),
    H 2 0 (by omega) (by omega), H 2 1 (by omega) (by omega), H 2 2 (by omega) (by omega), H 2 3 (by omega) (by omega), H 3 0 (by omega) (by omega), H 3 1 (by omega) (by omega), H 3 2 (by omega) (by omega), H 3 3 (by omega) (by omega)]
theorem rowL_mvd {x y : Int} (h1 : -500 ≤ x ∧ x ≤ 500) (h2 : -1000 ≤ y ∧ y ≤ 1000) (m : Nat) : ∀ (i : Int) (acc : List Int), 0 ≤ i → i + m ≤ 100 → rowL (mvd L dx dy j) (x + dx) (y + dy) m i acc = rowL L x y m i acc := by
  induction m with
  | zero => intro i acc _ _; rfl
  | succ m ih =>
    intro i acc h3 h4
    have e := all_mvd hs hx hy (x := x + i) (y := y) (by omega) h2
    rw [show x + i + dx = x + dx + i by omega] at e
    show rowL _ _ _ m (i + 1) (acc ++ [CvL.part (all _ (x + dx + i) (y + dy))]) = rowL _ _ _ m (i + 1) (acc ++ [CvL.part (all _ (x + i) y)])
    rw [e, ih _ _ (by omega) (by omega)]
theorem allL_mvd {x y : Int} (h1 : -500 ≤ x ∧ x ≤ 500) (h2 : -500 ≤ y ∧ y ≤ 500) (w : Nat) (hw : w ≤ 90) (m : Nat) : ∀ (i : Int) (acc : List Int), 0 ≤ i → i + m ≤ 100 → allL (mvd L dx dy j) (x + dx) (y + dy) w m i acc = allL L x y w m i acc := by
  induction m with
  | zero => intro i acc _ _; rfl
  | succ m ih =>
    intro i acc h3 h4
    have e := rowL_mvd hs hx hy (x := x) (y := y + i) h1 (by omega) w 0 acc (by omega) (by omega)
    rw [show y + i + dy = y + dy + i by omega] at e
    show allL _ _ _ w m (i + 1) (rowL _ _ (y + dy + i) w 0 acc) = allL _ _ _ w m (i + 1) (rowL _ _ (y + i) w 0 acc)
    rw [e, ih _ _ (by omega) (by omega)]
theorem mask_mvd {x y : Int} (h1 : -300 ≤ x ∧ x ≤ 300) (h2 : -300 ≤ y ∧ y ≤ 300) : mask (mvd L dx dy j) (x + dx) (y + dy) 4 4 = mask L x y 4 4 := by
  have g : ∀ {n : Int}, -16000 ≤ n → n ≤ 16000 → grd n = n := fun a b => by unfold grd mx mn; omega
  have t : tile 4 = 4 := by decide
  unfold mask
  rw [g (n := x + dx) (by omega) (by omega), g (n := y + dy) (by omega) (by omega), g (n := x) (by omega) (by omega), g (n := y) (by omega) (by omega), t]
  exact allL_mvd hs hx hy (by omega) (by omega) 4 (by omega) 4 0 [] (by omega) (by omega)
end
theorem allL_len (L : List S33) (x y : Int) (w : Nat) : ∀ (m : Nat) (i : Int) (acc : List Int), (allL L x y w m i acc).length = acc.length + m * w
  | 0, _, acc => by simp [allL]
  | m + 1, i, acc => by rw [allL, allL_len L x y w m, rowL_len, Nat.succ_mul]; omega
theorem mask_16 (L : List S33) (x y : Int) : (mask L x y 4 4).length = 16 := by
  have t : tile 4 = 4 := by decide
  unfold mask
  rw [allL_len, t]
  rfl

end Go.Proofs.Ytkagmelijdfdiaa.CvM
