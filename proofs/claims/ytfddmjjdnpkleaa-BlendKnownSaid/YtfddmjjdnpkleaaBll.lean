/- What follows of the plain arithmetic of blending: the laws, without any program. No conditions of ours. -/
import Derived.Test.YtfddmjjdnpkleaaBlm
namespace Go.Proofs.Ytfddmjjdnpkleaa.Blm
open Go.RowKit Go.Proofs.YtfddmjjdnpkleaaW.PrintWords Go.Proofs.Ytfddmjjdnpkleaa.M

/-! ### what follows -/
theorem comp1_bd (s d f g : Int) : 0 ≤ comp1 s d f g ∧ comp1 s d f g ≤ 255 := by
  have h1 := part_bd s f
  have h2 := part_bd d g
  unfold comp1 mn; omega
theorem comp1_mono {s d s' d' : Int} (f g : Int) (h1 : s ≤ s') (h2 : d ≤ d') : comp1 s d f g ≤ comp1 s' d' f g := by
  have h3 := part_mono (c := f) h1
  have h4 := part_mono (c := g) h2
  unfold comp1 mn; omega
theorem one_bd {al : Int} (h : 0 ≤ al) (pt s d sa da m : Int) : 0 ≤ one al pt s d sa da m ∧ one al pt s d sa da m ≤ al := by
  have h1 := part_bd s (nt da)
  have h2 := part_bd d (nt sa)
  have h3 := part_bd pt m
  unfold one mn; omega
theorem blend_keeps {m : Int} {s d : P4} (hs : premul s) (hd : premul d) : premul (blend m s d) := by
  unfold premul at hs hd
  unfold blend
  split
  · unfold premul right composed
    dsimp only
    have b1 := comp1_bd s.1 d.1 (factors m s.2.2.2 d.2.2.2).1 (factors m s.2.2.2 d.2.2.2).2
    have b2 := comp1_bd s.2.1 d.2.1 (factors m s.2.2.2 d.2.2.2).1 (factors m s.2.2.2 d.2.2.2).2
    have b3 := comp1_bd s.2.2.1 d.2.2.1 (factors m s.2.2.2 d.2.2.2).1 (factors m s.2.2.2 d.2.2.2).2
    have b4 := comp1_bd s.2.2.2 d.2.2.2 (factors m s.2.2.2 d.2.2.2).1 (factors m s.2.2.2 d.2.2.2).2
    exact ⟨⟨b1, b2, b3, b4⟩, comp1_mono _ _ hs.2.1 hd.2.1, comp1_mono _ _ hs.2.2.1 hd.2.2.1, comp1_mono _ _ hs.2.2.2 hd.2.2.2⟩
  · unfold premul right
    dsimp only
    have b4 := comp1_bd s.2.2.2 d.2.2.2 255 (nt s.2.2.2)
    have o1 := fun m => one_bd b4.1 (part s.2.2.2 d.2.2.2) s.1 d.1 s.2.2.2 d.2.2.2 m
    have o2 := fun m => one_bd b4.1 (part s.2.2.2 d.2.2.2) s.2.1 d.2.1 s.2.2.2 d.2.2.2 m
    have o3 := fun m => one_bd b4.1 (part s.2.2.2 d.2.2.2) s.2.2.1 d.2.2.1 s.2.2.2 d.2.2.2 m
    exact ⟨⟨⟨(o1 _).1, Int.le_trans (o1 _).2 b4.2⟩, ⟨(o2 _).1, Int.le_trans (o2 _).2 b4.2⟩, ⟨(o3 _).1, Int.le_trans (o3 _).2 b4.2⟩, b4⟩, (o1 _).2, (o2 _).2, (o3 _).2⟩

theorem composed_turn (s d : P4) (f g : Int) : composed s d f g = composed d s g f := by
  unfold composed comp1
  simp only [Int.add_comm]
theorem turned {a b : Int} {s d : P4} (h : (a = 1 ∧ b = 2) ∨ (a = 3 ∧ b = 4) ∨ (a = 5 ∧ b = 6) ∨ (a = 7 ∧ b = 8) ∨ (a = 9 ∧ b = 10) ∨ (a = 11 ∧ b = 11)) : blend a s d = blend b d s := by
  rcases h with ⟨rfl, rfl⟩ | ⟨rfl, rfl⟩ | ⟨rfl, rfl⟩ | ⟨rfl, rfl⟩ | ⟨rfl, rfl⟩ | ⟨rfl, rfl⟩
  all_goals (unfold blend; rw [if_pos (by omega), if_pos (by omega)]; rw [composed_turn d s]; simp [factors])
theorem nt_nil : nt 0 = 255 := rfl
theorem nt_full : nt 255 = 0 := rfl
theorem mn_of_le {a b : Int} (h : b ≤ a) : mn a b = b := by unfold mn; split <;> omega
theorem mn_le {a b : Int} (h : a ≤ b) : mn a b = a := by unfold mn; split <;> omega
theorem upon_nothing {m : Int} {p : P4} (hm : 13 ≤ m) (hp : premul p) : blend m p (0, 0, 0, 0) = p := by
  obtain ⟨r, g, b, a⟩ := p
  unfold premul right at hp
  dsimp only at hp
  unfold blend
  rw [if_neg (by omega)]
  dsimp only
  unfold comp1 one
  simp only [part_nil, part_nil', nt_nil]
  rw [part_full (a := a) (by omega) (by omega), part_full (a := r) (by omega) (by omega), part_full (a := g) (by omega) (by omega), part_full (a := b) (by omega) (by omega)]
  simp only [Int.add_zero]
  rw [mn_of_le (a := 255) (b := a) (by omega), mn_of_le (b := r) (by omega), mn_of_le (b := g) (by omega), mn_of_le (b := b) (by omega)]
theorem of_nothing {m : Int} {p : P4} (hm : 13 ≤ m) (hp : premul p) : blend m (0, 0, 0, 0) p = p := by
  obtain ⟨r, g, b, a⟩ := p
  unfold premul right at hp
  dsimp only at hp
  unfold blend
  rw [if_neg (by omega)]
  dsimp only
  unfold comp1 one
  simp only [part_nil', nt_nil]
  rw [part_full (a := a) (by omega) (by omega), part_full (a := r) (by omega) (by omega), part_full (a := g) (by omega) (by omega), part_full (a := b) (by omega) (by omega)]
  simp only [Int.add_zero, Int.zero_add]
  rw [mn_of_le (a := 255) (b := a) (by omega), mn_of_le (b := r) (by omega), mn_of_le (b := g) (by omega), mn_of_le (b := b) (by omega)]
theorem part_nt {s d : Int} (s0 : 0 ≤ s) (s1 : s ≤ 255) (d0 : 0 ≤ d) (d1 : d ≤ 255) : s + part d (nt s) = d + part s (nt d) := by
  unfold part nt
  rw [br_id s0 s1, br_id d0 d1, br_id (n := 255 - s) (by omega) (by omega), br_id (n := 255 - d) (by omega) (by omega)]
  have e1 : d * (255 - s) = 255 * d - s * d := by rw [Int.mul_sub, Int.mul_comm d 255, Int.mul_comm d s]
  have e2 : s * (255 - d) = 255 * s - s * d := by rw [Int.mul_sub, Int.mul_comm s 255]
  rw [e1, e2]
  generalize s * d = p
  omega
theorem alpha_turn {s d : Int} (s0 : 0 ≤ s) (s1 : s ≤ 255) (d0 : 0 ≤ d) (d1 : d ≤ 255) : comp1 s d 255 (nt s) = comp1 d s 255 (nt d) := by
  unfold comp1
  rw [part_full s0 s1, part_full d0 d1, part_nt s0 s1 d0 d1]
theorem one_turn (al pt s d sa da m : Int) : one al pt s d sa da m = one al pt d s da sa m := by
  unfold one; rw [Int.add_comm (part s (nt da))]
theorem mn_comm (a b : Int) : mn a b = mn b a := by unfold mn; split <;> split <;> omega
theorem mx_comm (a b : Int) : mx a b = mx b a := by unfold mx; split <;> split <;> omega
theorem mixed_turn {a b : Int} (h : (a = 13 ∧ b = 13) ∨ (a = 15 ∧ b = 15) ∨ (a = 16 ∧ b = 16) ∨ (a = 21 ∧ b = 21) ∨ (a = 22 ∧ b = 22) ∨ (a = 23 ∧ b = 23) ∨ (a = 14 ∧ b = 19)) (x y : Int) : mixed a x y = mixed b y x := by
  rcases h with ⟨rfl, rfl⟩ | ⟨rfl, rfl⟩ | ⟨rfl, rfl⟩ | ⟨rfl, rfl⟩ | ⟨rfl, rfl⟩ | ⟨rfl, rfl⟩ | ⟨rfl, rfl⟩
  · simp [mixed, screened, part_comm]
  · simp [mixed, mn_comm]
  · simp [mixed, mx_comm]
  · simp [mixed, mn_comm x y, mx_comm x y]
  · simp [mixed, part_comm x y, Int.add_comm x y]
  · simp [mixed, part_comm x y]
  · simp [mixed]
theorem both_turn {a b : Int} (h : (a = 13 ∧ b = 13) ∨ (a = 15 ∧ b = 15) ∨ (a = 16 ∧ b = 16) ∨ (a = 21 ∧ b = 21) ∨ (a = 22 ∧ b = 22) ∨ (a = 23 ∧ b = 23) ∨ (a = 14 ∧ b = 19)) (x y : T3) : both a x y = both b y x := by
  unfold both
  rw [if_neg (by omega), if_neg (by omega), mixed_turn h, mixed_turn h, mixed_turn h]
theorem blend_turn {a b : Int} {s d : P4} (h : (a = 12 ∧ b = 12) ∨ (a = 13 ∧ b = 13) ∨ (a = 15 ∧ b = 15) ∨ (a = 16 ∧ b = 16) ∨ (a = 21 ∧ b = 21) ∨ (a = 22 ∧ b = 22) ∨ (a = 23 ∧ b = 23) ∨ (a = 14 ∧ b = 19)) (hs : right s) (hd : right d) : blend a s d = blend b d s := by
  rcases h with ⟨rfl, rfl⟩ | h
  · unfold blend; rw [if_pos (by omega), if_pos (by omega)]; rw [composed_turn d s]; simp [factors]
  · unfold right at hs hd
    unfold blend
    rw [if_neg (by omega), if_neg (by omega)]
    dsimp only
    rw [both_turn h, alpha_turn hs.2.2.2.1 hs.2.2.2.2 hd.2.2.2.1 hd.2.2.2.2, part_comm s.2.2.2 d.2.2.2, one_turn _ _ s.1, one_turn _ _ s.2.1, one_turn _ _ s.2.2.1]
theorem whole_alpha {m : Int} {s d : P4} (hm : m = 3 ∨ m = 4 ∨ m = 9 ∨ m = 10 ∨ 12 < m) (hs : s.2.2.2 = 255) (hd : d.2.2.2 = 255) : (blend m s d).2.2.2 = 255 := by
  unfold blend
  rcases hm with rfl | rfl | rfl | rfl | hm
  case inr.inr.inr.inr => rw [if_neg (by omega)]; dsimp only; rw [hs, hd]; decide
  all_goals (rw [if_pos (by omega), hs, hd]; show comp1 s.2.2.2 d.2.2.2 _ _ = 255; rw [hs, hd]; decide)
theorem bare_full {n : Int} (h0 : 0 ≤ n) (h1 : n ≤ 255) : bare n 255 = n := by unfold bare mn; split <;> omega
theorem lit_same {x : T3} (h : in3 x) : lit x (lum x) = x := by
  obtain ⟨a, b, c⟩ := x
  unfold in3 at h
  dsimp only at h
  unfold lit
  have e : up (a, b, c) (lum (a, b, c) - lum (a, b, c)) = (a, b, c) := by unfold up; simp
  rw [e]
  have h1 : ¬ (lo3 (a, b, c) < 0 ∧ lum (a, b, c) ≠ lo3 (a, b, c)) := by unfold lo3 mn; dsimp only; omega
  have h2 : ¬ (255 < hi3 (a, b, c) ∧ hi3 (a, b, c) ≠ lum (a, b, c)) := by unfold hi3 mx; dsimp only; omega
  unfold lit1
  simp only [if_neg h1, if_neg h2]
  rw [br_id (n := a) (by omega) (by omega), br_id (n := b) (by omega) (by omega), br_id (n := c) (by omega) (by omega)]
theorem upon_itself {m : Int} {p : P4} (hm : m = 15 ∨ m = 16 ∨ m = 26 ∨ m = 27) (hp : right p) (ha : p.2.2.2 = 255) : blend m p p = p := by
  obtain ⟨r, g, b, a⟩ := p
  unfold right at hp
  dsimp only at hp ha
  subst ha
  have eb : bar (r, g, b, 255) = (r, g, b) := by
    unfold bar; rw [if_neg (by simp)]; dsimp only
    rw [bare_full (n := r) (by omega) (by omega), bare_full (n := g) (by omega) (by omega), bare_full (n := b) (by omega) (by omega)]
  have h3 : in3 (r, g, b) := by unfold in3; dsimp only; omega
  have mm : ∀ x : Int, mn x x = x := fun x => by unfold mn; split <;> rfl
  have mM : ∀ x : Int, mx x x = x := fun x => by unfold mx; split <;> rfl
  have e2 : both m (r, g, b) (r, g, b) = (r, g, b) := by
    unfold both
    rcases hm with rfl | rfl | rfl | rfl
    · simp [mixed, mm]
    · simp [mixed, mM]
    · simp [whole, lit_same h3]
    · simp [whole, lit_same h3]
  unfold blend
  rw [if_neg (by omega)]
  dsimp only
  rw [eb, e2]
  dsimp only
  have e3 : comp1 255 255 255 (nt 255) = 255 := by decide
  have e4 : part 255 255 = 255 := by decide
  unfold one
  rw [e3, e4, nt_full, part_nil, part_nil, part_nil, part_comm 255 r, part_comm 255 g, part_comm 255 b, part_full (a := r) (by omega) (by omega), part_full (a := g) (by omega) (by omega), part_full (a := b) (by omega) (by omega)]
  simp only [Int.zero_add]
  rw [mn_of_le (b := r) (by omega), mn_of_le (b := g) (by omega), mn_of_le (b := b) (by omega)]
end Go.Proofs.Ytfddmjjdnpkleaa.Blm
