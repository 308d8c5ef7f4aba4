/- What the reference's Blend answers, whole. -/
import Derived.Test.YtfddmjjdnpkleaaBlT
import Derived.Test.YtfddmjjdnpkleaaBlTh
import Derived.Test.YtfddmjjdnpkleaaBlK
namespace Go.Proofs.Ytfddmjjdnpkleaa.BlU
open Go.RowKit Go.Proofs.YtfddmjjdnpkleaaW.PrintWords Go.Proofs.YtfddmjjdnpkleaaW.PrintLast Go.Proofs.YtfddmjjdnpkleaaW.PrintMore Go.Proofs.Ytfddmjjdnpkleaa.BlP Go.Proofs.Ytfddmjjdnpkleaa.BlP3 Go.Proofs.Ytfddmjjdnpkleaa.M Go.Proofs.Ytfddmjjdnpkleaa.Blm Go.Proofs.Ytfddmjjdnpkleaa.Reg Go.Proofs.Ytfddmjjdnpkleaa.BlQ Go.Proofs.Ytfddmjjdnpkleaa.BlW Go.Proofs.Ytfddmjjdnpkleaa.BlX Go.Proofs.Ytfddmjjdnpkleaa.BlB Go.Proofs.Ytfddmjjdnpkleaa.BlC Go.Proofs.Ytfddmjjdnpkleaa.BlG Go.Proofs.Ytfddmjjdnpkleaa.BlR Go.Proofs.Ytfddmjjdnpkleaa.BlS Go.Proofs.Ytfddmjjdnpkleaa.BlT Go.Proofs.Ytfddmjjdnpkleaa.BlTh
attribute [local go_sem] max2_mx min2_mn max_two min_two max_three min_three max_four min_four
set_option linter.unusedVariables false
set_option linter.unusedSimpArgs false

instance (p : P4) : Decidable (right p) := by unfold right; infer_instance
theorem rright_g (r g b a : Int) : versalref6_RightPixel.f r g b a = some (decide (right (r, g, b, a))) := by
  by_cases h : right (r, g, b, a)
  · rw [decide_eq_true h]; exact rright_f h
  · rw [decide_eq_false h]
    unfold right at h; dsimp only at h
    unfold versalref6_RightPixel.f
    repeat' split
    all_goals first | rfl | (simp only [Option.some.injEq, decide_eq_false_iff_not]; omega)
theorem refpm_g (r g b a : Int) : versalref12_Premultiplied.f r g b a = some (decide (premul (r, g, b, a))) := by
  by_cases h : premul (r, g, b, a)
  · rw [decide_eq_true h]
    have h' := h
    unfold premul right at h'; dsimp only at h'
    unfold versalref12_Premultiplied.f
    rw [rright_f h.1]
    simp only [Option.bind_some]
    rw [if_pos trivial, if_pos (by omega), if_pos (by omega), decide_eq_true (by omega)]
  · rw [decide_eq_false h]
    unfold versalref12_Premultiplied.f
    rw [rright_g]
    simp only [Option.bind_some]
    by_cases hr : right (r, g, b, a)
    · rw [decide_eq_true hr, if_pos rfl]
      have h2 : ¬ (r ≤ a ∧ g ≤ a ∧ b ≤ a) := fun e => h ⟨hr, e.1, e.2.1, e.2.2⟩
      repeat' split
      all_goals first | rfl | (simp only [Option.some.injEq, decide_eq_false_iff_not]; omega)
    · rw [decide_eq_false hr, if_neg (by decide)]
theorem c17g (p : P4) (w : World) : Ret 17 #[pv p] w (.bool (decide (premul p))) := by first | exact versalref12_Premultiplied.calls _ _ _ _ _ w (refpm_g _ _ _ _) | exact lift (versalref12_Premultiplied.calls _ _ _ _ _ w (refpm_g _ _ _ _))
theorem alpha_e {sa da : Int} (h : 0 ≤ sa ∧ sa ≤ 255) : comp1 sa da 255 (nt sa) = mn 255 (sa + Blm.part da (255 - sa)) := by unfold comp1; rw [part_full h.1 h.2]; rfl
set_option maxHeartbeats 1600000 in
theorem c16ok {m : Int} {s d : P4} (m0 : 0 ≤ m) (m1 : m ≤ 27) (hs : premul s) (hd : premul d) (w : World) : Ret 16 #[.int .i64 m, pv s, pv d] w (.tuple #[pv (blend m s d), .bool true]) := by
  have t1 : decide (m < 0) = false := by simp; omega
  have t2 : decide (27 < m) = false := by simp; omega
  have Kp : ∀ w, Ret 17 #[pv s] w (.bool true) := fun w => by have := c17g s w; rwa [decide_eq_true hs] at this
  have Kq : ∀ w, Ret 17 #[pv d] w (.bool true) := fun w => by have := c17g d w; rwa [decide_eq_true hd] at this
  have rs := hs.1
  have rd := hd.1
  have hs4 := rs.2.2.2
  have hd4 := rd.2.2.2
  by_cases h : m ≤ 12
  · have e : blend m s d = composed s d (factors m s.2.2.2 d.2.2.2).1 (factors m s.2.2.2 d.2.2.2).2 := by unfold blend; rw [if_pos h]
    rw [e]
    exact c16lo m _ _ _ _ _ _ _ _ _ _ _ _ _ _ _ _ _ _ w t1 t2 Kp Kq (by simp; omega) (fun w => c28 m0 h hs4 hd4 w) (fun w => c29 _ _ w) (fun w => c29 _ _ w) (part_bd _ _) (part_bd _ _) (fun w => c29 _ _ w) (fun w => c29 _ _ w) (part_bd _ _) (part_bd _ _) (fun w => c29 _ _ w) (fun w => c29 _ _ w) (part_bd _ _) (part_bd _ _) (fun w => c29 _ _ w) (fun w => c29 _ _ w) (part_bd _ _) (part_bd _ _)
  · have e : blend m s d = (one (mn 255 (s.2.2.2 + Blm.part d.2.2.2 (255 - s.2.2.2))) (Blm.part s.2.2.2 d.2.2.2) s.1 d.1 s.2.2.2 d.2.2.2 (both m (bar s) (bar d)).1, one (mn 255 (s.2.2.2 + Blm.part d.2.2.2 (255 - s.2.2.2))) (Blm.part s.2.2.2 d.2.2.2) s.2.1 d.2.1 s.2.2.2 d.2.2.2 (both m (bar s) (bar d)).2.1, one (mn 255 (s.2.2.2 + Blm.part d.2.2.2 (255 - s.2.2.2))) (Blm.part s.2.2.2 d.2.2.2) s.2.2.1 d.2.2.1 s.2.2.2 d.2.2.2 (both m (bar s) (bar d)).2.2, mn 255 (s.2.2.2 + Blm.part d.2.2.2 (255 - s.2.2.2))) := by unfold blend; rw [if_neg h]; dsimp only; rw [alpha_e hs4]
    rw [e]
    obtain ⟨a1, a2, a3⟩ := barp_bar s
    obtain ⟨b1, b2, b3⟩ := barp_bar d
    have is := bar_in rs
    have id := bar_in rd
    have es := sat_in is
    have ed := sat_in id
    have ls := lum_in is
    have ld := lum_in id
    have hm : m = 24 ∨ m = 25 ∨ m = 26 ∨ m = 27 ∨ m < 24 := by omega
    have Ls : ∀ w, Ret 34 #[t3 (barp s).1 (barp s).2.1 (barp s).2.2.1] w (.int .i64 (lum (bar s))) := fun w => by rw [a1, a2, a3]; unfold in3 at is; exact c34 _ _ _ w (by omega) (by omega) (by omega) (by omega) (by omega) (by omega)
    have Ld : ∀ w, Ret 34 #[t3 (barp d).1 (barp d).2.1 (barp d).2.2.1] w (.int .i64 (lum (bar d))) := fun w => by rw [b1, b2, b3]; unfold in3 at id; exact c34 _ _ _ w (by omega) (by omega) (by omega) (by omega) (by omega) (by omega)
    have Ss : ∀ w, Ret 33 #[t3 (barp s).1 (barp s).2.1 (barp s).2.2.1] w (.int .i64 (sat (bar s))) := fun w => by rw [a1, a2, a3]; exact c33 _ _ _ w is
    have Sd : ∀ w, Ret 33 #[t3 (barp d).1 (barp d).2.1 (barp d).2.2.1] w (.int .i64 (sat (bar d))) := fun w => by rw [b1, b2, b3]; exact c33 _ _ _ w id
    rcases hm with rfl | rfl | rfl | rfl | hm
    · exact c16hi _ _ _ _ _ _ _ _ 24 _ _ _ _ _ _ _ _ _ _ _ _ _ _ _ _ _ _ _ _ _ _ _ _ _ _ _ w (by omega) (by omega) Kp Kq (fun w => c30 rs w) (fun w => c30 rd w) (fun _ => Sd) (fun _ w => by rw [a1, a2, a3]; exact c32 is ed.1 ed.2 w) (fun _ => Ld) (fun _ w => c31g (sated_in is ed.1 ed.2) ld.1 ld.2 w) (fun h => absurd h (by omega)) (fun h => absurd h (by omega)) (fun h => absurd h (by omega)) (fun h => absurd h (by omega)) (fun h => absurd h (by omega)) (fun h => absurd h (by omega)) (fun h => absurd h (by omega)) (fun h => absurd h (by omega)) (fun h => absurd h (by omega)) (fun h => absurd h (by omega)) (fun h => absurd h (by omega)) (fun w => c29 _ _ w) (fun w => c29 _ _ w) (part_bd _ _) hs4 hd4 (fun w => c29 _ _ w) (fun w => c29 _ _ w) (fun w => c29 _ _ w) (part_bd _ _) (part_bd _ _) (part_bd _ _) (fun w => c29 _ _ w) (fun w => c29 _ _ w) (fun w => c29 _ _ w) (part_bd _ _) (part_bd _ _) (part_bd _ _) (fun w => c29 _ _ w) (fun w => c29 _ _ w) (fun w => c29 _ _ w) (part_bd _ _) (part_bd _ _) (part_bd _ _)
    · exact c16hi _ _ _ _ _ _ _ _ 25 _ _ _ _ _ _ _ _ _ _ _ _ _ _ _ _ _ _ _ _ _ _ _ _ _ _ _ w (by omega) (by omega) Kp Kq (fun w => c30 rs w) (fun w => c30 rd w) (fun h => absurd h (by omega)) (fun h => absurd h (by omega)) (fun h => absurd h (by omega)) (fun h => absurd h (by omega)) (fun _ => Ss) (fun _ w => by rw [b1, b2, b3]; exact c32 id es.1 es.2 w) (fun _ => Ld) (fun _ w => c31g (sated_in id es.1 es.2) ld.1 ld.2 w) (fun h => absurd h (by omega)) (fun h => absurd h (by omega)) (fun h => absurd h (by omega)) (fun h => absurd h (by omega)) (fun h => absurd h (by omega)) (fun h => absurd h (by omega)) (fun h => absurd h (by omega)) (fun w => c29 _ _ w) (fun w => c29 _ _ w) (part_bd _ _) hs4 hd4 (fun w => c29 _ _ w) (fun w => c29 _ _ w) (fun w => c29 _ _ w) (part_bd _ _) (part_bd _ _) (part_bd _ _) (fun w => c29 _ _ w) (fun w => c29 _ _ w) (fun w => c29 _ _ w) (part_bd _ _) (part_bd _ _) (part_bd _ _) (fun w => c29 _ _ w) (fun w => c29 _ _ w) (fun w => c29 _ _ w) (part_bd _ _) (part_bd _ _) (part_bd _ _)
    · exact c16hi _ _ _ _ _ _ _ _ 26 _ _ _ _ _ _ _ _ _ _ _ 0 0 0 0 _ _ _ _ _ _ _ _ _ _ _ _ w (by omega) (by omega) Kp Kq (fun w => c30 rs w) (fun w => c30 rd w) (fun h => absurd h (by omega)) (fun h => absurd h (by omega)) (fun h => absurd h (by omega)) (fun h => absurd h (by omega)) (fun h => absurd h (by omega)) (fun h => absurd h (by omega)) (fun h => absurd h (by omega)) (fun h => absurd h (by omega)) (fun _ => Ld) (fun _ w => by rw [a1, a2, a3]; exact c31g is ld.1 ld.2 w) (fun h => absurd h (by omega)) (fun h => absurd h (by omega)) (fun h => absurd h (by omega)) (fun h => absurd h (by omega)) (fun h => absurd h (by omega)) (fun w => c29 _ _ w) (fun w => c29 _ _ w) (part_bd _ _) hs4 hd4 (fun w => c29 _ _ w) (fun w => c29 _ _ w) (fun w => c29 _ _ w) (part_bd _ _) (part_bd _ _) (part_bd _ _) (fun w => c29 _ _ w) (fun w => c29 _ _ w) (fun w => c29 _ _ w) (part_bd _ _) (part_bd _ _) (part_bd _ _) (fun w => c29 _ _ w) (fun w => c29 _ _ w) (fun w => c29 _ _ w) (part_bd _ _) (part_bd _ _) (part_bd _ _)
    · exact c16hi _ _ _ _ _ _ _ _ 27 _ _ _ _ _ _ _ _ _ _ _ 0 0 0 0 _ _ _ _ _ _ _ _ _ _ _ _ w (by omega) (by omega) Kp Kq (fun w => c30 rs w) (fun w => c30 rd w) (fun h => absurd h (by omega)) (fun h => absurd h (by omega)) (fun h => absurd h (by omega)) (fun h => absurd h (by omega)) (fun h => absurd h (by omega)) (fun h => absurd h (by omega)) (fun h => absurd h (by omega)) (fun h => absurd h (by omega)) (fun h => absurd h (by omega)) (fun h => absurd h (by omega)) (fun _ => Ls) (fun _ w => by rw [b1, b2, b3]; exact c31g id ls.1 ls.2 w) (fun h => absurd h (by omega)) (fun h => absurd h (by omega)) (fun h => absurd h (by omega)) (fun w => c29 _ _ w) (fun w => c29 _ _ w) (part_bd _ _) hs4 hd4 (fun w => c29 _ _ w) (fun w => c29 _ _ w) (fun w => c29 _ _ w) (part_bd _ _) (part_bd _ _) (part_bd _ _) (fun w => c29 _ _ w) (fun w => c29 _ _ w) (fun w => c29 _ _ w) (part_bd _ _) (part_bd _ _) (part_bd _ _) (fun w => c29 _ _ w) (fun w => c29 _ _ w) (fun w => c29 _ _ w) (part_bd _ _) (part_bd _ _) (part_bd _ _)
    · have eb : both m (bar s) (bar d) = (mixed m (bar s).1 (bar d).1, mixed m (bar s).2.1 (bar d).2.1, mixed m (bar s).2.2 (bar d).2.2) := by unfold both; rw [if_neg (by omega)]
      rw [eb]
      exact c16hi _ _ _ _ _ _ _ _ m _ _ _ _ _ _ _ _ _ _ _ 0 0 0 0 0 _ _ _ _ _ _ _ _ _ _ _ w (by omega) (by omega) Kp Kq (fun w => c30 rs w) (fun w => c30 rd w) (fun h => absurd h (by omega)) (fun h => absurd h (by omega)) (fun h => absurd h (by omega)) (fun h => absurd h (by omega)) (fun h => absurd h (by omega)) (fun h => absurd h (by omega)) (fun h => absurd h (by omega)) (fun h => absurd h (by omega)) (fun h => absurd h (by omega)) (fun h => absurd h (by omega)) (fun h => absurd h (by omega)) (fun h => absurd h (by omega)) (fun _ w => by rw [a1, b1]; exact c35 is.1 id.1 m w) (fun _ w => by rw [a2, b2]; exact c35 is.2.1 id.2.1 m w) (fun _ w => by rw [a3, b3]; exact c35 is.2.2 id.2.2 m w) (fun w => c29 _ _ w) (fun w => c29 _ _ w) (part_bd _ _) hs4 hd4 (fun w => c29 _ _ w) (fun w => c29 _ _ w) (fun w => c29 _ _ w) (part_bd _ _) (part_bd _ _) (part_bd _ _) (fun w => c29 _ _ w) (fun w => c29 _ _ w) (fun w => c29 _ _ w) (part_bd _ _) (part_bd _ _) (part_bd _ _) (fun w => c29 _ _ w) (fun w => c29 _ _ w) (fun w => c29 _ _ w) (part_bd _ _) (part_bd _ _) (part_bd _ _)
theorem c16no {m : Int} {s d : P4} (h : m < 0 ∨ 28 ≤ m ∨ ¬ premul s ∨ ¬ premul d) (w : World) : Ret 16 #[.int .i64 m, pv s, pv d] w (.tuple #[px 0 0 0 0, .bool false]) := by
  by_cases h1 : m < 0
  · exact c16a m _ _ _ _ _ _ _ _ w (by simpa using h1)
  · by_cases h2 : 28 ≤ m
    · exact c16b m _ _ _ _ _ _ _ _ w (by simpa using h1) (by simp; omega)
    · by_cases h3 : premul s
      · have h4 : ¬ premul d := by
          rcases h with h | h | h | h
          · exact absurd h h1
          · exact absurd h h2
          · exact absurd h3 h
          · exact h
        exact c16d m _ _ _ _ _ _ _ _ w (by simpa using h1) (by simp; omega) (fun w => by have := c17g s w; rwa [decide_eq_true h3] at this) (fun w => by have := c17g d w; rwa [decide_eq_false h4] at this)
      · exact c16c m _ _ _ _ _ _ _ _ w (by simpa using h1) (by simp; omega) (fun w => by have := c17g s w; rwa [decide_eq_false h3] at this)
/-- what both answer, refused or not -/
def told (m : Int) (s d : P4) : P4 := if 0 ≤ m ∧ m ≤ 27 ∧ premul s ∧ premul d then blend m s d else (0, 0, 0, 0)
def taken (m : Int) (s d : P4) : Bool := decide (0 ≤ m ∧ m ≤ 27 ∧ premul s ∧ premul d)
theorem c11g (m : Int) (s d : P4) (w : World) : Ret 11 #[.int .i64 m, pv s, pv d] w (.tuple #[pv (told m s d), .bool (taken m s d)]) := by
  by_cases h : 0 ≤ m ∧ m ≤ 27 ∧ premul s ∧ premul d
  · rw [show told m s d = blend m s d by unfold told; rw [if_pos h], show taken m s d = true from decide_eq_true h]; exact c11ok h.1 h.2.1 h.2.2.1 h.2.2.2 w
  · rw [show told m s d = (0, 0, 0, 0) by unfold told; rw [if_neg h], show taken m s d = false from decide_eq_false h]
    exact c11no (by by_cases a : m < 0 <;> by_cases b : 28 ≤ m <;> by_cases c : premul s <;> by_cases e : premul d <;> first | exact .inl a | exact .inr (.inl b) | exact .inr (.inr (.inl c)) | exact .inr (.inr (.inr e)) | exact absurd ⟨by omega, by omega, c, e⟩ h) w
theorem c16g (m : Int) (s d : P4) (w : World) : Ret 16 #[.int .i64 m, pv s, pv d] w (.tuple #[pv (told m s d), .bool (taken m s d)]) := by
  by_cases h : 0 ≤ m ∧ m ≤ 27 ∧ premul s ∧ premul d
  · rw [show told m s d = blend m s d by unfold told; rw [if_pos h], show taken m s d = true from decide_eq_true h]; exact c16ok h.1 h.2.1 h.2.2.1 h.2.2.2 w
  · rw [show told m s d = (0, 0, 0, 0) by unfold told; rw [if_neg h], show taken m s d = false from decide_eq_false h]
    exact c16no (by by_cases a : m < 0 <;> by_cases b : 28 ≤ m <;> by_cases c : premul s <;> by_cases e : premul d <;> first | exact .inl a | exact .inr (.inl b) | exact .inr (.inr (.inl c)) | exact .inr (.inr (.inr e)) | exact absurd ⟨by omega, by omega, c, e⟩ h) w

end Go.Proofs.Ytfddmjjdnpkleaa.BlU
