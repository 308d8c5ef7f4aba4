/- What blend.Blend answers, in plain arithmetic; and the contracts of what the statements of chapter 13 call besides. -/
import Derived.Test.YtfddmjjdnpkleaaBlX
import Derived.Test.YtfddmjjdnpkleaaBlB
import Derived.Test.YtfddmjjdnpkleaaBlC
import Derived.Test.YtfddmjjdnpkleaaWEqStruct
namespace Go.Proofs.Ytfddmjjdnpkleaa.BlG
open Go.RowKit Go.Proofs.YtfddmjjdnpkleaaW.PrintWords Go.Proofs.YtfddmjjdnpkleaaW.PrintLast Go.Proofs.YtfddmjjdnpkleaaW.PrintMore Go.Proofs.Ytfddmjjdnpkleaa.BlP Go.Proofs.Ytfddmjjdnpkleaa.M Go.Proofs.Ytfddmjjdnpkleaa.Blm Go.Proofs.Ytfddmjjdnpkleaa.Reg Go.Proofs.Ytfddmjjdnpkleaa.BlQ Go.Proofs.Ytfddmjjdnpkleaa.BlW Go.Proofs.Ytfddmjjdnpkleaa.BlX Go.Proofs.Ytfddmjjdnpkleaa.BlB Go.Proofs.Ytfddmjjdnpkleaa.BlC
attribute [local go_sem] max2_mx min2_mn max_two min_two max_three min_three max_four min_four
set_option linter.unusedVariables false
set_option linter.unusedSimpArgs false

theorem pick_f {n m : Int} (h1 : 0 < m) (h2 : m ≤ 9223372036854775807) : versalhand_Pick.f n m = some (n % m) := by
  have ha := Int.lt_tmod_of_pos n h1
  have hb := Int.tmod_lt_of_pos n h1
  rw [← tmod_pick h1]
  unfold versalhand_Pick.f
  rw [if_neg (by omega)]
  by_cases h : n.tmod m < 0
  · rw [if_pos h, if_pos h, w64 (by omega) (by omega)]
  · rw [if_neg h, if_neg h]

theorem part_f (a b : Int) : pixel_Part.f a b = some (Blm.part a b) := by
  have h := br_mul a b
  have e : ∀ n, pixel_brought.f n = some (br n) := fun n => rfl
  unfold pixel_Part.f Blm.part
  simp only [e, Option.bind_some]
  rw [w64 (n := br a * br b) (by omega) (by omega), w64 (n := br a * br b + 127) (by omega) (by omega), Int.tdiv_eq_ediv_of_nonneg (by omega), w64 (by omega) (by omega)]
theorem c24 (a b : Int) (w : World) : Ret 24 #[.int .i64 a, .int .i64 b] w (.int .i64 (Blm.part a b)) := by first | exact pixel_Part.calls a b _ w (part_f a b) | exact lift (pixel_Part.calls a b _ w (part_f a b))
theorem not_f {a : Int} (h0 : -100000 ≤ a) (h1 : a ≤ 100000) : blend_not.f a = some (nt a) := by
  unfold blend_not.f nt; rw [w64 (by omega) (by omega)]
theorem c25 {a : Int} (h0 : 0 ≤ a) (h1 : a ≤ 255) (w : World) : Ret 25 #[.int .i64 a] w (.int .i64 (nt a)) := by first | exact blend_not.calls a _ w (not_f (by omega) (by omega)) | exact lift (blend_not.calls a _ w (not_f (by omega) (by omega)))
theorem right_f {r g b a : Int} (h : right (r, g, b, a)) : pixel_Right.f r g b a = some true := by
  unfold right at h
  dsimp only at h
  unfold pixel_Right.f
  rw [if_pos (by unfold mn; omega), decide_eq_true (by unfold mx; omega)]
theorem right_no {r g b a : Int} (h : ¬ right (r, g, b, a)) : pixel_Right.f r g b a = some false := by
  unfold right at h
  dsimp only at h
  unfold pixel_Right.f
  split
  · rename_i h1
    rw [decide_eq_false (by intro h2; apply h; unfold mn at h1; unfold mx at h2; omega)]
  · rfl
theorem premul_f (r g b a : Int) : pixel_Premultiplied.f r g b a = some (decide (premul (r, g, b, a))) := by
  unfold pixel_Premultiplied.f
  by_cases h : right (r, g, b, a)
  · rw [right_f h]
    simp only [Option.bind_some, if_true]
    congr 1
    rw [decide_eq_decide]
    unfold premul
    constructor
    · intro h2; unfold mx at h2; dsimp only; exact ⟨h, by omega, by omega, by omega⟩
    · intro h2; unfold mx; dsimp only at h2; omega
  · rw [right_no h]
    simp only [Option.bind_some]
    rw [if_neg (by simp), decide_eq_false (fun x => h x.1)]
abbrev pv (p : P4) : Value := px p.1 p.2.1 p.2.2.1 p.2.2.2
theorem c18 (p : P4) (w : World) : Ret 18 #[pv p] w (.bool (decide (premul p))) := by first | exact pixel_Premultiplied.calls _ _ _ _ _ w (premul_f _ _ _ _) | exact lift (pixel_Premultiplied.calls _ _ _ _ _ w (premul_f _ _ _ _))
theorem taken_f {r g b a : Int} (h : right (r, g, b, a)) : pixel_taken.f r g b a = some (r, g, b, a) := by
  unfold pixel_taken.f; rw [right_f h]; rfl
theorem c40 {p : P4} (h : right p) (w : World) : Ret 40 #[pv p] w (pv p) := by first | exact pixel_taken.calls _ _ _ _ _ _ _ _ w (taken_f h) | exact lift (pixel_taken.calls _ _ _ _ _ _ _ _ w (taken_f h))
theorem scale_f {r g b a : Int} (h : right (r, g, b, a)) (n : Int) : pixel_Scale.f r g b a n = some (Blm.part r n, Blm.part g n, Blm.part b n, Blm.part a n) := by
  unfold pixel_Scale.f; rw [taken_f h]; simp only [part_f, Option.bind_some]
theorem c27 {p : P4} (h : right p) (n : Int) (w : World) : Ret 27 #[pv p, .int .i64 n] w (px (Blm.part p.1 n) (Blm.part p.2.1 n) (Blm.part p.2.2.1 n) (Blm.part p.2.2.2 n)) := by first | exact pixel_Scale.calls _ _ _ _ _ _ _ _ _ w (scale_f h n) | exact lift (pixel_Scale.calls _ _ _ _ _ _ _ _ _ w (scale_f h n))
theorem c20 {s d : P4} (hs : right s) (hd : right d) (f g : Int) (w : World) : Ret 20 #[pv s, pv d, .int .i64 f, .int .i64 g] w (pv (composed s d f g)) :=
  c20w _ _ _ _ _ _ _ _ f g _ _ _ _ _ _ _ _ w (fun w => c27 hs f w) (fun w => c27 hd g w) (part_bd _ _) (part_bd _ _) (part_bd _ _) (part_bd _ _) (part_bd _ _) (part_bd _ _) (part_bd _ _) (part_bd _ _)
theorem c19 {s d : P4} (hs : right s) (hd : right d) {m : Int} (m0 : 0 ≤ m) (m1 : m ≤ 12) (w : World) : Ret 19 #[.int .i64 m, pv s, pv d] w (.tuple #[.int .i64 (factors m s.2.2.2 d.2.2.2).1, .int .i64 (factors m s.2.2.2 d.2.2.2).2]) :=
  c19w m _ _ _ _ _ _ _ _ w (fun w => c25 hs.2.2.2.1 hs.2.2.2.2 w) (fun w => c25 hd.2.2.2.1 hd.2.2.2.2 w) m0 m1
theorem screened_f {c b : Int} (c0 : -1000 ≤ c) (c1 : c ≤ 1000) (b0 : -1000 ≤ b) (b1 : b ≤ 1000) : blend_screened.f c b = some (screened c b) := by
  unfold blend_screened.f screened
  rw [not_f (a := c) (by omega) (by omega), not_f (a := b) (by omega) (by omega)]
  have h := part_bd (nt c) (nt b)
  simp only [Option.bind_some, part_f]
  rw [not_f (by omega) (by omega)]; rfl
theorem hard_f {c b : Int} (c0 : 0 ≤ c) (c1 : c ≤ 255) (b0 : 0 ≤ b) (b1 : b ≤ 255) : blend_hard.f c b = some (hard c b) := by
  unfold blend_hard.f hard
  rw [w64 (n := 2 * c) (by omega) (by omega), w64 (n := 2 * c - 255) (by omega) (by omega), screened_f (c := 2 * c - 255) (by omega) (by omega) (by omega) (by omega)]
  simp only [part_f, Option.bind_some]
  split <;> rfl
theorem dodged_f {c b : Int} (c0 : 0 ≤ c) (c1 : c ≤ 255) (b0 : 0 ≤ b) (b1 : b ≤ 255) : blend_dodged.f c b = some (dodged c b) := by
  unfold blend_dodged.f dodged
  split
  · rfl
  · split
    · rfl
    · rw [w64 (n := 255 - c) (by omega) (by omega), if_neg (by omega), w64 (n := b * 255) (by omega) (by omega), Int.tdiv_eq_ediv_of_nonneg (by omega)]
      have h := ediv_bd (n := b * 255) (d := 255 - c) (by omega)
      rw [w64 (by omega) (by omega)]
theorem burnt_f {c b : Int} (c0 : 0 ≤ c) (c1 : c ≤ 255) (b0 : 0 ≤ b) (b1 : b ≤ 255) : blend_burnt.f c b = some (burnt c b) := by
  unfold blend_burnt.f burnt
  split
  · rfl
  · split
    · rfl
    · rw [w64 (n := 255 - b) (by omega) (by omega), w64 (n := (255 - b) * 255) (by omega) (by omega), Int.tdiv_eq_ediv_of_nonneg (by omega)]
      have h := ediv_bd (n := (255 - b) * 255) (d := c) (by omega)
      have h2 := Int.ediv_nonneg (a := (255 - b) * 255) (b := c) (by omega) (by omega)
      rw [w64 (n := (255 - b) * 255 / c) (by omega) (by omega)]
      have h3 : 0 ≤ mn 255 ((255 - b) * 255 / c) ∧ mn 255 ((255 - b) * 255 / c) ≤ 255 := by unfold mn; omega
      rw [w64 (by omega) (by omega)]
theorem mixed_f {c b : Int} (c0 : 0 ≤ c) (c1 : c ≤ 255) (b0 : 0 ≤ b) (b1 : b ≤ 255) (m : Int) : blend_mixed.f m c b = some (mixed m c b) := by
  have h1 := part_bd c b
  have h2 := part_bd (nt c) (Blm.part b b)
  have h3 := part_bd c (screened b b)
  have h4 : 0 ≤ mx c b ∧ mx c b ≤ 255 ∧ 0 ≤ mn c b ∧ mn c b ≤ 255 := by unfold mx mn; omega
  unfold blend_mixed.f mixed
  rw [screened_f (c := c) (b := b) (by omega) (by omega) (by omega) (by omega), hard_f (c := b) (b := c) b0 b1 c0 c1, hard_f (c := c) (b := b) c0 c1 b0 b1, dodged_f c0 c1 b0 b1, burnt_f c0 c1 b0 b1, not_f (a := c) (by omega) (by omega), screened_f (c := b) (b := b) (by omega) (by omega) (by omega) (by omega)]
  simp only [Option.bind_some, part_f]
  rw [w64 (n := Blm.part (nt c) (Blm.part b b) + Blm.part c (screened b b)) (by omega) (by omega), w64 (n := mx c b - mn c b) (by omega) (by omega), w64 (n := c + b) (by omega) (by omega), w64 (n := 2 * Blm.part c b) (by omega) (by omega), w64 (n := c + b - 2 * Blm.part c b) (by omega) (by omega)]
  repeat' split
  all_goals first | rfl | (exfalso; omega)
theorem c39 {c b : Int} (c0 : 0 ≤ c ∧ c ≤ 255) (b0 : 0 ≤ b ∧ b ≤ 255) (m : Int) (w : World) : Ret 39 #[.int .i64 m, .int .i64 c, .int .i64 b] w (.int .i64 (mixed m c b)) := by first | exact blend_mixed.calls _ _ _ _ w (mixed_f c0.1 c0.2 b0.1 b0.2 m) | exact lift (blend_mixed.calls _ _ _ _ w (mixed_f c0.1 c0.2 b0.1 b0.2 m))
theorem c21g {m : Int} {c b : T3} (h1 : m ≤ 27) (hc : in3 c) (hb : in3 b) (w : World) : Ret 21 #[.int .i64 m, tv c, tv b] w (tv (both m c b)) := by
  by_cases h : 24 ≤ m
  · have e : both m c b = whole m c b := by unfold both; rw [if_pos h]
    rw [e]
    exact c21hi m _ _ _ _ _ _ _ _ _ w (by simpa using h) (fun w => c38g h h1 hc hb w)
  · have e : both m c b = (mixed m c.1 b.1, mixed m c.2.1 b.2.1, mixed m c.2.2 b.2.2) := by unfold both; rw [if_neg h]
    rw [e]
    exact c21lo m _ _ _ _ _ _ _ _ _ w (by simpa using h) (fun w => c39 hc.1 hb.1 m w) (fun w => c39 hc.2.1 hb.2.1 m w) (fun w => c39 hc.2.2 hb.2.2 m w)
/-- the bare pixel -/
def barp (p : P4) : P4 := if p.2.2.2 = 0 then (0, 0, 0, 0) else (bare p.1 p.2.2.2, bare p.2.1 p.2.2.2, bare p.2.2.1 p.2.2.2, p.2.2.2)
theorem c23g {p : P4} (h : right p) (w : World) : Ret 23 #[pv p] w (pv (barp p)) := by
  obtain ⟨r, g, b, a⟩ := p
  have h' := h
  unfold right at h'
  by_cases h0 : a = 0
  · subst h0
    exact c23z r g b 0 r g b w (fun w => c40 h w)
  · have e : barp (r, g, b, a) = (bare r a, bare g a, bare b a, a) := by unfold barp; rw [if_neg h0]
    rw [e]
    exact c23n r g b a r g b a w (fun w => c40 h w) h'.1 h'.2.1 h'.2.2.1 (by dsimp only at h'; omega) (by simpa using h0)
theorem barp_bar (p : P4) : (barp p).1 = (bar p).1 ∧ (barp p).2.1 = (bar p).2.1 ∧ (barp p).2.2.1 = (bar p).2.2 := by
  unfold barp bar; split <;> exact ⟨rfl, rfl, rfl⟩
theorem c11ok {m : Int} {s d : P4} (m0 : 0 ≤ m) (m1 : m ≤ 27) (hs : premul s) (hd : premul d) (w : World) : Ret 11 #[.int .i64 m, pv s, pv d] w (.tuple #[pv (blend m s d), .bool true]) := by
  have t1 : decide (m < 0) = false := by simp; omega
  have t2 : decide (28 ≤ m) = false := by simp; omega
  have Kp : ∀ w, Ret 18 #[pv s] w (.bool true) := fun w => by have := c18 s w; rwa [decide_eq_true hs] at this
  have Kq : ∀ w, Ret 18 #[pv d] w (.bool true) := fun w => by have := c18 d w; rwa [decide_eq_true hd] at this
  have rs := hs.1
  have rd := hd.1
  by_cases h : m ≤ 12
  · have e : blend m s d = composed s d (factors m s.2.2.2 d.2.2.2).1 (factors m s.2.2.2 d.2.2.2).2 := by unfold blend; rw [if_pos h]
    rw [e]
    exact c11lo m _ _ _ _ _ _ _ _ _ _ _ _ _ _ w t1 t2 Kp Kq (by simpa using h) (fun w => c19 rs rd m0 h w) (fun w => c20 rs rd _ _ w)
  · have e : blend m s d = (one (comp1 s.2.2.2 d.2.2.2 255 (nt s.2.2.2)) (Blm.part s.2.2.2 d.2.2.2) s.1 d.1 s.2.2.2 d.2.2.2 (both m (bar s) (bar d)).1, one (comp1 s.2.2.2 d.2.2.2 255 (nt s.2.2.2)) (Blm.part s.2.2.2 d.2.2.2) s.2.1 d.2.1 s.2.2.2 d.2.2.2 (both m (bar s) (bar d)).2.1, one (comp1 s.2.2.2 d.2.2.2 255 (nt s.2.2.2)) (Blm.part s.2.2.2 d.2.2.2) s.2.2.1 d.2.2.1 s.2.2.2 d.2.2.2 (both m (bar s) (bar d)).2.2, comp1 s.2.2.2 d.2.2.2 255 (nt s.2.2.2)) := by unfold blend; rw [if_neg h]
    rw [e]
    have Kb : ∀ w, Ret 21 #[.int .i64 m, t3 (barp s).1 (barp s).2.1 (barp s).2.2.1, t3 (barp d).1 (barp d).2.1 (barp d).2.2.1] w (tv (both m (bar s) (bar d))) := fun w => by
      obtain ⟨a1, a2, a3⟩ := barp_bar s
      obtain ⟨b1, b2, b3⟩ := barp_bar d
      rw [a1, a2, a3, b1, b2, b3]
      exact c21g m1 (bar_in rs) (bar_in rd) w
    have hs4 := rs.2.2.2
    have hd4 := rd.2.2.2
    exact c11hi m _ _ _ _ _ _ _ _ _ _ _ _ _ _ _ _ _ _ _ _ _ _ _ _ _ _ _ _ _ _ _ _ _ _ _ _ _ w t1 t2 Kp Kq (by simpa using h) (fun w => c23g rs w) (fun w => c23g rd w) Kb (fun w => c24 _ _ w) (fun w => c25 hs4.1 hs4.2 w) (fun w => c25 hd4.1 hd4.2 w)
      (fun w => c20 rs rd 255 _ w) (fun w => c27 rs _ w) (fun w => c27 rd _ w) (fun w => c24 _ _ w) (part_bd _ _) (part_bd _ _) (part_bd _ _) (fun w => c24 _ _ w) (part_bd _ _) (part_bd _ _) (part_bd _ _) (fun w => c24 _ _ w) (part_bd _ _) (part_bd _ _) (part_bd _ _)
theorem c11no {m : Int} {s d : P4} (h : m < 0 ∨ 28 ≤ m ∨ ¬ premul s ∨ ¬ premul d) (w : World) : Ret 11 #[.int .i64 m, pv s, pv d] w (.tuple #[px 0 0 0 0, .bool false]) := by
  by_cases h1 : m < 0
  · exact c11a m _ _ _ _ _ _ _ _ w (by simpa using h1)
  · by_cases h2 : 28 ≤ m
    · exact c11b m _ _ _ _ _ _ _ _ w (by simpa using h1) (by simpa using h2)
    · by_cases h3 : premul s
      · have h4 : ¬ premul d := by
          rcases h with h | h | h | h
          · exact absurd h h1
          · exact absurd h h2
          · exact absurd h3 h
          · exact h
        exact c11d m _ _ _ _ _ _ _ _ w (by simpa using h1) (by simpa using h2) (fun w => by have := c18 s w; rwa [decide_eq_true h3] at this) (fun w => by have := c18 d w; rwa [decide_eq_false h4] at this)
      · exact c11c m _ _ _ _ _ _ _ _ w (by simpa using h1) (by simpa using h2) (fun w => by have := c18 s w; rwa [decide_eq_false h3] at this)
theorem c15 (n m : Int) (w : World) (h1 : 0 < m) (h2 : m ≤ 9223372036854775807) : Ret 15 #[.int .i64 n, .int .i64 m] w (.int .i64 (n % m)) := by first | exact versalhand_Pick.calls n m _ w (pick_f h1 h2) | exact lift (versalhand_Pick.calls n m _ w (pick_f h1 h2))
theorem eqA23 (d : Nat) (w : World) (x0 y0 : Int) (x1 y1 : Int) (x2 y2 : Int) (x3 y3 : Int) :
    (Op.equalIn (d + 2) 23 (.agg #[.int .i64 x0, .int .i64 x1, .int .i64 x2, .int .i64 x3]) (.agg #[.int .i64 y0, .int .i64 y1, .int .i64 y2, .int .i64 y3])).run Try.prog w = .ok (x0 == y0 && (x1 == y1 && (x2 == y2 && (x3 == y3)))) w := by
  refine eqA_of Try.underlying23 (by kernel_rfl) ?_
  refine eqf_cons (by rfl) (by go_simp; rfl) (by go_simp; rfl) (by go_simp) ?_
  refine eqf_cons (by rfl) (by go_simp; rfl) (by go_simp; rfl) (by go_simp) ?_
  refine eqf_cons (by rfl) (by go_simp; rfl) (by go_simp; rfl) (by go_simp) ?_
  exact eqf_last (by rfl) (by go_simp; rfl) (by go_simp; rfl) (by go_simp)

end Go.Proofs.Ytfddmjjdnpkleaa.BlG
