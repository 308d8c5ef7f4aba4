/- What radial.T answers: one contract. -/
import Derived.Test.YtaohkdieigbccaaRadQ
import Derived.Deep.RegionWith
import Derived.StillTailTactics
import Derived.Deep.DeepCutAuto
import Derived.Deep.CutBlock
import Derived.Deep.QuietTactic
import Derived.BigQuiet
namespace Go.Proofs.Ytaohkdieigbccaa.RadT
open Go.RowKit Go.Proofs.YtaohkdieigbccaaW.PrintWords Go.Proofs.YtaohkdieigbccaaW.PrintLast Go.Proofs.YtaohkdieigbccaaW.PrintMore Go.Proofs.Ytaohkdieigbccaa.PRadialTells Go.Proofs.Ytaohkdieigbccaa.M Go.Proofs.Ytaohkdieigbccaa.RadQ
attribute [local go_sem] max2_int min2_int max_two min_two max_three min_three max_four min_four
set_option linter.unusedVariables false
set_option linter.unusedSimpArgs false

theorem n46 (n lo v : Int) (w : World) (h : Aside0 (near n lo = v)) : Calls Try.prog 46 #[.int .i64 n, .int .i64 lo] w fun e w' => e = .returned (.int .i64 v) ∧ w' = w := (q46 n lo w).mono fun _ _ ⟨a, b⟩ => ⟨by rw [a, h.out], b.symm⟩
theorem m46 (n lo v : Int) (w : World) (h : Aside0 (near n lo = v)) : Calls Try.prog 46 #[.int .i64 n, .int .i64 lo] w fun e w' => e = .returned (.int .i64 v) ∧ w = w' := (q46 n lo w).mono fun _ _ ⟨a, b⟩ => ⟨by rw [a, h.out], b⟩
/-- what is told of a place between two circles, of the three numbers, the first circle's size and how it grows -/
def rad (A B C R D : Int) : Int × Bool :=
  if A = 0 then (if B = 0 then (0, false) else if 0 ≤ R * 65536 + ratio C (2 * B) * D then (ratio C (2 * B), true) else (0, false))
  else if B * B - A * C < 0 then (0, false)
  else if 0 ≤ R * 65536 + mx (ratio (B + root (B * B - A * C)) A) (ratio (B - root (B * B - A * C)) A) * D then (mx (ratio (B + root (B * B - A * C)) A) (ratio (B - root (B * B - A * C)) A), true)
  else if 0 ≤ R * 65536 + mn (ratio (B + root (B * B - A * C)) A) (ratio (B - root (B * B - A * C)) A) * D then (mn (ratio (B + root (B * B - A * C)) A) (ratio (B - root (B * B - A * C)) A), true)
  else (0, false)
theorem ratio_bd (n d : Int) : -2147483647 ≤ ratio n d ∧ ratio n d ≤ 2147483647 := by
  unfold ratio
  split
  · omega
  · exact clip_bd _
theorem rad_eq {A B C R D RT S T : Int} (hA : ¬ A = 0) (hq : ¬ B * B - A * C < 0) (hRT : root (B * B - A * C) = RT) (hS : ratio (B + RT) A = S) (hT : ratio (B - RT) A = T) :
    rad A B C R D = if 0 ≤ R * 65536 + mx S T * D then (mx S T, true) else if 0 ≤ R * 65536 + mn S T * D then (mn S T, true) else (0, false) := by
  unfold rad; rw [if_neg hA, if_neg hq, hRT, hS, hT]
set_option maxHeartbeats 8000000 in
set_option maxRecDepth 100000 in
theorem core (x0 y0 r0 x1 y1 r1 x y X0 Y0 R0 X1 Y1 R1 X Y DX DY DR EX EY S1 S2 S3 S4 A S5 S6 S7 S8 B S9 S10 S11 S12 C : Int) (w : World)
    (h0 : Aside0 (near x0 (-8191) = X0)) (h1 : Aside0 (near y0 (-8191) = Y0)) (h2 : Aside0 (near r0 0 = R0)) (h3 : Aside0 (near x1 (-8191) = X1)) (h4 : Aside0 (near y1 (-8191) = Y1)) (h5 : Aside0 (near r1 0 = R1)) (h6 : Aside0 (near x (-8191) = X)) (h7 : Aside0 (near y (-8191) = Y))
    (e1 : Aside0 (IntKind.i64.wrap (X1 - X0) = DX)) (e2 : Aside0 (IntKind.i64.wrap (Y1 - Y0) = DY)) (e3 : Aside0 (IntKind.i64.wrap (R1 - R0) = DR))
    (e4 : Aside0 (X - X0 = EX)) (e5 : Aside0 (Y - Y0 = EY)) (b0 : -8191 ≤ X0 ∧ X0 ≤ 8191) (b1 : -8191 ≤ Y0 ∧ Y0 ≤ 8191) (b6 : -8191 ≤ X ∧ X ≤ 8191) (b7 : -8191 ≤ Y ∧ Y ≤ 8191) (b2 : 0 ≤ R0 ∧ R0 ≤ 8191) (b8 : -8191 ≤ DR ∧ DR ≤ 8191)
    (bB : -805208064 ≤ B ∧ B ≤ 805208064) (bBB : 0 ≤ B * B ∧ B * B ≤ 700000000000000000) (bAC : -700000000000000000 ≤ A * C ∧ A * C ≤ 700000000000000000)
    (q0 : Aside0 (IntKind.i64.wrap (DX * DX) = S1)) (q1 : Aside0 (IntKind.i64.wrap (DY * DY) = S2)) (q2 : Aside0 (IntKind.i64.wrap (S1 + S2) = S3)) (q3 : Aside0 (IntKind.i64.wrap (DR * DR) = S4)) (q4 : Aside0 (IntKind.i64.wrap (S3 - S4) = A)) (q5 : Aside0 (IntKind.i64.wrap (EX * DX) = S5)) (q6 : Aside0 (IntKind.i64.wrap (EY * DY) = S6)) (q7 : Aside0 (IntKind.i64.wrap (S5 + S6) = S7)) (q8 : Aside0 (IntKind.i64.wrap (R0 * DR) = S8)) (q9 : Aside0 (IntKind.i64.wrap (S7 + S8) = B)) (q10 : Aside0 (IntKind.i64.wrap (EX * EX) = S9)) (q11 : Aside0 (IntKind.i64.wrap (EY * EY) = S10)) (q12 : Aside0 (IntKind.i64.wrap (S9 + S10) = S11)) (q13 : Aside0 (IntKind.i64.wrap (R0 * R0) = S12)) (q14 : Aside0 (IntKind.i64.wrap (S11 - S12) = C)) :
    Calls Try.prog 30 #[.int .i64 x0, .int .i64 y0, .int .i64 r0, .int .i64 x1, .int .i64 y1, .int .i64 r1, .int .i64 x, .int .i64 y] w fun e w' => e = .returned (.tuple #[.int .i64 (rad A B C R0 DR).1, .bool (rad A B C R0 DR).2]) ∧ Below w.heap.size w w' := by
  have HB := Aside0.mk (Below.refl w.heap.size w)
  go_enter Try.func30, Try.ntmps30
  go_wp2_with fail
  refine wp_region_still_tail 6 (by kernel_rfl) (by kernel_rfl) ?_
  simp only [List.take_succ_cons, List.take_zero, List.drop_succ_cons, List.drop_zero]
  change wpStill _ _ (w.alloc (.cells #[.int .i64 r0] 3)).drew _ _ _
  still_step
  still_call (n46 _ _ _ _ h0)
  still_step
  still_call (n46 _ _ _ _ h1)
  still_step
  still_call (n46 _ _ _ _ h2)
  refine wpStill_nil ?_
  change wpList _ _ _ _ _ (World.drew (w.alloc (.cells #[.int .i64 r0] 3)))
  go_upto_region 2 with fail
  go_cut [18, 19, 20] (fun a b c wx => a = .int .i64 DX ∧ b = .int .i64 DY ∧ c = .pointer (some ⟨w.heap.size + 1, 0, none⟩) ∧ wx = (((w.alloc (.cells #[.int .i64 R0] 3)).alloc (.cells #[.int .i64 DR] 3)).drew).drew)
  case first =>
    have E1 := e1.out
    have E2 := e2.out
    have E3 := e3.out
    go_region_with (first | (go_at_call 46; (with_reducible refine (m46 x1 _ _ _ h3).mono ?_); rintro e w1 ⟨rfl, rfl⟩) | (go_at_call 46; (with_reducible refine (m46 y1 _ _ _ h4).mono ?_); rintro e w1 ⟨rfl, rfl⟩) | (go_at_call 46; (with_reducible refine (m46 r1 _ _ _ h5).mono ?_); rintro e w1 ⟨rfl, rfl⟩))
    all_goals (go_wp2_with fail; go_meet; exact ⟨rfl, rfl, rfl, rfl⟩)
  case rest =>
    obtain ⟨rfl, rfl, rfl, rfl⟩ := hcut
    have E4 := e4.out
    have E5 := e5.out
    go_wp2_with (first | (go_at_call 46; (with_reducible refine (m46 x _ _ _ h6).mono ?_); rintro e w1 ⟨rfl, rfl⟩) | (go_at_call 46; (with_reducible refine (m46 y _ _ _ h7).mono ?_); rintro e w1 ⟨rfl, rfl⟩))
    clear E4 E5
    have Q0 := q0.out
    have Q1 := q1.out
    have Q2 := q2.out
    have Q3 := q3.out
    have Q4 := q4.out
    have Q5 := q5.out
    have Q6 := q6.out
    have Q7 := q7.out
    have Q8 := q8.out
    have Q9 := q9.out
    have Q10 := q10.out
    have Q11 := q11.out
    have Q12 := q12.out
    have Q13 := q13.out
    have Q14 := q14.out
    go_quiet (fail)
    clear Q0 Q1 Q2 Q3 Q4 Q5 Q6 Q7 Q8 Q9 Q10 Q11 Q12 Q13 Q14
    by_cases hA : A = 0
    · have hAb : (A == 0) = true := beq_iff_eq.mpr hA
      obtain ⟨T, hT⟩ : ∃ T, ratio C (2 * B) = T := ⟨_, rfl⟩
      have tT : -2147483647 ≤ T ∧ T ≤ 2147483647 := by rw [← hT]; exact ratio_bd _ _
      have pT : -17590038552577 ≤ T * DR ∧ T * DR ≤ 17590038552577 := by have := mul_bd (a := T) (b := DR) (A := 2147483647) (B := 8191) tT.1 tT.2 b8.1 b8.2; omega
      have K37 : ∀ w, Calls Try.prog 37 #[.int .i64 C, .int .i64 (2 * B)] w fun e w' => e = .returned (.int .i64 T) ∧ Drawn0 w w' := fun w => hT ▸ d37 C (2 * B) w
      by_cases hB : B = 0
      · have hBb : (B == 0) = true := beq_iff_eq.mpr hB
        have hr : Aside0 (rad A B C R0 DR = (0, false)) := ⟨by unfold rad; rw [if_pos hA, if_pos hB]⟩
        clear hA hB hT
        go_wp2_with (first | (go_at_call 37; (with_reducible refine (K37 _).mono ?_); rintro e w1 ⟨rfl, ⟨nd, rfl⟩⟩))
        go_ret2
        exact ⟨by rw [hr.out]; first | done | rfl, (by repeat (first | (with_reducible first | exact HB.out | apply below_alloc | apply pw_below_drewN | apply below_drew1 | (refine below_set ?_ (by omega))) | exact HB.out))⟩
      · have hBb : (B == 0) = false := beq_eq_false_iff_ne.mpr hB
        by_cases hg : 0 ≤ R0 * 65536 + T * DR
        · have hr : Aside0 (rad A B C R0 DR = (T, true)) := ⟨by unfold rad; rw [if_pos hA, if_neg hB, hT, if_pos hg]⟩
          have gT : decide (0 ≤ R0 * 65536 + T * DR) = true := decide_eq_true hg
          clear hA hB hT hg
          go_wp2_with (first | (go_at_call 37; (with_reducible refine (K37 _).mono ?_); rintro e w1 ⟨rfl, ⟨nd, rfl⟩⟩) | (go_at_call 47; (with_reducible refine (q47 T R0 DR _ _ _ _ _ (by go_simp) (by go_simp) b2.1 b2.2 b8.1 b8.2 tT.1 tT.2 pT).mono ?_); rintro e w1 ⟨rfl, rfl⟩))
          go_ret2
          exact ⟨by rw [hr.out]; first | done | rfl, (by repeat (first | (with_reducible first | exact HB.out | apply below_alloc | apply pw_below_drewN | apply below_drew1 | (refine below_set ?_ (by omega))) | exact HB.out))⟩
        · have hr : Aside0 (rad A B C R0 DR = (0, false)) := ⟨by unfold rad; rw [if_pos hA, if_neg hB, hT, if_neg hg]⟩
          have gT : decide (0 ≤ R0 * 65536 + T * DR) = false := decide_eq_false hg
          clear hA hB hT hg
          go_wp2_with (first | (go_at_call 37; (with_reducible refine (K37 _).mono ?_); rintro e w1 ⟨rfl, ⟨nd, rfl⟩⟩) | (go_at_call 47; (with_reducible refine (q47 T R0 DR _ _ _ _ _ (by go_simp) (by go_simp) b2.1 b2.2 b8.1 b8.2 tT.1 tT.2 pT).mono ?_); rintro e w1 ⟨rfl, rfl⟩))
          go_ret2
          exact ⟨by rw [hr.out]; first | done | rfl, (by repeat (first | (with_reducible first | exact HB.out | apply below_alloc | apply pw_below_drewN | apply below_drew1 | (refine below_set ?_ (by omega))) | exact HB.out))⟩
    · have hAb : (A == 0) = false := beq_eq_false_iff_ne.mpr hA
      by_cases hq : B * B - A * C < 0
      · have hr : Aside0 (rad A B C R0 DR = (0, false)) := ⟨by unfold rad; rw [if_neg hA, if_pos hq]⟩
        clear hA
        go_wp2_with fail
        go_ret2
        exact ⟨by rw [hr.out]; first | done | rfl, (by repeat (first | (with_reducible first | exact HB.out | apply below_alloc | apply pw_below_drewN | apply below_drew1 | (refine below_set ?_ (by omega))) | exact HB.out))⟩
      · obtain ⟨RT, hRT⟩ : ∃ x, root (B * B - A * C) = x := ⟨_, rfl⟩
        obtain ⟨S, hS⟩ : ∃ x, ratio (B + RT) A = x := ⟨_, rfl⟩
        obtain ⟨T, hT⟩ : ∃ x, ratio (B - RT) A = x := ⟨_, rfl⟩
        have tR : 0 ≤ RT ∧ RT ≤ 3037000499 := by rw [← hRT]; exact root_bd (by omega)
        have tS : -2147483647 ≤ S ∧ S ≤ 2147483647 := by rw [← hS]; exact ratio_bd _ _
        have tT : -2147483647 ≤ T ∧ T ≤ 2147483647 := by rw [← hT]; exact ratio_bd _ _
        have pS : -17590038552577 ≤ S * DR ∧ S * DR ≤ 17590038552577 := by have := mul_bd (a := S) (b := DR) (A := 2147483647) (B := 8191) tS.1 tS.2 b8.1 b8.2; omega
        have pT : -17590038552577 ≤ T * DR ∧ T * DR ≤ 17590038552577 := by have := mul_bd (a := T) (b := DR) (A := 2147483647) (B := 8191) tT.1 tT.2 b8.1 b8.2; omega
        have K48 : ∀ w, Calls Try.prog 48 #[.int .i64 (B * B - A * C)] w fun e w' => e = .returned (.int .i64 RT) ∧ Drawn0 w w' := fun w => hRT ▸ d48 (B * B - A * C) w (by omega)
        have K37 : ∀ w, Calls Try.prog 37 #[.int .i64 (B + RT), .int .i64 A] w fun e w' => e = .returned (.int .i64 S) ∧ Drawn0 w w' := fun w => hS ▸ d37 (B + RT) A w
        have K38 : ∀ w, Calls Try.prog 37 #[.int .i64 (B - RT), .int .i64 A] w fun e w' => e = .returned (.int .i64 T) ∧ Drawn0 w w' := fun w => hT ▸ d37 (B - RT) A w
        have hrad := rad_eq (R := R0) (D := DR) hA hq hRT hS hT
        clear hA hRT hS hT
        rcases Int.lt_trichotomy S T with hST | hST | hST
        · by_cases hg : 0 ≤ R0 * 65536 + T * DR
          · have hr : Aside0 (rad A B C R0 DR = (T, true)) := ⟨by rw [hrad, show mx S T = T by unfold mx; omega, if_pos hg]⟩
            have g1 : decide (0 ≤ R0 * 65536 + T * DR) = true := decide_eq_true hg
            clear hg hrad
            go_wp2_with (first | (go_at_call 48; (with_reducible refine (K48 _).mono ?_); rintro e w1 ⟨rfl, ⟨nd, rfl⟩⟩) | (go_at_call 37; (with_reducible refine (K37 _).mono ?_); rintro e w1 ⟨rfl, ⟨nd, rfl⟩⟩) | (go_at_call 37; (with_reducible refine (K38 _).mono ?_); rintro e w1 ⟨rfl, ⟨nd, rfl⟩⟩) | (go_at_call 47; (with_reducible refine (q47 T R0 DR _ _ _ _ _ (by go_simp) (by go_simp) b2.1 b2.2 b8.1 b8.2 tT.1 tT.2 pT).mono ?_); rintro e w1 ⟨rfl, rfl⟩))
            go_ret2
            exact ⟨by rw [hr.out]; first | done | rfl, (by repeat (first | (with_reducible first | exact HB.out | apply below_alloc | apply pw_below_drewN | apply below_drew1 | (refine below_set ?_ (by omega))) | exact HB.out))⟩
          · by_cases hg2 : 0 ≤ R0 * 65536 + S * DR
            · have hr : Aside0 (rad A B C R0 DR = (S, true)) := ⟨by rw [hrad, show mx S T = T by unfold mx; omega, show mn S T = S by unfold mn; omega, if_neg hg, if_pos hg2]⟩
              have g1 : decide (0 ≤ R0 * 65536 + T * DR) = false := decide_eq_false hg
              have g2 : decide (0 ≤ R0 * 65536 + S * DR) = true := decide_eq_true hg2
              clear hg hg2 hrad
              go_wp2_with (first | (go_at_call 48; (with_reducible refine (K48 _).mono ?_); rintro e w1 ⟨rfl, ⟨nd, rfl⟩⟩) | (go_at_call 37; (with_reducible refine (K37 _).mono ?_); rintro e w1 ⟨rfl, ⟨nd, rfl⟩⟩) | (go_at_call 37; (with_reducible refine (K38 _).mono ?_); rintro e w1 ⟨rfl, ⟨nd, rfl⟩⟩) | (go_at_call 47; (with_reducible refine (q47 T R0 DR _ _ _ _ _ (by go_simp) (by go_simp) b2.1 b2.2 b8.1 b8.2 tT.1 tT.2 pT).mono ?_); rintro e w1 ⟨rfl, rfl⟩) | (go_at_call 47; (with_reducible refine (q47 S R0 DR _ _ _ _ _ (by go_simp) (by go_simp) b2.1 b2.2 b8.1 b8.2 tS.1 tS.2 pS).mono ?_); rintro e w1 ⟨rfl, rfl⟩))
              go_ret2
              exact ⟨by rw [hr.out]; first | done | rfl, (by repeat (first | (with_reducible first | exact HB.out | apply below_alloc | apply pw_below_drewN | apply below_drew1 | (refine below_set ?_ (by omega))) | exact HB.out))⟩
            · have hr : Aside0 (rad A B C R0 DR = (0, false)) := ⟨by rw [hrad, show mx S T = T by unfold mx; omega, show mn S T = S by unfold mn; omega, if_neg hg, if_neg hg2]⟩
              have g1 : decide (0 ≤ R0 * 65536 + T * DR) = false := decide_eq_false hg
              have g2 : decide (0 ≤ R0 * 65536 + S * DR) = false := decide_eq_false hg2
              clear hg hg2 hrad
              go_wp2_with (first | (go_at_call 48; (with_reducible refine (K48 _).mono ?_); rintro e w1 ⟨rfl, ⟨nd, rfl⟩⟩) | (go_at_call 37; (with_reducible refine (K37 _).mono ?_); rintro e w1 ⟨rfl, ⟨nd, rfl⟩⟩) | (go_at_call 37; (with_reducible refine (K38 _).mono ?_); rintro e w1 ⟨rfl, ⟨nd, rfl⟩⟩) | (go_at_call 47; (with_reducible refine (q47 T R0 DR _ _ _ _ _ (by go_simp) (by go_simp) b2.1 b2.2 b8.1 b8.2 tT.1 tT.2 pT).mono ?_); rintro e w1 ⟨rfl, rfl⟩) | (go_at_call 47; (with_reducible refine (q47 S R0 DR _ _ _ _ _ (by go_simp) (by go_simp) b2.1 b2.2 b8.1 b8.2 tS.1 tS.2 pS).mono ?_); rintro e w1 ⟨rfl, rfl⟩))
              go_ret2
              exact ⟨by rw [hr.out]; first | done | rfl, (by repeat (first | (with_reducible first | exact HB.out | apply below_alloc | apply pw_below_drewN | apply below_drew1 | (refine below_set ?_ (by omega))) | exact HB.out))⟩
        · subst hST
          by_cases hg : 0 ≤ R0 * 65536 + S * DR
          · have hr : Aside0 (rad A B C R0 DR = (S, true)) := ⟨by rw [hrad, show mx S S = S by unfold mx; omega, if_pos hg]⟩
            have g1 : decide (0 ≤ R0 * 65536 + S * DR) = true := decide_eq_true hg
            clear hg hrad
            go_wp2_with (first | (go_at_call 48; (with_reducible refine (K48 _).mono ?_); rintro e w1 ⟨rfl, ⟨nd, rfl⟩⟩) | (go_at_call 37; (with_reducible refine (K37 _).mono ?_); rintro e w1 ⟨rfl, ⟨nd, rfl⟩⟩) | (go_at_call 37; (with_reducible refine (K38 _).mono ?_); rintro e w1 ⟨rfl, ⟨nd, rfl⟩⟩) | (go_at_call 47; (with_reducible refine (q47 S R0 DR _ _ _ _ _ (by go_simp) (by go_simp) b2.1 b2.2 b8.1 b8.2 tS.1 tS.2 pS).mono ?_); rintro e w1 ⟨rfl, rfl⟩))
            go_ret2
            exact ⟨by rw [hr.out]; first | done | rfl, (by repeat (first | (with_reducible first | exact HB.out | apply below_alloc | apply pw_below_drewN | apply below_drew1 | (refine below_set ?_ (by omega))) | exact HB.out))⟩
          · have hr : Aside0 (rad A B C R0 DR = (0, false)) := ⟨by rw [hrad, show mx S S = S by unfold mx; omega, show mn S S = S by unfold mn; omega, if_neg hg, if_neg hg]⟩
            have g1 : decide (0 ≤ R0 * 65536 + S * DR) = false := decide_eq_false hg
            clear hg hrad
            go_wp2_with (first | (go_at_call 48; (with_reducible refine (K48 _).mono ?_); rintro e w1 ⟨rfl, ⟨nd, rfl⟩⟩) | (go_at_call 37; (with_reducible refine (K37 _).mono ?_); rintro e w1 ⟨rfl, ⟨nd, rfl⟩⟩) | (go_at_call 37; (with_reducible refine (K38 _).mono ?_); rintro e w1 ⟨rfl, ⟨nd, rfl⟩⟩) | (go_at_call 47; (with_reducible refine (q47 S R0 DR _ _ _ _ _ (by go_simp) (by go_simp) b2.1 b2.2 b8.1 b8.2 tS.1 tS.2 pS).mono ?_); rintro e w1 ⟨rfl, rfl⟩))
            go_ret2
            exact ⟨by rw [hr.out]; first | done | rfl, (by repeat (first | (with_reducible first | exact HB.out | apply below_alloc | apply pw_below_drewN | apply below_drew1 | (refine below_set ?_ (by omega))) | exact HB.out))⟩
        · by_cases hg : 0 ≤ R0 * 65536 + S * DR
          · have hr : Aside0 (rad A B C R0 DR = (S, true)) := ⟨by rw [hrad, show mx S T = S by unfold mx; omega, if_pos hg]⟩
            have g1 : decide (0 ≤ R0 * 65536 + S * DR) = true := decide_eq_true hg
            clear hg hrad
            go_wp2_with (first | (go_at_call 48; (with_reducible refine (K48 _).mono ?_); rintro e w1 ⟨rfl, ⟨nd, rfl⟩⟩) | (go_at_call 37; (with_reducible refine (K37 _).mono ?_); rintro e w1 ⟨rfl, ⟨nd, rfl⟩⟩) | (go_at_call 37; (with_reducible refine (K38 _).mono ?_); rintro e w1 ⟨rfl, ⟨nd, rfl⟩⟩) | (go_at_call 47; (with_reducible refine (q47 S R0 DR _ _ _ _ _ (by go_simp) (by go_simp) b2.1 b2.2 b8.1 b8.2 tS.1 tS.2 pS).mono ?_); rintro e w1 ⟨rfl, rfl⟩))
            go_ret2
            exact ⟨by rw [hr.out]; first | done | rfl, (by repeat (first | (with_reducible first | exact HB.out | apply below_alloc | apply pw_below_drewN | apply below_drew1 | (refine below_set ?_ (by omega))) | exact HB.out))⟩
          · by_cases hg2 : 0 ≤ R0 * 65536 + T * DR
            · have hr : Aside0 (rad A B C R0 DR = (T, true)) := ⟨by rw [hrad, show mx S T = S by unfold mx; omega, show mn S T = T by unfold mn; omega, if_neg hg, if_pos hg2]⟩
              have g1 : decide (0 ≤ R0 * 65536 + S * DR) = false := decide_eq_false hg
              have g2 : decide (0 ≤ R0 * 65536 + T * DR) = true := decide_eq_true hg2
              clear hg hg2 hrad
              go_wp2_with (first | (go_at_call 48; (with_reducible refine (K48 _).mono ?_); rintro e w1 ⟨rfl, ⟨nd, rfl⟩⟩) | (go_at_call 37; (with_reducible refine (K37 _).mono ?_); rintro e w1 ⟨rfl, ⟨nd, rfl⟩⟩) | (go_at_call 37; (with_reducible refine (K38 _).mono ?_); rintro e w1 ⟨rfl, ⟨nd, rfl⟩⟩) | (go_at_call 47; (with_reducible refine (q47 S R0 DR _ _ _ _ _ (by go_simp) (by go_simp) b2.1 b2.2 b8.1 b8.2 tS.1 tS.2 pS).mono ?_); rintro e w1 ⟨rfl, rfl⟩) | (go_at_call 47; (with_reducible refine (q47 T R0 DR _ _ _ _ _ (by go_simp) (by go_simp) b2.1 b2.2 b8.1 b8.2 tT.1 tT.2 pT).mono ?_); rintro e w1 ⟨rfl, rfl⟩))
              go_ret2
              exact ⟨by rw [hr.out]; first | done | rfl, (by repeat (first | (with_reducible first | exact HB.out | apply below_alloc | apply pw_below_drewN | apply below_drew1 | (refine below_set ?_ (by omega))) | exact HB.out))⟩
            · have hr : Aside0 (rad A B C R0 DR = (0, false)) := ⟨by rw [hrad, show mx S T = S by unfold mx; omega, show mn S T = T by unfold mn; omega, if_neg hg, if_neg hg2]⟩
              have g1 : decide (0 ≤ R0 * 65536 + S * DR) = false := decide_eq_false hg
              have g2 : decide (0 ≤ R0 * 65536 + T * DR) = false := decide_eq_false hg2
              clear hg hg2 hrad
              go_wp2_with (first | (go_at_call 48; (with_reducible refine (K48 _).mono ?_); rintro e w1 ⟨rfl, ⟨nd, rfl⟩⟩) | (go_at_call 37; (with_reducible refine (K37 _).mono ?_); rintro e w1 ⟨rfl, ⟨nd, rfl⟩⟩) | (go_at_call 37; (with_reducible refine (K38 _).mono ?_); rintro e w1 ⟨rfl, ⟨nd, rfl⟩⟩) | (go_at_call 47; (with_reducible refine (q47 S R0 DR _ _ _ _ _ (by go_simp) (by go_simp) b2.1 b2.2 b8.1 b8.2 tS.1 tS.2 pS).mono ?_); rintro e w1 ⟨rfl, rfl⟩) | (go_at_call 47; (with_reducible refine (q47 T R0 DR _ _ _ _ _ (by go_simp) (by go_simp) b2.1 b2.2 b8.1 b8.2 tT.1 tT.2 pT).mono ?_); rintro e w1 ⟨rfl, rfl⟩))
              go_ret2
              exact ⟨by rw [hr.out]; first | done | rfl, (by repeat (first | (with_reducible first | exact HB.out | apply below_alloc | apply pw_below_drewN | apply below_drew1 | (refine below_set ?_ (by omega))) | exact HB.out))⟩

end Go.Proofs.Ytaohkdieigbccaa.RadT
