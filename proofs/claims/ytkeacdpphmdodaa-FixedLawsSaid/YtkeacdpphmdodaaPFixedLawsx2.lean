-- PRINTED BY print.sh 35421559b90ae4d0a3588c463048766b98c2df88dd9212a6774a882060cdf62d: not written by this session
import Derived.Test.YtkeacdpphmdodaaPFixedLawsx0
import Derived.Test.YtkeacdpphmdodaaPFixedLawsx1
namespace Go.Proofs.Ytkeacdpphmdodaa.PFixedLaws
open Go.RowKit Go.Proofs.YtkeacdpphmdodaaW.PrintWords Go.Proofs.YtkeacdpphmdodaaW.PrintLast Go.Proofs.YtkeacdpphmdodaaW.PrintMore
attribute [local go_sem] max2_int min2_int max_two min_two max_three min_three max_four min_four   -- for this text's walks alone
set_option linter.unusedVariables false
set_option linter.unusedSimpArgs false

/-! ### versallaw3_FixedLaws: function 8 -/
mutual
def versallaw3_FixedLaws.j0 : Nat → Int → Int → Bool → Option (Bool)
  | 0, _, _, _ => none
  | k + 1, x0, x1, x51 => if x51 = true then (some false) else (if x1 = 0 then ((fixed_Root.f k (wrap64 ((mx x0 (wrap64 (-x0))) * 1000))).bind fun t129 => (if t129 ≥ 0 then (if (wrap64 (t129 * t129)) ≤ (wrap64 ((mx x0 (wrap64 (-x0))) * 1000)) then (some (decide ((wrap64 ((wrap64 (t129 + 1)) * (wrap64 (t129 + 1)))) > (wrap64 ((mx x0 (wrap64 (-x0))) * 1000))))) else (some false)) else (some false))) else ((fixed_Div.f x0 x1).bind fun t130 => (if t130 > (-2147483647) then (versallaw3_FixedLaws.j1 k x0 x1 t130 (decide (t130 < 2147483647))) else (versallaw3_FixedLaws.j1 k x0 x1 t130 false))))
def versallaw3_FixedLaws.j1 : Nat → Int → Int → Int → Bool → Option (Bool)
  | 0, _, _, _, _ => none
  | k + 1, x0, x1, x5, x62 => if x62 = true then (if x1 > 0 then (if (wrap64 ((wrap64 (x0 * 65536)) - (wrap64 (x5 * x1)))) < 0 then (some false) else (if (wrap64 ((wrap64 (x0 * 65536)) - (wrap64 (x5 * x1)))) ≥ x1 then (some false) else (if x1 < 0 then (if (wrap64 ((wrap64 (x0 * 65536)) - (wrap64 (x5 * x1)))) > 0 then (some false) else (if (wrap64 ((wrap64 (x0 * 65536)) - (wrap64 (x5 * x1)))) ≤ x1 then (some false) else ((fixed_Root.f k (wrap64 ((mx x0 (wrap64 (-x0))) * 1000))).bind fun t131 => (if t131 ≥ 0 then (if (wrap64 (t131 * t131)) ≤ (wrap64 ((mx x0 (wrap64 (-x0))) * 1000)) then (some (decide ((wrap64 ((wrap64 (t131 + 1)) * (wrap64 (t131 + 1)))) > (wrap64 ((mx x0 (wrap64 (-x0))) * 1000))))) else (some false)) else (some false))))) else ((fixed_Root.f k (wrap64 ((mx x0 (wrap64 (-x0))) * 1000))).bind fun t132 => (if t132 ≥ 0 then (if (wrap64 (t132 * t132)) ≤ (wrap64 ((mx x0 (wrap64 (-x0))) * 1000)) then (some (decide ((wrap64 ((wrap64 (t132 + 1)) * (wrap64 (t132 + 1)))) > (wrap64 ((mx x0 (wrap64 (-x0))) * 1000))))) else (some false)) else (some false)))))) else (if x1 < 0 then (if (wrap64 ((wrap64 (x0 * 65536)) - (wrap64 (x5 * x1)))) > 0 then (some false) else (if (wrap64 ((wrap64 (x0 * 65536)) - (wrap64 (x5 * x1)))) ≤ x1 then (some false) else ((fixed_Root.f k (wrap64 ((mx x0 (wrap64 (-x0))) * 1000))).bind fun t133 => (if t133 ≥ 0 then (if (wrap64 (t133 * t133)) ≤ (wrap64 ((mx x0 (wrap64 (-x0))) * 1000)) then (some (decide ((wrap64 ((wrap64 (t133 + 1)) * (wrap64 (t133 + 1)))) > (wrap64 ((mx x0 (wrap64 (-x0))) * 1000))))) else (some false)) else (some false))))) else ((fixed_Root.f k (wrap64 ((mx x0 (wrap64 (-x0))) * 1000))).bind fun t134 => (if t134 ≥ 0 then (if (wrap64 (t134 * t134)) ≤ (wrap64 ((mx x0 (wrap64 (-x0))) * 1000)) then (some (decide ((wrap64 ((wrap64 (t134 + 1)) * (wrap64 (t134 + 1)))) > (wrap64 ((mx x0 (wrap64 (-x0))) * 1000))))) else (some false)) else (some false))))) else ((fixed_Root.f k (wrap64 ((mx x0 (wrap64 (-x0))) * 1000))).bind fun t135 => (if t135 ≥ 0 then (if (wrap64 (t135 * t135)) ≤ (wrap64 ((mx x0 (wrap64 (-x0))) * 1000)) then (some (decide ((wrap64 ((wrap64 (t135 + 1)) * (wrap64 (t135 + 1)))) > (wrap64 ((mx x0 (wrap64 (-x0))) * 1000))))) else (some false)) else (some false)))
end
def versallaw3_FixedLaws.f (k : Nat) (a0 : Int) (a1 : Int) : Option (Bool) := (versalhand_Num.f a0).bind fun t119 => ((versalhand_Num.f a1).bind fun t120 => ((versallaw3_known.f).bind fun t121 => (if t121 = true then ((fixed_Mul.f (Int.tmod t119 1073741824) (Int.tmod t120 1073741824)).bind fun t122 => ((fixed_Mul.f (Int.tmod t120 1073741824) (Int.tmod t119 1073741824)).bind fun t123 => (if t122 = t123 then ((fixed_Mul.f (Int.tmod t119 1073741824) 65536).bind fun t124 => (if t124 = (Int.tmod t119 1073741824) then ((fixed_Mul.f (Int.tmod t119 1073741824) 0).bind fun t125 => (if t125 = 0 then ((fixed_Div.f (Int.tmod t119 1073741824) 65536).bind fun t126 => (if t126 = (Int.tmod t119 1073741824) then ((fixed_Whole.f (Int.tmod (Int.tmod t119 1073741824) 30000)).bind fun t127 => ((fixed_Round.f t127).bind fun t128 => (versallaw3_FixedLaws.j0 k (Int.tmod t119 1073741824) (Int.tmod t120 1073741824) (t128 != (Int.tmod (Int.tmod t119 1073741824) 30000))))) else (versallaw3_FixedLaws.j0 k (Int.tmod t119 1073741824) (Int.tmod t120 1073741824) true))) else (versallaw3_FixedLaws.j0 k (Int.tmod t119 1073741824) (Int.tmod t120 1073741824) true))) else (versallaw3_FixedLaws.j0 k (Int.tmod t119 1073741824) (Int.tmod t120 1073741824) true))) else (versallaw3_FixedLaws.j0 k (Int.tmod t119 1073741824) (Int.tmod t120 1073741824) true)))) else (versallaw3_FixedLaws.j0 k (Int.tmod t119 1073741824) (Int.tmod t120 1073741824) true))))
theorem versallaw3_FixedLaws.mono_l : ∀ k, (∀ y0 y1 y2, LeO (versallaw3_FixedLaws.j0 k y0 y1 y2) (versallaw3_FixedLaws.j0 (k + 1) y0 y1 y2)) ∧ (∀ y0 y1 y2 y3, LeO (versallaw3_FixedLaws.j1 k y0 y1 y2 y3) (versallaw3_FixedLaws.j1 (k + 1) y0 y1 y2 y3))
  | 0 => ⟨fun _ _ _ r h => by simp [versallaw3_FixedLaws.j0] at h, fun _ _ _ _ r h => by simp [versallaw3_FixedLaws.j1] at h⟩
  | k + 1 => by
    obtain ⟨ih0, ih1⟩ := versallaw3_FixedLaws.mono_l k
    refine ⟨?_, ?_⟩
    · intro y0 y1 y2
      unfold versallaw3_FixedLaws.j0
      repeat' first
      | (with_reducible exact ih0 _ _ _)
      | (with_reducible exact ih1 _ _ _ _)
      | (with_reducible exact fixed_Root.mono _ _)
      | (with_reducible exact LeO.refl _)
      | (with_reducible exact LeO.none _)
      | (with_reducible refine LeO.ite ?_ ?_)
      | (with_reducible refine LeO.bind ?_ (fun _ => ?_))
      | exact ih0 _ _ _
      | exact ih1 _ _ _ _
      | exact fixed_Root.mono _ _
      | exact LeO.none _
      | refine LeO.ite ?_ ?_
      | refine LeO.bind ?_ (fun _ => ?_)
    · intro y0 y1 y2 y3
      unfold versallaw3_FixedLaws.j1
      repeat' first
      | (with_reducible exact ih0 _ _ _)
      | (with_reducible exact ih1 _ _ _ _)
      | (with_reducible exact fixed_Root.mono _ _)
      | (with_reducible exact LeO.refl _)
      | (with_reducible exact LeO.none _)
      | (with_reducible refine LeO.ite ?_ ?_)
      | (with_reducible refine LeO.bind ?_ (fun _ => ?_))
      | exact ih0 _ _ _
      | exact ih1 _ _ _ _
      | exact fixed_Root.mono _ _
      | exact LeO.none _
      | refine LeO.ite ?_ ?_
      | refine LeO.bind ?_ (fun _ => ?_)
theorem versallaw3_FixedLaws.mono : ∀ a0 a1 k, LeO (versallaw3_FixedLaws.f k a0 a1) (versallaw3_FixedLaws.f (k + 1) a0 a1) := by
  intro a0 a1 k
  obtain ⟨ih0, ih1⟩ := versallaw3_FixedLaws.mono_l k
  unfold versallaw3_FixedLaws.f
  repeat' first
      | (with_reducible exact ih0 _ _ _)
      | (with_reducible exact ih1 _ _ _ _)
      | (with_reducible exact fixed_Root.mono _ _)
      | (with_reducible exact LeO.refl _)
      | (with_reducible exact LeO.none _)
      | (with_reducible refine LeO.ite ?_ ?_)
      | (with_reducible refine LeO.bind ?_ (fun _ => ?_))
      | exact ih0 _ _ _
      | exact ih1 _ _ _ _
      | exact fixed_Root.mono _ _
      | exact LeO.none _
      | refine LeO.ite ?_ ?_
      | refine LeO.bind ?_ (fun _ => ?_)
set_option maxHeartbeats 8000000 in
set_option maxRecDepth 100000 in
theorem versallaw3_FixedLaws.calls (k : Nat) (a0 : Int) (a1 : Int) (r : Bool) (w : World) (h : versallaw3_FixedLaws.f k a0 a1 = some r) :
    Calls Try.prog 8 #[.int .i64 a0, .int .i64 a1] w fun e w' => e = .returned (.bool r) ∧ Below w.heap.size w w' := by
  have HB := Aside0.mk (Below.refl w.heap.size w)
  have H : ((versalhand_Num.f a0).bind fun t119 => ((versalhand_Num.f a1).bind fun t120 => ((versallaw3_known.f).bind fun t121 => (if t121 = true then ((fixed_Mul.f (Int.tmod t119 1073741824) (Int.tmod t120 1073741824)).bind fun t122 => ((fixed_Mul.f (Int.tmod t120 1073741824) (Int.tmod t119 1073741824)).bind fun t123 => (if t122 = t123 then ((fixed_Mul.f (Int.tmod t119 1073741824) 65536).bind fun t124 => (if t124 = (Int.tmod t119 1073741824) then ((fixed_Mul.f (Int.tmod t119 1073741824) 0).bind fun t125 => (if t125 = 0 then ((fixed_Div.f (Int.tmod t119 1073741824) 65536).bind fun t126 => (if t126 = (Int.tmod t119 1073741824) then ((fixed_Whole.f (Int.tmod (Int.tmod t119 1073741824) 30000)).bind fun t127 => ((fixed_Round.f t127).bind fun t128 => (versallaw3_FixedLaws.j0 k (Int.tmod t119 1073741824) (Int.tmod t120 1073741824) (t128 != (Int.tmod (Int.tmod t119 1073741824) 30000))))) else (versallaw3_FixedLaws.j0 k (Int.tmod t119 1073741824) (Int.tmod t120 1073741824) true))) else (versallaw3_FixedLaws.j0 k (Int.tmod t119 1073741824) (Int.tmod t120 1073741824) true))) else (versallaw3_FixedLaws.j0 k (Int.tmod t119 1073741824) (Int.tmod t120 1073741824) true))) else (versallaw3_FixedLaws.j0 k (Int.tmod t119 1073741824) (Int.tmod t120 1073741824) true)))) else (versallaw3_FixedLaws.j0 k (Int.tmod t119 1073741824) (Int.tmod t120 1073741824) true))))) = some r := h
  clear h
  replace H := Option.bind_eq_some_iff.mp H
  obtain ⟨t119, A30, H⟩ := H
  replace H : ((versalhand_Num.f a1).bind fun t120 => ((versallaw3_known.f).bind fun t121 => (if t121 = true then ((fixed_Mul.f (Int.tmod t119 1073741824) (Int.tmod t120 1073741824)).bind fun t122 => ((fixed_Mul.f (Int.tmod t120 1073741824) (Int.tmod t119 1073741824)).bind fun t123 => (if t122 = t123 then ((fixed_Mul.f (Int.tmod t119 1073741824) 65536).bind fun t124 => (if t124 = (Int.tmod t119 1073741824) then ((fixed_Mul.f (Int.tmod t119 1073741824) 0).bind fun t125 => (if t125 = 0 then ((fixed_Div.f (Int.tmod t119 1073741824) 65536).bind fun t126 => (if t126 = (Int.tmod t119 1073741824) then ((fixed_Whole.f (Int.tmod (Int.tmod t119 1073741824) 30000)).bind fun t127 => ((fixed_Round.f t127).bind fun t128 => (versallaw3_FixedLaws.j0 k (Int.tmod t119 1073741824) (Int.tmod t120 1073741824) (t128 != (Int.tmod (Int.tmod t119 1073741824) 30000))))) else (versallaw3_FixedLaws.j0 k (Int.tmod t119 1073741824) (Int.tmod t120 1073741824) true))) else (versallaw3_FixedLaws.j0 k (Int.tmod t119 1073741824) (Int.tmod t120 1073741824) true))) else (versallaw3_FixedLaws.j0 k (Int.tmod t119 1073741824) (Int.tmod t120 1073741824) true))) else (versallaw3_FixedLaws.j0 k (Int.tmod t119 1073741824) (Int.tmod t120 1073741824) true)))) else (versallaw3_FixedLaws.j0 k (Int.tmod t119 1073741824) (Int.tmod t120 1073741824) true)))) = some r := H
  have A3 := Aside0.mk A30
  clear A30
  replace H := Option.bind_eq_some_iff.mp H
  obtain ⟨t120, A40, H⟩ := H
  replace H : ((versallaw3_known.f).bind fun t121 => (if t121 = true then ((fixed_Mul.f (Int.tmod t119 1073741824) (Int.tmod t120 1073741824)).bind fun t122 => ((fixed_Mul.f (Int.tmod t120 1073741824) (Int.tmod t119 1073741824)).bind fun t123 => (if t122 = t123 then ((fixed_Mul.f (Int.tmod t119 1073741824) 65536).bind fun t124 => (if t124 = (Int.tmod t119 1073741824) then ((fixed_Mul.f (Int.tmod t119 1073741824) 0).bind fun t125 => (if t125 = 0 then ((fixed_Div.f (Int.tmod t119 1073741824) 65536).bind fun t126 => (if t126 = (Int.tmod t119 1073741824) then ((fixed_Whole.f (Int.tmod (Int.tmod t119 1073741824) 30000)).bind fun t127 => ((fixed_Round.f t127).bind fun t128 => (versallaw3_FixedLaws.j0 k (Int.tmod t119 1073741824) (Int.tmod t120 1073741824) (t128 != (Int.tmod (Int.tmod t119 1073741824) 30000))))) else (versallaw3_FixedLaws.j0 k (Int.tmod t119 1073741824) (Int.tmod t120 1073741824) true))) else (versallaw3_FixedLaws.j0 k (Int.tmod t119 1073741824) (Int.tmod t120 1073741824) true))) else (versallaw3_FixedLaws.j0 k (Int.tmod t119 1073741824) (Int.tmod t120 1073741824) true))) else (versallaw3_FixedLaws.j0 k (Int.tmod t119 1073741824) (Int.tmod t120 1073741824) true)))) else (versallaw3_FixedLaws.j0 k (Int.tmod t119 1073741824) (Int.tmod t120 1073741824) true))) = some r := H
  have A4 := Aside0.mk A40
  clear A40
  have HC5 := Aside0.mk H
  clear H
  go_enter Try.func8, Try.ntmps8
  go_upto_region 3 with (first | ((with_reducible refine gate_callee (f := 22) rfl ?_); refine goesL_ (some 10) rfl rfl Try.func22 (by kernel_rfl) rfl #[.int .i64 a0] rfl (by (try simp only [List.map_toArray, List.map_cons, List.map_nil]); first | done | rfl | (simp only [List.length_drop, List.length_take]; rfl)) ?_; (with_reducible refine (versalhand_Num.calls a0 t119 _ A3.out).mono ?_); rintro e w' ⟨rfl, ⟨nd, rfl⟩⟩; refine ⟨_, rfl, ?_⟩) | ((with_reducible refine gate_callee (f := 22) rfl ?_); refine goesL_ (some 13) rfl rfl Try.func22 (by kernel_rfl) rfl #[.int .i64 a1] rfl (by (try simp only [List.map_toArray, List.map_cons, List.map_nil]); first | done | rfl | (simp only [List.length_drop, List.length_take]; rfl)) ?_; (with_reducible refine (versalhand_Num.calls a1 t120 _ A4.out).mono ?_); rintro e w' ⟨rfl, ⟨nd, rfl⟩⟩; refine ⟨_, rfl, ?_⟩))
  (try simp only [Act.put, List.setIfInBounds_toArray, List.set_cons_zero, List.set_cons_succ])
  go_cut [51] (fun v51 wc => ∃ (kq : Nat) (x51_4 : Bool), v51 = .bool x51_4 ∧ Aside0 (versallaw3_FixedLaws.j0 kq (Int.tmod t119 1073741824) (Int.tmod t120 1073741824) x51_4 = some r) ∧ Aside0 (kq ≤ k) ∧ Aside0 (Below w.heap.size w wc))
  case first =>
    have H := HC5.out
    clear HC5
    replace H := Option.bind_eq_some_iff.mp H
    obtain ⟨t121, A60, H⟩ := H
    replace H : (if t121 = true then ((fixed_Mul.f (Int.tmod t119 1073741824) (Int.tmod t120 1073741824)).bind fun t122 => ((fixed_Mul.f (Int.tmod t120 1073741824) (Int.tmod t119 1073741824)).bind fun t123 => (if t122 = t123 then ((fixed_Mul.f (Int.tmod t119 1073741824) 65536).bind fun t124 => (if t124 = (Int.tmod t119 1073741824) then ((fixed_Mul.f (Int.tmod t119 1073741824) 0).bind fun t125 => (if t125 = 0 then ((fixed_Div.f (Int.tmod t119 1073741824) 65536).bind fun t126 => (if t126 = (Int.tmod t119 1073741824) then ((fixed_Whole.f (Int.tmod (Int.tmod t119 1073741824) 30000)).bind fun t127 => ((fixed_Round.f t127).bind fun t128 => (versallaw3_FixedLaws.j0 k (Int.tmod t119 1073741824) (Int.tmod t120 1073741824) (t128 != (Int.tmod (Int.tmod t119 1073741824) 30000))))) else (versallaw3_FixedLaws.j0 k (Int.tmod t119 1073741824) (Int.tmod t120 1073741824) true))) else (versallaw3_FixedLaws.j0 k (Int.tmod t119 1073741824) (Int.tmod t120 1073741824) true))) else (versallaw3_FixedLaws.j0 k (Int.tmod t119 1073741824) (Int.tmod t120 1073741824) true))) else (versallaw3_FixedLaws.j0 k (Int.tmod t119 1073741824) (Int.tmod t120 1073741824) true)))) else (versallaw3_FixedLaws.j0 k (Int.tmod t119 1073741824) (Int.tmod t120 1073741824) true)) = some r := H
    have A6 := Aside0.mk A60
    clear A60
    by_cases c7 : t121 = true
    · subst c7
      have H1 : ((fixed_Mul.f (Int.tmod t119 1073741824) (Int.tmod t120 1073741824)).bind fun t122 => ((fixed_Mul.f (Int.tmod t120 1073741824) (Int.tmod t119 1073741824)).bind fun t123 => (if t122 = t123 then ((fixed_Mul.f (Int.tmod t119 1073741824) 65536).bind fun t124 => (if t124 = (Int.tmod t119 1073741824) then ((fixed_Mul.f (Int.tmod t119 1073741824) 0).bind fun t125 => (if t125 = 0 then ((fixed_Div.f (Int.tmod t119 1073741824) 65536).bind fun t126 => (if t126 = (Int.tmod t119 1073741824) then ((fixed_Whole.f (Int.tmod (Int.tmod t119 1073741824) 30000)).bind fun t127 => ((fixed_Round.f t127).bind fun t128 => (versallaw3_FixedLaws.j0 k (Int.tmod t119 1073741824) (Int.tmod t120 1073741824) (t128 != (Int.tmod (Int.tmod t119 1073741824) 30000))))) else (versallaw3_FixedLaws.j0 k (Int.tmod t119 1073741824) (Int.tmod t120 1073741824) true))) else (versallaw3_FixedLaws.j0 k (Int.tmod t119 1073741824) (Int.tmod t120 1073741824) true))) else (versallaw3_FixedLaws.j0 k (Int.tmod t119 1073741824) (Int.tmod t120 1073741824) true))) else (versallaw3_FixedLaws.j0 k (Int.tmod t119 1073741824) (Int.tmod t120 1073741824) true)))) = some r := by rw [if_pos rfl] at H; exact H
      clear H
      have H := H1
      clear H1
      replace H := Option.bind_eq_some_iff.mp H
      obtain ⟨t122, A80, H⟩ := H
      replace H : ((fixed_Mul.f (Int.tmod t120 1073741824) (Int.tmod t119 1073741824)).bind fun t123 => (if t122 = t123 then ((fixed_Mul.f (Int.tmod t119 1073741824) 65536).bind fun t124 => (if t124 = (Int.tmod t119 1073741824) then ((fixed_Mul.f (Int.tmod t119 1073741824) 0).bind fun t125 => (if t125 = 0 then ((fixed_Div.f (Int.tmod t119 1073741824) 65536).bind fun t126 => (if t126 = (Int.tmod t119 1073741824) then ((fixed_Whole.f (Int.tmod (Int.tmod t119 1073741824) 30000)).bind fun t127 => ((fixed_Round.f t127).bind fun t128 => (versallaw3_FixedLaws.j0 k (Int.tmod t119 1073741824) (Int.tmod t120 1073741824) (t128 != (Int.tmod (Int.tmod t119 1073741824) 30000))))) else (versallaw3_FixedLaws.j0 k (Int.tmod t119 1073741824) (Int.tmod t120 1073741824) true))) else (versallaw3_FixedLaws.j0 k (Int.tmod t119 1073741824) (Int.tmod t120 1073741824) true))) else (versallaw3_FixedLaws.j0 k (Int.tmod t119 1073741824) (Int.tmod t120 1073741824) true))) else (versallaw3_FixedLaws.j0 k (Int.tmod t119 1073741824) (Int.tmod t120 1073741824) true))) = some r := H
      have A8 := Aside0.mk A80
      clear A80
      replace H := Option.bind_eq_some_iff.mp H
      obtain ⟨t123, A90, H⟩ := H
      replace H : (if t122 = t123 then ((fixed_Mul.f (Int.tmod t119 1073741824) 65536).bind fun t124 => (if t124 = (Int.tmod t119 1073741824) then ((fixed_Mul.f (Int.tmod t119 1073741824) 0).bind fun t125 => (if t125 = 0 then ((fixed_Div.f (Int.tmod t119 1073741824) 65536).bind fun t126 => (if t126 = (Int.tmod t119 1073741824) then ((fixed_Whole.f (Int.tmod (Int.tmod t119 1073741824) 30000)).bind fun t127 => ((fixed_Round.f t127).bind fun t128 => (versallaw3_FixedLaws.j0 k (Int.tmod t119 1073741824) (Int.tmod t120 1073741824) (t128 != (Int.tmod (Int.tmod t119 1073741824) 30000))))) else (versallaw3_FixedLaws.j0 k (Int.tmod t119 1073741824) (Int.tmod t120 1073741824) true))) else (versallaw3_FixedLaws.j0 k (Int.tmod t119 1073741824) (Int.tmod t120 1073741824) true))) else (versallaw3_FixedLaws.j0 k (Int.tmod t119 1073741824) (Int.tmod t120 1073741824) true))) else (versallaw3_FixedLaws.j0 k (Int.tmod t119 1073741824) (Int.tmod t120 1073741824) true)) = some r := H
      have A9 := Aside0.mk A90
      clear A90
      by_cases c10 : t122 = t123
      · rw [if_pos c10] at H
        have c10b0 : (t122 == t123) = true := beq_iff_eq.mpr c10
        have c10b1 : (t122 != t123) = false := bne_eq_false_iff_eq.mpr c10
        clear c10
        (first | rw [c10b0] | (simp only [i64_w, i32_w]; rw [c10b0]) | skip)
        replace H := Option.bind_eq_some_iff.mp H
        obtain ⟨t124, A110, H⟩ := H
        replace H : (if t124 = (Int.tmod t119 1073741824) then ((fixed_Mul.f (Int.tmod t119 1073741824) 0).bind fun t125 => (if t125 = 0 then ((fixed_Div.f (Int.tmod t119 1073741824) 65536).bind fun t126 => (if t126 = (Int.tmod t119 1073741824) then ((fixed_Whole.f (Int.tmod (Int.tmod t119 1073741824) 30000)).bind fun t127 => ((fixed_Round.f t127).bind fun t128 => (versallaw3_FixedLaws.j0 k (Int.tmod t119 1073741824) (Int.tmod t120 1073741824) (t128 != (Int.tmod (Int.tmod t119 1073741824) 30000))))) else (versallaw3_FixedLaws.j0 k (Int.tmod t119 1073741824) (Int.tmod t120 1073741824) true))) else (versallaw3_FixedLaws.j0 k (Int.tmod t119 1073741824) (Int.tmod t120 1073741824) true))) else (versallaw3_FixedLaws.j0 k (Int.tmod t119 1073741824) (Int.tmod t120 1073741824) true)) = some r := H
        have A11 := Aside0.mk A110
        clear A110
        by_cases c12 : t124 = (Int.tmod t119 1073741824)
        · rw [if_pos c12] at H
          have c12b0 : (t124 == (Int.tmod t119 1073741824)) = true := beq_iff_eq.mpr c12
          have c12b1 : (t124 != (Int.tmod t119 1073741824)) = false := bne_eq_false_iff_eq.mpr c12
          clear c12
          replace H := Option.bind_eq_some_iff.mp H
          obtain ⟨t125, A130, H⟩ := H
          replace H : (if t125 = 0 then ((fixed_Div.f (Int.tmod t119 1073741824) 65536).bind fun t126 => (if t126 = (Int.tmod t119 1073741824) then ((fixed_Whole.f (Int.tmod (Int.tmod t119 1073741824) 30000)).bind fun t127 => ((fixed_Round.f t127).bind fun t128 => (versallaw3_FixedLaws.j0 k (Int.tmod t119 1073741824) (Int.tmod t120 1073741824) (t128 != (Int.tmod (Int.tmod t119 1073741824) 30000))))) else (versallaw3_FixedLaws.j0 k (Int.tmod t119 1073741824) (Int.tmod t120 1073741824) true))) else (versallaw3_FixedLaws.j0 k (Int.tmod t119 1073741824) (Int.tmod t120 1073741824) true)) = some r := H
          have A13 := Aside0.mk A130
          clear A130
          by_cases c14 : t125 = 0
          · rw [if_pos c14] at H
            have c14b0 : (t125 == 0) = true := beq_iff_eq.mpr c14
            have c14b1 : (t125 != 0) = false := bne_eq_false_iff_eq.mpr c14
            clear c14
            replace H := Option.bind_eq_some_iff.mp H
            obtain ⟨t126, A150, H⟩ := H
            replace H : (if t126 = (Int.tmod t119 1073741824) then ((fixed_Whole.f (Int.tmod (Int.tmod t119 1073741824) 30000)).bind fun t127 => ((fixed_Round.f t127).bind fun t128 => (versallaw3_FixedLaws.j0 k (Int.tmod t119 1073741824) (Int.tmod t120 1073741824) (t128 != (Int.tmod (Int.tmod t119 1073741824) 30000))))) else (versallaw3_FixedLaws.j0 k (Int.tmod t119 1073741824) (Int.tmod t120 1073741824) true)) = some r := H
            have A15 := Aside0.mk A150
            clear A150
            by_cases c16 : t126 = (Int.tmod t119 1073741824)
            · rw [if_pos c16] at H
              have c16b0 : (t126 == (Int.tmod t119 1073741824)) = true := beq_iff_eq.mpr c16
              have c16b1 : (t126 != (Int.tmod t119 1073741824)) = false := bne_eq_false_iff_eq.mpr c16
              clear c16
              replace H := Option.bind_eq_some_iff.mp H
              obtain ⟨t127, A170, H⟩ := H
              replace H : ((fixed_Round.f t127).bind fun t128 => (versallaw3_FixedLaws.j0 k (Int.tmod t119 1073741824) (Int.tmod t120 1073741824) (t128 != (Int.tmod (Int.tmod t119 1073741824) 30000)))) = some r := H
              have A17 := Aside0.mk A170
              clear A170
              replace H := Option.bind_eq_some_iff.mp H
              obtain ⟨t128, A180, H⟩ := H
              replace H : (versallaw3_FixedLaws.j0 k (Int.tmod t119 1073741824) (Int.tmod t120 1073741824) (t128 != (Int.tmod (Int.tmod t119 1073741824) 30000))) = some r := H
              have A18 := Aside0.mk A180
              clear A180
              have H' := Aside0.mk H
              clear H
              go_wp2_with (first | ((with_reducible refine gate_callee (f := 30) rfl ?_); refine goesL_ (some 15) rfl rfl Try.func30 (by kernel_rfl) rfl #[] rfl (by (try simp only [List.map_toArray, List.map_cons, List.map_nil]); first | done | rfl | (simp only [List.length_drop, List.length_take]; rfl)) ?_; (with_reducible refine (versallaw3_known.calls  true _ A6.out).mono ?_); rintro e w19 ⟨rfl, hb⟩; refine ⟨_, rfl, ?_⟩; have n0_ := Aside0.mk (below_step (by repeat (first | (with_reducible first | exact HB.out | apply below_alloc | apply pw_below_drewN | apply below_drew1) | exact HB.out)) hb); clear HB; have HB := n0_; clear n0_; (try clear hb); (try clear hb2); (try clear hk); (try clear hi)) | (go_at_call 31; (with_reducible refine (fixed_Mul.calls (Int.tmod t119 1073741824) (Int.tmod t120 1073741824) t122 _ A8.out).mono ?_); rintro e w20 ⟨rfl, hb⟩; have n0_ := Aside0.mk (below_step (by repeat (first | (with_reducible first | exact HB.out | apply below_alloc | apply pw_below_drewN | apply below_drew1) | exact HB.out)) hb); clear HB; have HB := n0_; clear n0_; (try clear hb); (try clear hb2); (try clear hk); (try clear hi)) | (go_at_call 31; (with_reducible refine (fixed_Mul.calls (Int.tmod t120 1073741824) (Int.tmod t119 1073741824) t123 _ A9.out).mono ?_); rintro e w21 ⟨rfl, hb⟩; have n0_ := Aside0.mk (below_step (by repeat (first | (with_reducible first | exact HB.out | apply below_alloc | apply pw_below_drewN | apply below_drew1) | exact HB.out)) hb); clear HB; have HB := n0_; clear n0_; (try clear hb); (try clear hb2); (try clear hk); (try clear hi)) | (go_at_call 31; (with_reducible refine (fixed_Mul.calls (Int.tmod t119 1073741824) 65536 t124 _ A11.out).mono ?_); rintro e w22 ⟨rfl, hb⟩; have n0_ := Aside0.mk (below_step (by repeat (first | (with_reducible first | exact HB.out | apply below_alloc | apply pw_below_drewN | apply below_drew1) | exact HB.out)) hb); clear HB; have HB := n0_; clear n0_; (try clear hb); (try clear hb2); (try clear hk); (try clear hi)) | (go_at_call 31; (with_reducible refine (fixed_Mul.calls (Int.tmod t119 1073741824) 0 t125 _ A13.out).mono ?_); rintro e w23 ⟨rfl, hb⟩; have n0_ := Aside0.mk (below_step (by repeat (first | (with_reducible first | exact HB.out | apply below_alloc | apply pw_below_drewN | apply below_drew1) | exact HB.out)) hb); clear HB; have HB := n0_; clear n0_; (try clear hb); (try clear hb2); (try clear hk); (try clear hi)) | (go_at_call 32; (with_reducible refine (fixed_Div.calls (Int.tmod t119 1073741824) 65536 t126 _ A15.out).mono ?_); rintro e w24 ⟨rfl, hb⟩; have n0_ := Aside0.mk (below_step (by repeat (first | (with_reducible first | exact HB.out | apply below_alloc | apply pw_below_drewN | apply below_drew1) | exact HB.out)) hb); clear HB; have HB := n0_; clear n0_; (try clear hb); (try clear hb2); (try clear hk); (try clear hi)) | (go_at_call 34; (with_reducible refine (fixed_Whole.calls (Int.tmod (Int.tmod t119 1073741824) 30000) t127 _ A17.out).mono ?_); rintro e w25 ⟨rfl, hb⟩; have n0_ := Aside0.mk (below_step (by repeat (first | (with_reducible first | exact HB.out | apply below_alloc | apply pw_below_drewN | apply below_drew1) | exact HB.out)) hb); clear HB; have HB := n0_; clear n0_; (try clear hb); (try clear hb2); (try clear hk); (try clear hi)) | (go_at_call 33; (with_reducible refine (fixed_Round.calls t127 t128 _ A18.out).mono ?_); rintro e w26 ⟨rfl, hb⟩; have n0_ := Aside0.mk (below_step (by repeat (first | (with_reducible first | exact HB.out | apply below_alloc | apply pw_below_drewN | apply below_drew1) | exact HB.out)) hb); clear HB; have HB := n0_; clear n0_; (try clear hb); (try clear hb2); (try clear hk); (try clear hi)))
              go_meet
              case rel => exact ⟨_, ((t128 != (Int.tmod (Int.tmod t119 1073741824) 30000))), (by first | rfl | (simp; done) | (simp [*]; done)), H', ⟨by first | omega | exact Nat.le_refl _⟩, ⟨by repeat (first | (with_reducible first | exact HB.out | apply below_alloc | apply pw_below_drewN | apply below_drew1) | exact HB.out)⟩⟩
            · rw [if_neg c16] at H
              have c16b0 : (t126 == (Int.tmod t119 1073741824)) = false := beq_eq_false_iff_ne.mpr c16
              have c16b1 : (t126 != (Int.tmod t119 1073741824)) = true := bne_iff_ne.mpr c16
              have H' := Aside0.mk H
              clear H
              go_wp2_with (first | ((with_reducible refine gate_callee (f := 30) rfl ?_); refine goesL_ (some 15) rfl rfl Try.func30 (by kernel_rfl) rfl #[] rfl (by (try simp only [List.map_toArray, List.map_cons, List.map_nil]); first | done | rfl | (simp only [List.length_drop, List.length_take]; rfl)) ?_; (with_reducible refine (versallaw3_known.calls  true _ A6.out).mono ?_); rintro e w27 ⟨rfl, hb⟩; refine ⟨_, rfl, ?_⟩; have n0_ := Aside0.mk (below_step (by repeat (first | (with_reducible first | exact HB.out | apply below_alloc | apply pw_below_drewN | apply below_drew1) | exact HB.out)) hb); clear HB; have HB := n0_; clear n0_; (try clear hb); (try clear hb2); (try clear hk); (try clear hi)) | (go_at_call 31; (with_reducible refine (fixed_Mul.calls (Int.tmod t119 1073741824) (Int.tmod t120 1073741824) t122 _ A8.out).mono ?_); rintro e w28 ⟨rfl, hb⟩; have n0_ := Aside0.mk (below_step (by repeat (first | (with_reducible first | exact HB.out | apply below_alloc | apply pw_below_drewN | apply below_drew1) | exact HB.out)) hb); clear HB; have HB := n0_; clear n0_; (try clear hb); (try clear hb2); (try clear hk); (try clear hi)) | (go_at_call 31; (with_reducible refine (fixed_Mul.calls (Int.tmod t120 1073741824) (Int.tmod t119 1073741824) t123 _ A9.out).mono ?_); rintro e w29 ⟨rfl, hb⟩; have n0_ := Aside0.mk (below_step (by repeat (first | (with_reducible first | exact HB.out | apply below_alloc | apply pw_below_drewN | apply below_drew1) | exact HB.out)) hb); clear HB; have HB := n0_; clear n0_; (try clear hb); (try clear hb2); (try clear hk); (try clear hi)) | (go_at_call 31; (with_reducible refine (fixed_Mul.calls (Int.tmod t119 1073741824) 65536 t124 _ A11.out).mono ?_); rintro e w30 ⟨rfl, hb⟩; have n0_ := Aside0.mk (below_step (by repeat (first | (with_reducible first | exact HB.out | apply below_alloc | apply pw_below_drewN | apply below_drew1) | exact HB.out)) hb); clear HB; have HB := n0_; clear n0_; (try clear hb); (try clear hb2); (try clear hk); (try clear hi)) | (go_at_call 31; (with_reducible refine (fixed_Mul.calls (Int.tmod t119 1073741824) 0 t125 _ A13.out).mono ?_); rintro e w31 ⟨rfl, hb⟩; have n0_ := Aside0.mk (below_step (by repeat (first | (with_reducible first | exact HB.out | apply below_alloc | apply pw_below_drewN | apply below_drew1) | exact HB.out)) hb); clear HB; have HB := n0_; clear n0_; (try clear hb); (try clear hb2); (try clear hk); (try clear hi)) | (go_at_call 32; (with_reducible refine (fixed_Div.calls (Int.tmod t119 1073741824) 65536 t126 _ A15.out).mono ?_); rintro e w32 ⟨rfl, hb⟩; have n0_ := Aside0.mk (below_step (by repeat (first | (with_reducible first | exact HB.out | apply below_alloc | apply pw_below_drewN | apply below_drew1) | exact HB.out)) hb); clear HB; have HB := n0_; clear n0_; (try clear hb); (try clear hb2); (try clear hk); (try clear hi)))
              go_meet
              case rel => exact ⟨_, (true), (by first | rfl | (simp; done) | (simp [*]; done)), H', ⟨by first | omega | exact Nat.le_refl _⟩, ⟨by repeat (first | (with_reducible first | exact HB.out | apply below_alloc | apply pw_below_drewN | apply below_drew1) | exact HB.out)⟩⟩
          · rw [if_neg c14] at H
            have c14b0 : (t125 == 0) = false := beq_eq_false_iff_ne.mpr c14
            have c14b1 : (t125 != 0) = true := bne_iff_ne.mpr c14
            have H' := Aside0.mk H
            clear H
            go_wp2_with (first | ((with_reducible refine gate_callee (f := 30) rfl ?_); refine goesL_ (some 15) rfl rfl Try.func30 (by kernel_rfl) rfl #[] rfl (by (try simp only [List.map_toArray, List.map_cons, List.map_nil]); first | done | rfl | (simp only [List.length_drop, List.length_take]; rfl)) ?_; (with_reducible refine (versallaw3_known.calls  true _ A6.out).mono ?_); rintro e w33 ⟨rfl, hb⟩; refine ⟨_, rfl, ?_⟩; have n0_ := Aside0.mk (below_step (by repeat (first | (with_reducible first | exact HB.out | apply below_alloc | apply pw_below_drewN | apply below_drew1) | exact HB.out)) hb); clear HB; have HB := n0_; clear n0_; (try clear hb); (try clear hb2); (try clear hk); (try clear hi)) | (go_at_call 31; (with_reducible refine (fixed_Mul.calls (Int.tmod t119 1073741824) (Int.tmod t120 1073741824) t122 _ A8.out).mono ?_); rintro e w34 ⟨rfl, hb⟩; have n0_ := Aside0.mk (below_step (by repeat (first | (with_reducible first | exact HB.out | apply below_alloc | apply pw_below_drewN | apply below_drew1) | exact HB.out)) hb); clear HB; have HB := n0_; clear n0_; (try clear hb); (try clear hb2); (try clear hk); (try clear hi)) | (go_at_call 31; (with_reducible refine (fixed_Mul.calls (Int.tmod t120 1073741824) (Int.tmod t119 1073741824) t123 _ A9.out).mono ?_); rintro e w35 ⟨rfl, hb⟩; have n0_ := Aside0.mk (below_step (by repeat (first | (with_reducible first | exact HB.out | apply below_alloc | apply pw_below_drewN | apply below_drew1) | exact HB.out)) hb); clear HB; have HB := n0_; clear n0_; (try clear hb); (try clear hb2); (try clear hk); (try clear hi)) | (go_at_call 31; (with_reducible refine (fixed_Mul.calls (Int.tmod t119 1073741824) 65536 t124 _ A11.out).mono ?_); rintro e w36 ⟨rfl, hb⟩; have n0_ := Aside0.mk (below_step (by repeat (first | (with_reducible first | exact HB.out | apply below_alloc | apply pw_below_drewN | apply below_drew1) | exact HB.out)) hb); clear HB; have HB := n0_; clear n0_; (try clear hb); (try clear hb2); (try clear hk); (try clear hi)) | (go_at_call 31; (with_reducible refine (fixed_Mul.calls (Int.tmod t119 1073741824) 0 t125 _ A13.out).mono ?_); rintro e w37 ⟨rfl, hb⟩; have n0_ := Aside0.mk (below_step (by repeat (first | (with_reducible first | exact HB.out | apply below_alloc | apply pw_below_drewN | apply below_drew1) | exact HB.out)) hb); clear HB; have HB := n0_; clear n0_; (try clear hb); (try clear hb2); (try clear hk); (try clear hi)))
            go_meet
            case rel => exact ⟨_, (true), (by first | rfl | (simp; done) | (simp [*]; done)), H', ⟨by first | omega | exact Nat.le_refl _⟩, ⟨by repeat (first | (with_reducible first | exact HB.out | apply below_alloc | apply pw_below_drewN | apply below_drew1) | exact HB.out)⟩⟩
        · rw [if_neg c12] at H
          have c12b0 : (t124 == (Int.tmod t119 1073741824)) = false := beq_eq_false_iff_ne.mpr c12
          have c12b1 : (t124 != (Int.tmod t119 1073741824)) = true := bne_iff_ne.mpr c12
          have H' := Aside0.mk H
          clear H
          go_wp2_with (first | ((with_reducible refine gate_callee (f := 30) rfl ?_); refine goesL_ (some 15) rfl rfl Try.func30 (by kernel_rfl) rfl #[] rfl (by (try simp only [List.map_toArray, List.map_cons, List.map_nil]); first | done | rfl | (simp only [List.length_drop, List.length_take]; rfl)) ?_; (with_reducible refine (versallaw3_known.calls  true _ A6.out).mono ?_); rintro e w38 ⟨rfl, hb⟩; refine ⟨_, rfl, ?_⟩; have n0_ := Aside0.mk (below_step (by repeat (first | (with_reducible first | exact HB.out | apply below_alloc | apply pw_below_drewN | apply below_drew1) | exact HB.out)) hb); clear HB; have HB := n0_; clear n0_; (try clear hb); (try clear hb2); (try clear hk); (try clear hi)) | (go_at_call 31; (with_reducible refine (fixed_Mul.calls (Int.tmod t119 1073741824) (Int.tmod t120 1073741824) t122 _ A8.out).mono ?_); rintro e w39 ⟨rfl, hb⟩; have n0_ := Aside0.mk (below_step (by repeat (first | (with_reducible first | exact HB.out | apply below_alloc | apply pw_below_drewN | apply below_drew1) | exact HB.out)) hb); clear HB; have HB := n0_; clear n0_; (try clear hb); (try clear hb2); (try clear hk); (try clear hi)) | (go_at_call 31; (with_reducible refine (fixed_Mul.calls (Int.tmod t120 1073741824) (Int.tmod t119 1073741824) t123 _ A9.out).mono ?_); rintro e w40 ⟨rfl, hb⟩; have n0_ := Aside0.mk (below_step (by repeat (first | (with_reducible first | exact HB.out | apply below_alloc | apply pw_below_drewN | apply below_drew1) | exact HB.out)) hb); clear HB; have HB := n0_; clear n0_; (try clear hb); (try clear hb2); (try clear hk); (try clear hi)) | (go_at_call 31; (with_reducible refine (fixed_Mul.calls (Int.tmod t119 1073741824) 65536 t124 _ A11.out).mono ?_); rintro e w41 ⟨rfl, hb⟩; have n0_ := Aside0.mk (below_step (by repeat (first | (with_reducible first | exact HB.out | apply below_alloc | apply pw_below_drewN | apply below_drew1) | exact HB.out)) hb); clear HB; have HB := n0_; clear n0_; (try clear hb); (try clear hb2); (try clear hk); (try clear hi)))
          go_meet
          case rel => exact ⟨_, (true), (by first | rfl | (simp; done) | (simp [*]; done)), H', ⟨by first | omega | exact Nat.le_refl _⟩, ⟨by repeat (first | (with_reducible first | exact HB.out | apply below_alloc | apply pw_below_drewN | apply below_drew1) | exact HB.out)⟩⟩
      · rw [if_neg c10] at H
        have c10b0 : (t122 == t123) = false := beq_eq_false_iff_ne.mpr c10
        have c10b1 : (t122 != t123) = true := bne_iff_ne.mpr c10
        (first | rw [c10b0] | (simp only [i64_w, i32_w]; rw [c10b0]) | skip)
        have H' := Aside0.mk H
        clear H
        go_wp2_with (first | ((with_reducible refine gate_callee (f := 30) rfl ?_); refine goesL_ (some 15) rfl rfl Try.func30 (by kernel_rfl) rfl #[] rfl (by (try simp only [List.map_toArray, List.map_cons, List.map_nil]); first | done | rfl | (simp only [List.length_drop, List.length_take]; rfl)) ?_; (with_reducible refine (versallaw3_known.calls  true _ A6.out).mono ?_); rintro e w42 ⟨rfl, hb⟩; refine ⟨_, rfl, ?_⟩; have n0_ := Aside0.mk (below_step (by repeat (first | (with_reducible first | exact HB.out | apply below_alloc | apply pw_below_drewN | apply below_drew1) | exact HB.out)) hb); clear HB; have HB := n0_; clear n0_; (try clear hb); (try clear hb2); (try clear hk); (try clear hi)) | (go_at_call 31; (with_reducible refine (fixed_Mul.calls (Int.tmod t119 1073741824) (Int.tmod t120 1073741824) t122 _ A8.out).mono ?_); rintro e w43 ⟨rfl, hb⟩; have n0_ := Aside0.mk (below_step (by repeat (first | (with_reducible first | exact HB.out | apply below_alloc | apply pw_below_drewN | apply below_drew1) | exact HB.out)) hb); clear HB; have HB := n0_; clear n0_; (try clear hb); (try clear hb2); (try clear hk); (try clear hi)) | (go_at_call 31; (with_reducible refine (fixed_Mul.calls (Int.tmod t120 1073741824) (Int.tmod t119 1073741824) t123 _ A9.out).mono ?_); rintro e w44 ⟨rfl, hb⟩; have n0_ := Aside0.mk (below_step (by repeat (first | (with_reducible first | exact HB.out | apply below_alloc | apply pw_below_drewN | apply below_drew1) | exact HB.out)) hb); clear HB; have HB := n0_; clear n0_; (try clear hb); (try clear hb2); (try clear hk); (try clear hi)))
        go_meet
        case rel => exact ⟨_, (true), (by first | rfl | (simp; done) | (simp [*]; done)), H', ⟨by first | omega | exact Nat.le_refl _⟩, ⟨by repeat (first | (with_reducible first | exact HB.out | apply below_alloc | apply pw_below_drewN | apply below_drew1) | exact HB.out)⟩⟩
    · replace c7 := Bool.eq_false_iff.mpr c7
      subst c7
      have H1 : (versallaw3_FixedLaws.j0 k (Int.tmod t119 1073741824) (Int.tmod t120 1073741824) true) = some r := by rw [if_neg (show ¬ (false = true) by decide)] at H; exact H
      clear H
      have H := H1
      clear H1
      have H' := Aside0.mk H
      clear H
      go_wp2_with (first | ((with_reducible refine gate_callee (f := 30) rfl ?_); refine goesL_ (some 15) rfl rfl Try.func30 (by kernel_rfl) rfl #[] rfl (by (try simp only [List.map_toArray, List.map_cons, List.map_nil]); first | done | rfl | (simp only [List.length_drop, List.length_take]; rfl)) ?_; (with_reducible refine (versallaw3_known.calls  false _ A6.out).mono ?_); rintro e w45 ⟨rfl, hb⟩; refine ⟨_, rfl, ?_⟩; have n0_ := Aside0.mk (below_step (by repeat (first | (with_reducible first | exact HB.out | apply below_alloc | apply pw_below_drewN | apply below_drew1) | exact HB.out)) hb); clear HB; have HB := n0_; clear n0_; (try clear hb); (try clear hb2); (try clear hk); (try clear hi)))
      go_meet
      case rel => exact ⟨_, (true), (by first | rfl | (simp; done) | (simp [*]; done)), H', ⟨by first | omega | exact Nat.le_refl _⟩, ⟨by repeat (first | (with_reducible first | exact HB.out | apply below_alloc | apply pw_below_drewN | apply below_drew1) | exact HB.out)⟩⟩
  case rest =>
    clear HC5
    try clear c1
    try clear c2
    try clear p2
    try clear c3
    try clear c7
    try clear c8
    try clear c10
    try clear c10b0
    try clear c10b1
    try clear c12
    try clear c12b0
    try clear c12b1
    try clear c14
    try clear c14b0
    try clear c14b1
    try clear c16
    try clear c16b0
    try clear c16b1
    try clear c22
    try clear c30
    obtain ⟨kq, x51_4, rfl, HA, HJ4, HB⟩ := hcut
    cases kq with
    | zero => exact absurd HA.out (by simp [versallaw3_FixedLaws.j0])
    | succ kj4 =>
      have H := HA.out
      clear HA
      simp only [versallaw3_FixedLaws.j0] at H
      by_cases c46 : x51_4 = true
      · subst c46
        have H1 : (some false) = some r := by rw [if_pos rfl] at H; exact H
        clear H
        have H := H1
        clear H1
        obtain rfl := Option.some.inj H
        go_wp2
        go_ret
        exact ⟨by first | rfl | (simp [errW_none, errW_some] <;> rfl) | (simp [*, errW_none, errW_some] <;> rfl), by repeat (first | (with_reducible first | exact HB.out | apply below_alloc | apply pw_below_drewN | apply below_drew1) | exact HB.out)⟩
      · replace c46 := Bool.eq_false_iff.mpr c46
        subst c46
        have H1 : (if (Int.tmod t120 1073741824) = 0 then ((fixed_Root.f kj4 (wrap64 ((mx (Int.tmod t119 1073741824) (wrap64 (-(Int.tmod t119 1073741824)))) * 1000))).bind fun t129 => (if t129 ≥ 0 then (if (wrap64 (t129 * t129)) ≤ (wrap64 ((mx (Int.tmod t119 1073741824) (wrap64 (-(Int.tmod t119 1073741824)))) * 1000)) then (some (decide ((wrap64 ((wrap64 (t129 + 1)) * (wrap64 (t129 + 1)))) > (wrap64 ((mx (Int.tmod t119 1073741824) (wrap64 (-(Int.tmod t119 1073741824)))) * 1000))))) else (some false)) else (some false))) else ((fixed_Div.f (Int.tmod t119 1073741824) (Int.tmod t120 1073741824)).bind fun t130 => (if t130 > (-2147483647) then (versallaw3_FixedLaws.j1 kj4 (Int.tmod t119 1073741824) (Int.tmod t120 1073741824) t130 (decide (t130 < 2147483647))) else (versallaw3_FixedLaws.j1 kj4 (Int.tmod t119 1073741824) (Int.tmod t120 1073741824) t130 false)))) = some r := by rw [if_neg (show ¬ (false = true) by decide)] at H; exact H
        clear H
        have H := H1
        clear H1
        by_cases c47 : (Int.tmod t120 1073741824) = 0
        · rw [if_pos c47] at H
          have c47b0 : ((Int.tmod t120 1073741824) == 0) = true := beq_iff_eq.mpr c47
          have c47b1 : ((Int.tmod t120 1073741824) != 0) = false := bne_eq_false_iff_eq.mpr c47
          clear c47
          obtain ⟨ji48, hji48⟩ : ∃ j_ : Int, (mx (Int.tmod t119 1073741824) (wrap64 (-(Int.tmod t119 1073741824)))) = j_ := ⟨_, rfl⟩
          replace H : ((fixed_Root.f kj4 (wrap64 ((ji48) * 1000))).bind fun t129 => (if t129 ≥ 0 then (if (wrap64 (t129 * t129)) ≤ (wrap64 ((ji48) * 1000)) then (some (decide ((wrap64 ((wrap64 (t129 + 1)) * (wrap64 (t129 + 1)))) > (wrap64 ((ji48) * 1000))))) else (some false)) else (some false))) = some r := by first | (rw [hji48] at H; exact H) | (simp only [hji48] at H ⊢; exact H)
          have hji48_ : (if (Int.tmod t119 1073741824) < (wrap64 (-(Int.tmod t119 1073741824))) then (wrap64 (-(Int.tmod t119 1073741824))) else (Int.tmod t119 1073741824)) = ji48 := hji48
          replace H := Option.bind_eq_some_iff.mp H
          obtain ⟨t129, A490, H⟩ := H
          replace H : (if t129 ≥ 0 then (if (wrap64 (t129 * t129)) ≤ (wrap64 ((ji48) * 1000)) then (some (decide ((wrap64 ((wrap64 (t129 + 1)) * (wrap64 (t129 + 1)))) > (wrap64 ((ji48) * 1000))))) else (some false)) else (some false)) = some r := H
          have A49 := Aside0.mk A490
          clear A490
          by_cases c50 : t129 ≥ 0
          · rw [if_pos c50] at H
            have c50b0 : decide (0 ≤ t129) = true := decide_eq_true c50
            clear c50
            by_cases c51 : (wrap64 (t129 * t129)) ≤ (wrap64 ((ji48) * 1000))
            · rw [if_pos c51] at H
              have c51b0 : decide ((wrap64 (t129 * t129)) ≤ (wrap64 ((ji48) * 1000))) = true := decide_eq_true c51
              clear c51
              obtain rfl := Option.some.inj H
              go_wp2_with (first | ((with_reducible refine gate_callee (f := 35) rfl ?_); refine goesL_ (some 99) rfl rfl Try.func35 (by kernel_rfl) rfl #[.int .i64 (wrap64 ((ji48) * 1000))] rfl (by (try simp only [List.map_toArray, List.map_cons, List.map_nil]); first | done | (simp only [hji48]; rfl) | rfl | (simp only [List.length_drop, List.length_take]; rfl)) ?_; (with_reducible refine (fixed_Root.calls kj4 (wrap64 ((ji48) * 1000)) t129 _ A49.out).mono ?_); rintro e w' ⟨rfl, ⟨nd, rfl⟩⟩; refine ⟨_, rfl, ?_⟩))
              go_ret
              exact ⟨by first | rfl | (simp [errW_none, errW_some] <;> rfl) | (simp only [← hji48]; first | rfl | (simp [errW_none, errW_some] <;> rfl)) | (simp [*, errW_none, errW_some] <;> rfl), by repeat (first | (with_reducible first | exact HB.out | apply below_alloc | apply pw_below_drewN | apply below_drew1) | exact HB.out)⟩
            · rw [if_neg c51] at H
              have c51b0 : decide ((wrap64 (t129 * t129)) ≤ (wrap64 ((ji48) * 1000))) = false := decide_eq_false c51
              clear c51
              obtain rfl := Option.some.inj H
              go_wp2_with (first | ((with_reducible refine gate_callee (f := 35) rfl ?_); refine goesL_ (some 99) rfl rfl Try.func35 (by kernel_rfl) rfl #[.int .i64 (wrap64 ((ji48) * 1000))] rfl (by (try simp only [List.map_toArray, List.map_cons, List.map_nil]); first | done | (simp only [hji48]; rfl) | rfl | (simp only [List.length_drop, List.length_take]; rfl)) ?_; (with_reducible refine (fixed_Root.calls kj4 (wrap64 ((ji48) * 1000)) t129 _ A49.out).mono ?_); rintro e w' ⟨rfl, ⟨nd, rfl⟩⟩; refine ⟨_, rfl, ?_⟩))
              go_ret
              exact ⟨by first | rfl | (simp [errW_none, errW_some] <;> rfl) | (simp only [← hji48]; first | rfl | (simp [errW_none, errW_some] <;> rfl)) | (simp [*, errW_none, errW_some] <;> rfl), by repeat (first | (with_reducible first | exact HB.out | apply below_alloc | apply pw_below_drewN | apply below_drew1) | exact HB.out)⟩
          · rw [if_neg c50] at H
            have c50b0 : decide (0 ≤ t129) = false := decide_eq_false c50
            clear c50
            obtain rfl := Option.some.inj H
            go_wp2_with (first | ((with_reducible refine gate_callee (f := 35) rfl ?_); refine goesL_ (some 99) rfl rfl Try.func35 (by kernel_rfl) rfl #[.int .i64 (wrap64 ((ji48) * 1000))] rfl (by (try simp only [List.map_toArray, List.map_cons, List.map_nil]); first | done | (simp only [hji48]; rfl) | rfl | (simp only [List.length_drop, List.length_take]; rfl)) ?_; (with_reducible refine (fixed_Root.calls kj4 (wrap64 ((ji48) * 1000)) t129 _ A49.out).mono ?_); rintro e w' ⟨rfl, ⟨nd, rfl⟩⟩; refine ⟨_, rfl, ?_⟩))
            go_ret
            exact ⟨by first | rfl | (simp [errW_none, errW_some] <;> rfl) | (simp only [← hji48]; first | rfl | (simp [errW_none, errW_some] <;> rfl)) | (simp [*, errW_none, errW_some] <;> rfl), by repeat (first | (with_reducible first | exact HB.out | apply below_alloc | apply pw_below_drewN | apply below_drew1) | exact HB.out)⟩
        · rw [if_neg c47] at H
          have c47b0 : ((Int.tmod t120 1073741824) == 0) = false := beq_eq_false_iff_ne.mpr c47
          have c47b1 : ((Int.tmod t120 1073741824) != 0) = true := bne_iff_ne.mpr c47
          replace H := Option.bind_eq_some_iff.mp H
          obtain ⟨t130, A520, H⟩ := H
          replace H : (if t130 > (-2147483647) then (versallaw3_FixedLaws.j1 kj4 (Int.tmod t119 1073741824) (Int.tmod t120 1073741824) t130 (decide (t130 < 2147483647))) else (versallaw3_FixedLaws.j1 kj4 (Int.tmod t119 1073741824) (Int.tmod t120 1073741824) t130 false)) = some r := H
          have A52 := Aside0.mk A520
          clear A520
          have HC53 := Aside0.mk H
          clear H
          go_upto_region 7 with (first | ((with_reducible refine gate_callee (f := 32) rfl ?_); refine goesL_ (some 56) rfl rfl Try.func32 (by kernel_rfl) rfl #[.int .i64 (Int.tmod t119 1073741824), .int .i64 (Int.tmod t120 1073741824)] rfl (by (try simp only [List.map_toArray, List.map_cons, List.map_nil]); first | done | rfl | (simp only [List.length_drop, List.length_take]; rfl)) ?_; (with_reducible refine (fixed_Div.calls (Int.tmod t119 1073741824) (Int.tmod t120 1073741824) t130 _ A52.out).mono ?_); rintro e w54 ⟨rfl, hb⟩; refine ⟨_, rfl, ?_⟩; have n0_ := Aside0.mk (below_step (by repeat (first | (with_reducible first | exact HB.out | apply below_alloc | apply pw_below_drewN | apply below_drew1) | exact HB.out)) hb); clear HB; have HB := n0_; clear n0_; (try clear hb); (try clear hb2); (try clear hk); (try clear hi)))
          (try simp only [Act.put, List.setIfInBounds_toArray, List.set_cons_zero, List.set_cons_succ])
          go_cut [62] (fun v62 wc => ∃ (kq : Nat) (x62_52 : Bool), v62 = .bool x62_52 ∧ Aside0 (versallaw3_FixedLaws.j1 kq (Int.tmod t119 1073741824) (Int.tmod t120 1073741824) t130 x62_52 = some r) ∧ Aside0 (kq ≤ kj4) ∧ Aside0 (Below w.heap.size w wc))
          case first =>
            have H := HC53.out
            clear HC53
            by_cases c55 : t130 > (-2147483647)
            · rw [if_pos c55] at H
              have c55b0 : decide ((-2147483647) < t130) = true := decide_eq_true c55
              clear c55
              (first | rw [c55b0] | (simp only [i64_w, i32_w]; rw [c55b0]) | skip)
              have H' := Aside0.mk H
              clear H
              go_wp2
              go_meet
              case rel => exact ⟨_, (decide (t130 < 2147483647)), (by first | rfl | (simp; done) | (simp [*]; done)), H', ⟨by have := HJ4.out; first | omega | exact Nat.le_refl _⟩, ⟨by repeat (first | (with_reducible first | exact HB.out | apply below_alloc | apply pw_below_drewN | apply below_drew1) | exact HB.out)⟩⟩
            · rw [if_neg c55] at H
              have c55b0 : decide ((-2147483647) < t130) = false := decide_eq_false c55
              clear c55
              (first | rw [c55b0] | (simp only [i64_w, i32_w]; rw [c55b0]) | skip)
              have H' := Aside0.mk H
              clear H
              go_wp2
              go_meet
              case rel => exact ⟨_, (false), (by first | rfl | (simp; done) | (simp [*]; done)), H', ⟨by have := HJ4.out; first | omega | exact Nat.le_refl _⟩, ⟨by repeat (first | (with_reducible first | exact HB.out | apply below_alloc | apply pw_below_drewN | apply below_drew1) | exact HB.out)⟩⟩
          case rest =>
            clear HC53
            try clear c1
            try clear c2
            try clear p2
            try clear c3
            try clear c4
            try clear c5
            try clear p6
            try clear c7
            try clear c8
            try clear c10
            try clear c10b0
            try clear c10b1
            try clear c12
            try clear c12b0
            try clear c12b1
            try clear c14
            try clear c14b0
            try clear c14b1
            try clear c16
            try clear c16b0
            try clear c16b1
            try clear c22
            try clear c30
            try clear c32
            try clear c35
            try clear c46
            try clear c47
            try clear c47b0
            try clear c47b1
            try clear c50
            try clear c50b0
            try clear c51
            try clear c51b0
            try clear c55
            try clear c55b0
            try clear p2
            obtain ⟨kq, x62_52, rfl, HA, HJ52, HB⟩ := hcut
            cases kq with
            | zero => exact absurd HA.out (by simp [versallaw3_FixedLaws.j1])
            | succ kj52 =>
              have H := HA.out
              clear HA
              simp only [versallaw3_FixedLaws.j1] at H
              by_cases c56 : x62_52 = true
              · subst c56
                have H1 : (if (Int.tmod t120 1073741824) > 0 then (if (wrap64 ((wrap64 ((Int.tmod t119 1073741824) * 65536)) - (wrap64 (t130 * (Int.tmod t120 1073741824))))) < 0 then (some false) else (if (wrap64 ((wrap64 ((Int.tmod t119 1073741824) * 65536)) - (wrap64 (t130 * (Int.tmod t120 1073741824))))) ≥ (Int.tmod t120 1073741824) then (some false) else (if (Int.tmod t120 1073741824) < 0 then (if (wrap64 ((wrap64 ((Int.tmod t119 1073741824) * 65536)) - (wrap64 (t130 * (Int.tmod t120 1073741824))))) > 0 then (some false) else (if (wrap64 ((wrap64 ((Int.tmod t119 1073741824) * 65536)) - (wrap64 (t130 * (Int.tmod t120 1073741824))))) ≤ (Int.tmod t120 1073741824) then (some false) else ((fixed_Root.f kj52 (wrap64 ((mx (Int.tmod t119 1073741824) (wrap64 (-(Int.tmod t119 1073741824)))) * 1000))).bind fun t131 => (if t131 ≥ 0 then (if (wrap64 (t131 * t131)) ≤ (wrap64 ((mx (Int.tmod t119 1073741824) (wrap64 (-(Int.tmod t119 1073741824)))) * 1000)) then (some (decide ((wrap64 ((wrap64 (t131 + 1)) * (wrap64 (t131 + 1)))) > (wrap64 ((mx (Int.tmod t119 1073741824) (wrap64 (-(Int.tmod t119 1073741824)))) * 1000))))) else (some false)) else (some false))))) else ((fixed_Root.f kj52 (wrap64 ((mx (Int.tmod t119 1073741824) (wrap64 (-(Int.tmod t119 1073741824)))) * 1000))).bind fun t132 => (if t132 ≥ 0 then (if (wrap64 (t132 * t132)) ≤ (wrap64 ((mx (Int.tmod t119 1073741824) (wrap64 (-(Int.tmod t119 1073741824)))) * 1000)) then (some (decide ((wrap64 ((wrap64 (t132 + 1)) * (wrap64 (t132 + 1)))) > (wrap64 ((mx (Int.tmod t119 1073741824) (wrap64 (-(Int.tmod t119 1073741824)))) * 1000))))) else (some false)) else (some false)))))) else (if (Int.tmod t120 1073741824) < 0 then (if (wrap64 ((wrap64 ((Int.tmod t119 1073741824) * 65536)) - (wrap64 (t130 * (Int.tmod t120 1073741824))))) > 0 then (some false) else (if (wrap64 ((wrap64 ((Int.tmod t119 1073741824) * 65536)) - (wrap64 (t130 * (Int.tmod t120 1073741824))))) ≤ (Int.tmod t120 1073741824) then (some false) else ((fixed_Root.f kj52 (wrap64 ((mx (Int.tmod t119 1073741824) (wrap64 (-(Int.tmod t119 1073741824)))) * 1000))).bind fun t133 => (if t133 ≥ 0 then (if (wrap64 (t133 * t133)) ≤ (wrap64 ((mx (Int.tmod t119 1073741824) (wrap64 (-(Int.tmod t119 1073741824)))) * 1000)) then (some (decide ((wrap64 ((wrap64 (t133 + 1)) * (wrap64 (t133 + 1)))) > (wrap64 ((mx (Int.tmod t119 1073741824) (wrap64 (-(Int.tmod t119 1073741824)))) * 1000))))) else (some false)) else (some false))))) else ((fixed_Root.f kj52 (wrap64 ((mx (Int.tmod t119 1073741824) (wrap64 (-(Int.tmod t119 1073741824)))) * 1000))).bind fun t134 => (if t134 ≥ 0 then (if (wrap64 (t134 * t134)) ≤ (wrap64 ((mx (Int.tmod t119 1073741824) (wrap64 (-(Int.tmod t119 1073741824)))) * 1000)) then (some (decide ((wrap64 ((wrap64 (t134 + 1)) * (wrap64 (t134 + 1)))) > (wrap64 ((mx (Int.tmod t119 1073741824) (wrap64 (-(Int.tmod t119 1073741824)))) * 1000))))) else (some false)) else (some false))))) = some r := by rw [if_pos rfl] at H; exact H
                clear H
                have H := H1
                clear H1
                by_cases c57 : (Int.tmod t120 1073741824) > 0
                · rw [if_pos c57] at H
                  have c57b0 : decide (0 < (Int.tmod t120 1073741824)) = true := decide_eq_true c57
                  clear c57
                  by_cases c58 : (wrap64 ((wrap64 ((Int.tmod t119 1073741824) * 65536)) - (wrap64 (t130 * (Int.tmod t120 1073741824))))) < 0
                  · rw [if_pos c58] at H
                    have c58b0 : decide ((wrap64 ((wrap64 ((Int.tmod t119 1073741824) * 65536)) - (wrap64 (t130 * (Int.tmod t120 1073741824))))) < 0) = true := decide_eq_true c58
                    clear c58
                    obtain rfl := Option.some.inj H
                    go_wp2
                    go_ret
                    exact ⟨by first | rfl | (simp [errW_none, errW_some] <;> rfl) | (simp [*, errW_none, errW_some] <;> rfl), by repeat (first | (with_reducible first | exact HB.out | apply below_alloc | apply pw_below_drewN | apply below_drew1) | exact HB.out)⟩
                  · rw [if_neg c58] at H
                    have c58b0 : decide ((wrap64 ((wrap64 ((Int.tmod t119 1073741824) * 65536)) - (wrap64 (t130 * (Int.tmod t120 1073741824))))) < 0) = false := decide_eq_false c58
                    clear c58
                    by_cases c59 : (wrap64 ((wrap64 ((Int.tmod t119 1073741824) * 65536)) - (wrap64 (t130 * (Int.tmod t120 1073741824))))) ≥ (Int.tmod t120 1073741824)
                    · rw [if_pos c59] at H
                      have c59b0 : decide ((Int.tmod t120 1073741824) ≤ (wrap64 ((wrap64 ((Int.tmod t119 1073741824) * 65536)) - (wrap64 (t130 * (Int.tmod t120 1073741824)))))) = true := decide_eq_true c59
                      clear c59
                      obtain rfl := Option.some.inj H
                      go_wp2
                      go_ret
                      exact ⟨by first | rfl | (simp [errW_none, errW_some] <;> rfl) | (simp [*, errW_none, errW_some] <;> rfl), by repeat (first | (with_reducible first | exact HB.out | apply below_alloc | apply pw_below_drewN | apply below_drew1) | exact HB.out)⟩
                    · rw [if_neg c59] at H
                      have c59b0 : decide ((Int.tmod t120 1073741824) ≤ (wrap64 ((wrap64 ((Int.tmod t119 1073741824) * 65536)) - (wrap64 (t130 * (Int.tmod t120 1073741824)))))) = false := decide_eq_false c59
                      clear c59
                      by_cases c60 : (Int.tmod t120 1073741824) < 0
                      · rw [if_pos c60] at H
                        have c60b0 : decide ((Int.tmod t120 1073741824) < 0) = true := decide_eq_true c60
                        clear c60
                        by_cases c61 : (wrap64 ((wrap64 ((Int.tmod t119 1073741824) * 65536)) - (wrap64 (t130 * (Int.tmod t120 1073741824))))) > 0
                        · rw [if_pos c61] at H
                          have c61b0 : decide (0 < (wrap64 ((wrap64 ((Int.tmod t119 1073741824) * 65536)) - (wrap64 (t130 * (Int.tmod t120 1073741824)))))) = true := decide_eq_true c61
                          clear c61
                          obtain rfl := Option.some.inj H
                          go_wp2
                          go_ret
                          exact ⟨by first | rfl | (simp [errW_none, errW_some] <;> rfl) | (simp [*, errW_none, errW_some] <;> rfl), by repeat (first | (with_reducible first | exact HB.out | apply below_alloc | apply pw_below_drewN | apply below_drew1) | exact HB.out)⟩
                        · rw [if_neg c61] at H
                          have c61b0 : decide (0 < (wrap64 ((wrap64 ((Int.tmod t119 1073741824) * 65536)) - (wrap64 (t130 * (Int.tmod t120 1073741824)))))) = false := decide_eq_false c61
                          clear c61
                          by_cases c62 : (wrap64 ((wrap64 ((Int.tmod t119 1073741824) * 65536)) - (wrap64 (t130 * (Int.tmod t120 1073741824))))) ≤ (Int.tmod t120 1073741824)
                          · rw [if_pos c62] at H
                            have c62b0 : decide ((wrap64 ((wrap64 ((Int.tmod t119 1073741824) * 65536)) - (wrap64 (t130 * (Int.tmod t120 1073741824))))) ≤ (Int.tmod t120 1073741824)) = true := decide_eq_true c62
                            clear c62
                            obtain rfl := Option.some.inj H
                            go_wp2
                            go_ret
                            exact ⟨by first | rfl | (simp [errW_none, errW_some] <;> rfl) | (simp [*, errW_none, errW_some] <;> rfl), by repeat (first | (with_reducible first | exact HB.out | apply below_alloc | apply pw_below_drewN | apply below_drew1) | exact HB.out)⟩
                          · rw [if_neg c62] at H
                            have c62b0 : decide ((wrap64 ((wrap64 ((Int.tmod t119 1073741824) * 65536)) - (wrap64 (t130 * (Int.tmod t120 1073741824))))) ≤ (Int.tmod t120 1073741824)) = false := decide_eq_false c62
                            clear c62
                            obtain ⟨ji63, hji63⟩ : ∃ j_ : Int, (mx (Int.tmod t119 1073741824) (wrap64 (-(Int.tmod t119 1073741824)))) = j_ := ⟨_, rfl⟩
                            replace H : ((fixed_Root.f kj52 (wrap64 ((ji63) * 1000))).bind fun t131 => (if t131 ≥ 0 then (if (wrap64 (t131 * t131)) ≤ (wrap64 ((ji63) * 1000)) then (some (decide ((wrap64 ((wrap64 (t131 + 1)) * (wrap64 (t131 + 1)))) > (wrap64 ((ji63) * 1000))))) else (some false)) else (some false))) = some r := by first | (rw [hji63] at H; exact H) | (simp only [hji63] at H ⊢; exact H)
                            have hji63_ : (if (Int.tmod t119 1073741824) < (wrap64 (-(Int.tmod t119 1073741824))) then (wrap64 (-(Int.tmod t119 1073741824))) else (Int.tmod t119 1073741824)) = ji63 := hji63
                            replace H := Option.bind_eq_some_iff.mp H
                            obtain ⟨t131, A640, H⟩ := H
                            replace H : (if t131 ≥ 0 then (if (wrap64 (t131 * t131)) ≤ (wrap64 ((ji63) * 1000)) then (some (decide ((wrap64 ((wrap64 (t131 + 1)) * (wrap64 (t131 + 1)))) > (wrap64 ((ji63) * 1000))))) else (some false)) else (some false)) = some r := H
                            have A64 := Aside0.mk A640
                            clear A640
                            by_cases c65 : t131 ≥ 0
                            · rw [if_pos c65] at H
                              have c65b0 : decide (0 ≤ t131) = true := decide_eq_true c65
                              clear c65
                              by_cases c66 : (wrap64 (t131 * t131)) ≤ (wrap64 ((ji63) * 1000))
                              · rw [if_pos c66] at H
                                have c66b0 : decide ((wrap64 (t131 * t131)) ≤ (wrap64 ((ji63) * 1000))) = true := decide_eq_true c66
                                clear c66
                                obtain rfl := Option.some.inj H
                                go_wp2_with (first | ((with_reducible refine gate_callee (f := 35) rfl ?_); refine goesL_ (some 99) rfl rfl Try.func35 (by kernel_rfl) rfl #[.int .i64 (wrap64 ((ji63) * 1000))] rfl (by (try simp only [List.map_toArray, List.map_cons, List.map_nil]); first | done | (simp only [hji63]; rfl) | rfl | (simp only [List.length_drop, List.length_take]; rfl)) ?_; (with_reducible refine (fixed_Root.calls kj52 (wrap64 ((ji63) * 1000)) t131 _ A64.out).mono ?_); rintro e w' ⟨rfl, ⟨nd, rfl⟩⟩; refine ⟨_, rfl, ?_⟩))
                                go_ret
                                exact ⟨by first | rfl | (simp [errW_none, errW_some] <;> rfl) | (simp only [← hji63]; first | rfl | (simp [errW_none, errW_some] <;> rfl)) | (simp [*, errW_none, errW_some] <;> rfl), by repeat (first | (with_reducible first | exact HB.out | apply below_alloc | apply pw_below_drewN | apply below_drew1) | exact HB.out)⟩
                              · rw [if_neg c66] at H
                                have c66b0 : decide ((wrap64 (t131 * t131)) ≤ (wrap64 ((ji63) * 1000))) = false := decide_eq_false c66
                                clear c66
                                obtain rfl := Option.some.inj H
                                go_wp2_with (first | ((with_reducible refine gate_callee (f := 35) rfl ?_); refine goesL_ (some 99) rfl rfl Try.func35 (by kernel_rfl) rfl #[.int .i64 (wrap64 ((ji63) * 1000))] rfl (by (try simp only [List.map_toArray, List.map_cons, List.map_nil]); first | done | (simp only [hji63]; rfl) | rfl | (simp only [List.length_drop, List.length_take]; rfl)) ?_; (with_reducible refine (fixed_Root.calls kj52 (wrap64 ((ji63) * 1000)) t131 _ A64.out).mono ?_); rintro e w' ⟨rfl, ⟨nd, rfl⟩⟩; refine ⟨_, rfl, ?_⟩))
                                go_ret
                                exact ⟨by first | rfl | (simp [errW_none, errW_some] <;> rfl) | (simp only [← hji63]; first | rfl | (simp [errW_none, errW_some] <;> rfl)) | (simp [*, errW_none, errW_some] <;> rfl), by repeat (first | (with_reducible first | exact HB.out | apply below_alloc | apply pw_below_drewN | apply below_drew1) | exact HB.out)⟩
                            · rw [if_neg c65] at H
                              have c65b0 : decide (0 ≤ t131) = false := decide_eq_false c65
                              clear c65
                              obtain rfl := Option.some.inj H
                              go_wp2_with (first | ((with_reducible refine gate_callee (f := 35) rfl ?_); refine goesL_ (some 99) rfl rfl Try.func35 (by kernel_rfl) rfl #[.int .i64 (wrap64 ((ji63) * 1000))] rfl (by (try simp only [List.map_toArray, List.map_cons, List.map_nil]); first | done | (simp only [hji63]; rfl) | rfl | (simp only [List.length_drop, List.length_take]; rfl)) ?_; (with_reducible refine (fixed_Root.calls kj52 (wrap64 ((ji63) * 1000)) t131 _ A64.out).mono ?_); rintro e w' ⟨rfl, ⟨nd, rfl⟩⟩; refine ⟨_, rfl, ?_⟩))
                              go_ret
                              exact ⟨by first | rfl | (simp [errW_none, errW_some] <;> rfl) | (simp only [← hji63]; first | rfl | (simp [errW_none, errW_some] <;> rfl)) | (simp [*, errW_none, errW_some] <;> rfl), by repeat (first | (with_reducible first | exact HB.out | apply below_alloc | apply pw_below_drewN | apply below_drew1) | exact HB.out)⟩
                      · rw [if_neg c60] at H
                        have c60b0 : decide ((Int.tmod t120 1073741824) < 0) = false := decide_eq_false c60
                        clear c60
                        obtain ⟨ji67, hji67⟩ : ∃ j_ : Int, (mx (Int.tmod t119 1073741824) (wrap64 (-(Int.tmod t119 1073741824)))) = j_ := ⟨_, rfl⟩
                        replace H : ((fixed_Root.f kj52 (wrap64 ((ji67) * 1000))).bind fun t132 => (if t132 ≥ 0 then (if (wrap64 (t132 * t132)) ≤ (wrap64 ((ji67) * 1000)) then (some (decide ((wrap64 ((wrap64 (t132 + 1)) * (wrap64 (t132 + 1)))) > (wrap64 ((ji67) * 1000))))) else (some false)) else (some false))) = some r := by first | (rw [hji67] at H; exact H) | (simp only [hji67] at H ⊢; exact H)
                        have hji67_ : (if (Int.tmod t119 1073741824) < (wrap64 (-(Int.tmod t119 1073741824))) then (wrap64 (-(Int.tmod t119 1073741824))) else (Int.tmod t119 1073741824)) = ji67 := hji67
                        replace H := Option.bind_eq_some_iff.mp H
                        obtain ⟨t132, A680, H⟩ := H
                        replace H : (if t132 ≥ 0 then (if (wrap64 (t132 * t132)) ≤ (wrap64 ((ji67) * 1000)) then (some (decide ((wrap64 ((wrap64 (t132 + 1)) * (wrap64 (t132 + 1)))) > (wrap64 ((ji67) * 1000))))) else (some false)) else (some false)) = some r := H
                        have A68 := Aside0.mk A680
                        clear A680
                        by_cases c69 : t132 ≥ 0
                        · rw [if_pos c69] at H
                          have c69b0 : decide (0 ≤ t132) = true := decide_eq_true c69
                          clear c69
                          by_cases c70 : (wrap64 (t132 * t132)) ≤ (wrap64 ((ji67) * 1000))
                          · rw [if_pos c70] at H
                            have c70b0 : decide ((wrap64 (t132 * t132)) ≤ (wrap64 ((ji67) * 1000))) = true := decide_eq_true c70
                            clear c70
                            obtain rfl := Option.some.inj H
                            go_wp2_with (first | ((with_reducible refine gate_callee (f := 35) rfl ?_); refine goesL_ (some 99) rfl rfl Try.func35 (by kernel_rfl) rfl #[.int .i64 (wrap64 ((ji67) * 1000))] rfl (by (try simp only [List.map_toArray, List.map_cons, List.map_nil]); first | done | (simp only [hji67]; rfl) | rfl | (simp only [List.length_drop, List.length_take]; rfl)) ?_; (with_reducible refine (fixed_Root.calls kj52 (wrap64 ((ji67) * 1000)) t132 _ A68.out).mono ?_); rintro e w' ⟨rfl, ⟨nd, rfl⟩⟩; refine ⟨_, rfl, ?_⟩))
                            go_ret
                            exact ⟨by first | rfl | (simp [errW_none, errW_some] <;> rfl) | (simp only [← hji67]; first | rfl | (simp [errW_none, errW_some] <;> rfl)) | (simp [*, errW_none, errW_some] <;> rfl), by repeat (first | (with_reducible first | exact HB.out | apply below_alloc | apply pw_below_drewN | apply below_drew1) | exact HB.out)⟩
                          · rw [if_neg c70] at H
                            have c70b0 : decide ((wrap64 (t132 * t132)) ≤ (wrap64 ((ji67) * 1000))) = false := decide_eq_false c70
                            clear c70
                            obtain rfl := Option.some.inj H
                            go_wp2_with (first | ((with_reducible refine gate_callee (f := 35) rfl ?_); refine goesL_ (some 99) rfl rfl Try.func35 (by kernel_rfl) rfl #[.int .i64 (wrap64 ((ji67) * 1000))] rfl (by (try simp only [List.map_toArray, List.map_cons, List.map_nil]); first | done | (simp only [hji67]; rfl) | rfl | (simp only [List.length_drop, List.length_take]; rfl)) ?_; (with_reducible refine (fixed_Root.calls kj52 (wrap64 ((ji67) * 1000)) t132 _ A68.out).mono ?_); rintro e w' ⟨rfl, ⟨nd, rfl⟩⟩; refine ⟨_, rfl, ?_⟩))
                            go_ret
                            exact ⟨by first | rfl | (simp [errW_none, errW_some] <;> rfl) | (simp only [← hji67]; first | rfl | (simp [errW_none, errW_some] <;> rfl)) | (simp [*, errW_none, errW_some] <;> rfl), by repeat (first | (with_reducible first | exact HB.out | apply below_alloc | apply pw_below_drewN | apply below_drew1) | exact HB.out)⟩
                        · rw [if_neg c69] at H
                          have c69b0 : decide (0 ≤ t132) = false := decide_eq_false c69
                          clear c69
                          obtain rfl := Option.some.inj H
                          go_wp2_with (first | ((with_reducible refine gate_callee (f := 35) rfl ?_); refine goesL_ (some 99) rfl rfl Try.func35 (by kernel_rfl) rfl #[.int .i64 (wrap64 ((ji67) * 1000))] rfl (by (try simp only [List.map_toArray, List.map_cons, List.map_nil]); first | done | (simp only [hji67]; rfl) | rfl | (simp only [List.length_drop, List.length_take]; rfl)) ?_; (with_reducible refine (fixed_Root.calls kj52 (wrap64 ((ji67) * 1000)) t132 _ A68.out).mono ?_); rintro e w' ⟨rfl, ⟨nd, rfl⟩⟩; refine ⟨_, rfl, ?_⟩))
                          go_ret
                          exact ⟨by first | rfl | (simp [errW_none, errW_some] <;> rfl) | (simp only [← hji67]; first | rfl | (simp [errW_none, errW_some] <;> rfl)) | (simp [*, errW_none, errW_some] <;> rfl), by repeat (first | (with_reducible first | exact HB.out | apply below_alloc | apply pw_below_drewN | apply below_drew1) | exact HB.out)⟩
                · rw [if_neg c57] at H
                  have c57b0 : decide (0 < (Int.tmod t120 1073741824)) = false := decide_eq_false c57
                  clear c57
                  by_cases c71 : (Int.tmod t120 1073741824) < 0
                  · rw [if_pos c71] at H
                    have c71b0 : decide ((Int.tmod t120 1073741824) < 0) = true := decide_eq_true c71
                    clear c71
                    by_cases c72 : (wrap64 ((wrap64 ((Int.tmod t119 1073741824) * 65536)) - (wrap64 (t130 * (Int.tmod t120 1073741824))))) > 0
                    · rw [if_pos c72] at H
                      have c72b0 : decide (0 < (wrap64 ((wrap64 ((Int.tmod t119 1073741824) * 65536)) - (wrap64 (t130 * (Int.tmod t120 1073741824)))))) = true := decide_eq_true c72
                      clear c72
                      obtain rfl := Option.some.inj H
                      go_wp2
                      go_ret
                      exact ⟨by first | rfl | (simp [errW_none, errW_some] <;> rfl) | (simp [*, errW_none, errW_some] <;> rfl), by repeat (first | (with_reducible first | exact HB.out | apply below_alloc | apply pw_below_drewN | apply below_drew1) | exact HB.out)⟩
                    · rw [if_neg c72] at H
                      have c72b0 : decide (0 < (wrap64 ((wrap64 ((Int.tmod t119 1073741824) * 65536)) - (wrap64 (t130 * (Int.tmod t120 1073741824)))))) = false := decide_eq_false c72
                      clear c72
                      by_cases c73 : (wrap64 ((wrap64 ((Int.tmod t119 1073741824) * 65536)) - (wrap64 (t130 * (Int.tmod t120 1073741824))))) ≤ (Int.tmod t120 1073741824)
                      · rw [if_pos c73] at H
                        have c73b0 : decide ((wrap64 ((wrap64 ((Int.tmod t119 1073741824) * 65536)) - (wrap64 (t130 * (Int.tmod t120 1073741824))))) ≤ (Int.tmod t120 1073741824)) = true := decide_eq_true c73
                        clear c73
                        obtain rfl := Option.some.inj H
                        go_wp2
                        go_ret
                        exact ⟨by first | rfl | (simp [errW_none, errW_some] <;> rfl) | (simp [*, errW_none, errW_some] <;> rfl), by repeat (first | (with_reducible first | exact HB.out | apply below_alloc | apply pw_below_drewN | apply below_drew1) | exact HB.out)⟩
                      · rw [if_neg c73] at H
                        have c73b0 : decide ((wrap64 ((wrap64 ((Int.tmod t119 1073741824) * 65536)) - (wrap64 (t130 * (Int.tmod t120 1073741824))))) ≤ (Int.tmod t120 1073741824)) = false := decide_eq_false c73
                        clear c73
                        obtain ⟨ji74, hji74⟩ : ∃ j_ : Int, (mx (Int.tmod t119 1073741824) (wrap64 (-(Int.tmod t119 1073741824)))) = j_ := ⟨_, rfl⟩
                        replace H : ((fixed_Root.f kj52 (wrap64 ((ji74) * 1000))).bind fun t133 => (if t133 ≥ 0 then (if (wrap64 (t133 * t133)) ≤ (wrap64 ((ji74) * 1000)) then (some (decide ((wrap64 ((wrap64 (t133 + 1)) * (wrap64 (t133 + 1)))) > (wrap64 ((ji74) * 1000))))) else (some false)) else (some false))) = some r := by first | (rw [hji74] at H; exact H) | (simp only [hji74] at H ⊢; exact H)
                        have hji74_ : (if (Int.tmod t119 1073741824) < (wrap64 (-(Int.tmod t119 1073741824))) then (wrap64 (-(Int.tmod t119 1073741824))) else (Int.tmod t119 1073741824)) = ji74 := hji74
                        replace H := Option.bind_eq_some_iff.mp H
                        obtain ⟨t133, A750, H⟩ := H
                        replace H : (if t133 ≥ 0 then (if (wrap64 (t133 * t133)) ≤ (wrap64 ((ji74) * 1000)) then (some (decide ((wrap64 ((wrap64 (t133 + 1)) * (wrap64 (t133 + 1)))) > (wrap64 ((ji74) * 1000))))) else (some false)) else (some false)) = some r := H
                        have A75 := Aside0.mk A750
                        clear A750
                        by_cases c76 : t133 ≥ 0
                        · rw [if_pos c76] at H
                          have c76b0 : decide (0 ≤ t133) = true := decide_eq_true c76
                          clear c76
                          by_cases c77 : (wrap64 (t133 * t133)) ≤ (wrap64 ((ji74) * 1000))
                          · rw [if_pos c77] at H
                            have c77b0 : decide ((wrap64 (t133 * t133)) ≤ (wrap64 ((ji74) * 1000))) = true := decide_eq_true c77
                            clear c77
                            obtain rfl := Option.some.inj H
                            go_wp2_with (first | ((with_reducible refine gate_callee (f := 35) rfl ?_); refine goesL_ (some 99) rfl rfl Try.func35 (by kernel_rfl) rfl #[.int .i64 (wrap64 ((ji74) * 1000))] rfl (by (try simp only [List.map_toArray, List.map_cons, List.map_nil]); first | done | (simp only [hji74]; rfl) | rfl | (simp only [List.length_drop, List.length_take]; rfl)) ?_; (with_reducible refine (fixed_Root.calls kj52 (wrap64 ((ji74) * 1000)) t133 _ A75.out).mono ?_); rintro e w' ⟨rfl, ⟨nd, rfl⟩⟩; refine ⟨_, rfl, ?_⟩))
                            go_ret
                            exact ⟨by first | rfl | (simp [errW_none, errW_some] <;> rfl) | (simp only [← hji74]; first | rfl | (simp [errW_none, errW_some] <;> rfl)) | (simp [*, errW_none, errW_some] <;> rfl), by repeat (first | (with_reducible first | exact HB.out | apply below_alloc | apply pw_below_drewN | apply below_drew1) | exact HB.out)⟩
                          · rw [if_neg c77] at H
                            have c77b0 : decide ((wrap64 (t133 * t133)) ≤ (wrap64 ((ji74) * 1000))) = false := decide_eq_false c77
                            clear c77
                            obtain rfl := Option.some.inj H
                            go_wp2_with (first | ((with_reducible refine gate_callee (f := 35) rfl ?_); refine goesL_ (some 99) rfl rfl Try.func35 (by kernel_rfl) rfl #[.int .i64 (wrap64 ((ji74) * 1000))] rfl (by (try simp only [List.map_toArray, List.map_cons, List.map_nil]); first | done | (simp only [hji74]; rfl) | rfl | (simp only [List.length_drop, List.length_take]; rfl)) ?_; (with_reducible refine (fixed_Root.calls kj52 (wrap64 ((ji74) * 1000)) t133 _ A75.out).mono ?_); rintro e w' ⟨rfl, ⟨nd, rfl⟩⟩; refine ⟨_, rfl, ?_⟩))
                            go_ret
                            exact ⟨by first | rfl | (simp [errW_none, errW_some] <;> rfl) | (simp only [← hji74]; first | rfl | (simp [errW_none, errW_some] <;> rfl)) | (simp [*, errW_none, errW_some] <;> rfl), by repeat (first | (with_reducible first | exact HB.out | apply below_alloc | apply pw_below_drewN | apply below_drew1) | exact HB.out)⟩
                        · rw [if_neg c76] at H
                          have c76b0 : decide (0 ≤ t133) = false := decide_eq_false c76
                          clear c76
                          obtain rfl := Option.some.inj H
                          go_wp2_with (first | ((with_reducible refine gate_callee (f := 35) rfl ?_); refine goesL_ (some 99) rfl rfl Try.func35 (by kernel_rfl) rfl #[.int .i64 (wrap64 ((ji74) * 1000))] rfl (by (try simp only [List.map_toArray, List.map_cons, List.map_nil]); first | done | (simp only [hji74]; rfl) | rfl | (simp only [List.length_drop, List.length_take]; rfl)) ?_; (with_reducible refine (fixed_Root.calls kj52 (wrap64 ((ji74) * 1000)) t133 _ A75.out).mono ?_); rintro e w' ⟨rfl, ⟨nd, rfl⟩⟩; refine ⟨_, rfl, ?_⟩))
                          go_ret
                          exact ⟨by first | rfl | (simp [errW_none, errW_some] <;> rfl) | (simp only [← hji74]; first | rfl | (simp [errW_none, errW_some] <;> rfl)) | (simp [*, errW_none, errW_some] <;> rfl), by repeat (first | (with_reducible first | exact HB.out | apply below_alloc | apply pw_below_drewN | apply below_drew1) | exact HB.out)⟩
                  · rw [if_neg c71] at H
                    have c71b0 : decide ((Int.tmod t120 1073741824) < 0) = false := decide_eq_false c71
                    clear c71
                    obtain ⟨ji78, hji78⟩ : ∃ j_ : Int, (mx (Int.tmod t119 1073741824) (wrap64 (-(Int.tmod t119 1073741824)))) = j_ := ⟨_, rfl⟩
                    replace H : ((fixed_Root.f kj52 (wrap64 ((ji78) * 1000))).bind fun t134 => (if t134 ≥ 0 then (if (wrap64 (t134 * t134)) ≤ (wrap64 ((ji78) * 1000)) then (some (decide ((wrap64 ((wrap64 (t134 + 1)) * (wrap64 (t134 + 1)))) > (wrap64 ((ji78) * 1000))))) else (some false)) else (some false))) = some r := by first | (rw [hji78] at H; exact H) | (simp only [hji78] at H ⊢; exact H)
                    have hji78_ : (if (Int.tmod t119 1073741824) < (wrap64 (-(Int.tmod t119 1073741824))) then (wrap64 (-(Int.tmod t119 1073741824))) else (Int.tmod t119 1073741824)) = ji78 := hji78
                    replace H := Option.bind_eq_some_iff.mp H
                    obtain ⟨t134, A790, H⟩ := H
                    replace H : (if t134 ≥ 0 then (if (wrap64 (t134 * t134)) ≤ (wrap64 ((ji78) * 1000)) then (some (decide ((wrap64 ((wrap64 (t134 + 1)) * (wrap64 (t134 + 1)))) > (wrap64 ((ji78) * 1000))))) else (some false)) else (some false)) = some r := H
                    have A79 := Aside0.mk A790
                    clear A790
                    by_cases c80 : t134 ≥ 0
                    · rw [if_pos c80] at H
                      have c80b0 : decide (0 ≤ t134) = true := decide_eq_true c80
                      clear c80
                      by_cases c81 : (wrap64 (t134 * t134)) ≤ (wrap64 ((ji78) * 1000))
                      · rw [if_pos c81] at H
                        have c81b0 : decide ((wrap64 (t134 * t134)) ≤ (wrap64 ((ji78) * 1000))) = true := decide_eq_true c81
                        clear c81
                        obtain rfl := Option.some.inj H
                        go_wp2_with (first | ((with_reducible refine gate_callee (f := 35) rfl ?_); refine goesL_ (some 99) rfl rfl Try.func35 (by kernel_rfl) rfl #[.int .i64 (wrap64 ((ji78) * 1000))] rfl (by (try simp only [List.map_toArray, List.map_cons, List.map_nil]); first | done | (simp only [hji78]; rfl) | rfl | (simp only [List.length_drop, List.length_take]; rfl)) ?_; (with_reducible refine (fixed_Root.calls kj52 (wrap64 ((ji78) * 1000)) t134 _ A79.out).mono ?_); rintro e w' ⟨rfl, ⟨nd, rfl⟩⟩; refine ⟨_, rfl, ?_⟩))
                        go_ret
                        exact ⟨by first | rfl | (simp [errW_none, errW_some] <;> rfl) | (simp only [← hji78]; first | rfl | (simp [errW_none, errW_some] <;> rfl)) | (simp [*, errW_none, errW_some] <;> rfl), by repeat (first | (with_reducible first | exact HB.out | apply below_alloc | apply pw_below_drewN | apply below_drew1) | exact HB.out)⟩
                      · rw [if_neg c81] at H
                        have c81b0 : decide ((wrap64 (t134 * t134)) ≤ (wrap64 ((ji78) * 1000))) = false := decide_eq_false c81
                        clear c81
                        obtain rfl := Option.some.inj H
                        go_wp2_with (first | ((with_reducible refine gate_callee (f := 35) rfl ?_); refine goesL_ (some 99) rfl rfl Try.func35 (by kernel_rfl) rfl #[.int .i64 (wrap64 ((ji78) * 1000))] rfl (by (try simp only [List.map_toArray, List.map_cons, List.map_nil]); first | done | (simp only [hji78]; rfl) | rfl | (simp only [List.length_drop, List.length_take]; rfl)) ?_; (with_reducible refine (fixed_Root.calls kj52 (wrap64 ((ji78) * 1000)) t134 _ A79.out).mono ?_); rintro e w' ⟨rfl, ⟨nd, rfl⟩⟩; refine ⟨_, rfl, ?_⟩))
                        go_ret
                        exact ⟨by first | rfl | (simp [errW_none, errW_some] <;> rfl) | (simp only [← hji78]; first | rfl | (simp [errW_none, errW_some] <;> rfl)) | (simp [*, errW_none, errW_some] <;> rfl), by repeat (first | (with_reducible first | exact HB.out | apply below_alloc | apply pw_below_drewN | apply below_drew1) | exact HB.out)⟩
                    · rw [if_neg c80] at H
                      have c80b0 : decide (0 ≤ t134) = false := decide_eq_false c80
                      clear c80
                      obtain rfl := Option.some.inj H
                      go_wp2_with (first | ((with_reducible refine gate_callee (f := 35) rfl ?_); refine goesL_ (some 99) rfl rfl Try.func35 (by kernel_rfl) rfl #[.int .i64 (wrap64 ((ji78) * 1000))] rfl (by (try simp only [List.map_toArray, List.map_cons, List.map_nil]); first | done | (simp only [hji78]; rfl) | rfl | (simp only [List.length_drop, List.length_take]; rfl)) ?_; (with_reducible refine (fixed_Root.calls kj52 (wrap64 ((ji78) * 1000)) t134 _ A79.out).mono ?_); rintro e w' ⟨rfl, ⟨nd, rfl⟩⟩; refine ⟨_, rfl, ?_⟩))
                      go_ret
                      exact ⟨by first | rfl | (simp [errW_none, errW_some] <;> rfl) | (simp only [← hji78]; first | rfl | (simp [errW_none, errW_some] <;> rfl)) | (simp [*, errW_none, errW_some] <;> rfl), by repeat (first | (with_reducible first | exact HB.out | apply below_alloc | apply pw_below_drewN | apply below_drew1) | exact HB.out)⟩
              · replace c56 := Bool.eq_false_iff.mpr c56
                subst c56
                have H1 : ((fixed_Root.f kj52 (wrap64 ((mx (Int.tmod t119 1073741824) (wrap64 (-(Int.tmod t119 1073741824)))) * 1000))).bind fun t135 => (if t135 ≥ 0 then (if (wrap64 (t135 * t135)) ≤ (wrap64 ((mx (Int.tmod t119 1073741824) (wrap64 (-(Int.tmod t119 1073741824)))) * 1000)) then (some (decide ((wrap64 ((wrap64 (t135 + 1)) * (wrap64 (t135 + 1)))) > (wrap64 ((mx (Int.tmod t119 1073741824) (wrap64 (-(Int.tmod t119 1073741824)))) * 1000))))) else (some false)) else (some false))) = some r := by rw [if_neg (show ¬ (false = true) by decide)] at H; exact H
                clear H
                have H := H1
                clear H1
                obtain ⟨ji82, hji82⟩ : ∃ j_ : Int, (mx (Int.tmod t119 1073741824) (wrap64 (-(Int.tmod t119 1073741824)))) = j_ := ⟨_, rfl⟩
                replace H : ((fixed_Root.f kj52 (wrap64 ((ji82) * 1000))).bind fun t135 => (if t135 ≥ 0 then (if (wrap64 (t135 * t135)) ≤ (wrap64 ((ji82) * 1000)) then (some (decide ((wrap64 ((wrap64 (t135 + 1)) * (wrap64 (t135 + 1)))) > (wrap64 ((ji82) * 1000))))) else (some false)) else (some false))) = some r := by first | (rw [hji82] at H; exact H) | (simp only [hji82] at H ⊢; exact H)
                have hji82_ : (if (Int.tmod t119 1073741824) < (wrap64 (-(Int.tmod t119 1073741824))) then (wrap64 (-(Int.tmod t119 1073741824))) else (Int.tmod t119 1073741824)) = ji82 := hji82
                replace H := Option.bind_eq_some_iff.mp H
                obtain ⟨t135, A830, H⟩ := H
                replace H : (if t135 ≥ 0 then (if (wrap64 (t135 * t135)) ≤ (wrap64 ((ji82) * 1000)) then (some (decide ((wrap64 ((wrap64 (t135 + 1)) * (wrap64 (t135 + 1)))) > (wrap64 ((ji82) * 1000))))) else (some false)) else (some false)) = some r := H
                have A83 := Aside0.mk A830
                clear A830
                by_cases c84 : t135 ≥ 0
                · rw [if_pos c84] at H
                  have c84b0 : decide (0 ≤ t135) = true := decide_eq_true c84
                  clear c84
                  by_cases c85 : (wrap64 (t135 * t135)) ≤ (wrap64 ((ji82) * 1000))
                  · rw [if_pos c85] at H
                    have c85b0 : decide ((wrap64 (t135 * t135)) ≤ (wrap64 ((ji82) * 1000))) = true := decide_eq_true c85
                    clear c85
                    obtain rfl := Option.some.inj H
                    go_wp2_with (first | ((with_reducible refine gate_callee (f := 35) rfl ?_); refine goesL_ (some 99) rfl rfl Try.func35 (by kernel_rfl) rfl #[.int .i64 (wrap64 ((ji82) * 1000))] rfl (by (try simp only [List.map_toArray, List.map_cons, List.map_nil]); first | done | (simp only [hji82]; rfl) | rfl | (simp only [List.length_drop, List.length_take]; rfl)) ?_; (with_reducible refine (fixed_Root.calls kj52 (wrap64 ((ji82) * 1000)) t135 _ A83.out).mono ?_); rintro e w' ⟨rfl, ⟨nd, rfl⟩⟩; refine ⟨_, rfl, ?_⟩))
                    go_ret
                    exact ⟨by first | rfl | (simp [errW_none, errW_some] <;> rfl) | (simp only [← hji82]; first | rfl | (simp [errW_none, errW_some] <;> rfl)) | (simp [*, errW_none, errW_some] <;> rfl), by repeat (first | (with_reducible first | exact HB.out | apply below_alloc | apply pw_below_drewN | apply below_drew1) | exact HB.out)⟩
                  · rw [if_neg c85] at H
                    have c85b0 : decide ((wrap64 (t135 * t135)) ≤ (wrap64 ((ji82) * 1000))) = false := decide_eq_false c85
                    clear c85
                    obtain rfl := Option.some.inj H
                    go_wp2_with (first | ((with_reducible refine gate_callee (f := 35) rfl ?_); refine goesL_ (some 99) rfl rfl Try.func35 (by kernel_rfl) rfl #[.int .i64 (wrap64 ((ji82) * 1000))] rfl (by (try simp only [List.map_toArray, List.map_cons, List.map_nil]); first | done | (simp only [hji82]; rfl) | rfl | (simp only [List.length_drop, List.length_take]; rfl)) ?_; (with_reducible refine (fixed_Root.calls kj52 (wrap64 ((ji82) * 1000)) t135 _ A83.out).mono ?_); rintro e w' ⟨rfl, ⟨nd, rfl⟩⟩; refine ⟨_, rfl, ?_⟩))
                    go_ret
                    exact ⟨by first | rfl | (simp [errW_none, errW_some] <;> rfl) | (simp only [← hji82]; first | rfl | (simp [errW_none, errW_some] <;> rfl)) | (simp [*, errW_none, errW_some] <;> rfl), by repeat (first | (with_reducible first | exact HB.out | apply below_alloc | apply pw_below_drewN | apply below_drew1) | exact HB.out)⟩
                · rw [if_neg c84] at H
                  have c84b0 : decide (0 ≤ t135) = false := decide_eq_false c84
                  clear c84
                  obtain rfl := Option.some.inj H
                  go_wp2_with (first | ((with_reducible refine gate_callee (f := 35) rfl ?_); refine goesL_ (some 99) rfl rfl Try.func35 (by kernel_rfl) rfl #[.int .i64 (wrap64 ((ji82) * 1000))] rfl (by (try simp only [List.map_toArray, List.map_cons, List.map_nil]); first | done | (simp only [hji82]; rfl) | rfl | (simp only [List.length_drop, List.length_take]; rfl)) ?_; (with_reducible refine (fixed_Root.calls kj52 (wrap64 ((ji82) * 1000)) t135 _ A83.out).mono ?_); rintro e w' ⟨rfl, ⟨nd, rfl⟩⟩; refine ⟨_, rfl, ?_⟩))
                  go_ret
                  exact ⟨by first | rfl | (simp [errW_none, errW_some] <;> rfl) | (simp only [← hji82]; first | rfl | (simp [errW_none, errW_some] <;> rfl)) | (simp [*, errW_none, errW_some] <;> rfl), by repeat (first | (with_reducible first | exact HB.out | apply below_alloc | apply pw_below_drewN | apply below_drew1) | exact HB.out)⟩

/-- THE ONE PURE STATEMENT of versallaw3_FixedLaws: yours. -/
def versallaw3_FixedLaws.Pure : Prop := ∀ (a0 : Int) (a1 : Int), (Lit.int .i64 a0).wf = true → (Lit.int .i64 a1).wf = true → ∃ k, versallaw3_FixedLaws.f k a0 a1 = some true
theorem versallaw3_FixedLaws.walk (P : versallaw3_FixedLaws.Pure) (a0 : Int) (a1 : Int) (w : World) (w0 : (Lit.int .i64 a0).wf = true) (w1 : (Lit.int .i64 a1).wf = true) :
    Calls Try.prog 8 #[.int .i64 a0, .int .i64 a1] w fun e w' => e = .returned (.bool true) ∧ Below w.heap.size w w' := by
  obtain ⟨k, h⟩ := P a0 a1 w0 w1
  refine (versallaw3_FixedLaws.calls k a0 a1 true w h).mono ?_
  rintro e w' ⟨rfl, hd⟩
  exact ⟨rfl, hd⟩

end Go.Proofs.Ytkeacdpphmdodaa.PFixedLaws
