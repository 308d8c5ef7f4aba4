-- PRINTED BY print.sh 35421559b90ae4d0a3588c463048766b98c2df88dd9212a6774a882060cdf62d: not written by this session
import Derived.Test.YtkagmelijdfdiaaPCoverBoxesx0
import Derived.Test.YtkagmelijdfdiaaPCoverBoxesx1
namespace Go.Proofs.Ytkagmelijdfdiaa.PCoverBoxes
open Go.RowKit Go.Proofs.YtkagmelijdfdiaaW.PrintWords Go.Proofs.YtkagmelijdfdiaaW.PrintLast Go.Proofs.YtkagmelijdfdiaaW.PrintMore
attribute [local go_sem] max2_int min2_int max_two min_two max_three min_three max_four min_four   -- for this text's walks alone
set_option linter.unusedVariables false
set_option linter.unusedSimpArgs false

/-! ### versallaw18_known: function 15 -/
def versallaw18_known.f (k : Nat)  : Option (Bool) := (versallaw18_box.f 8 16 8 8).bind fun t121 => ((cover_Mask.f k t121 0 0 3 4).bind fun t124 => (if (strOfNums t124).toList = ([0, 0, 0, 0, 0, 0, 0, 255, 0, 0, 0, 0] : List UInt8) then ((versallaw18_box.f 0 0 8 8).bind fun t127 => ((cover_Winding.f k t127 100 100).bind fun t130 => (some (t130 != 0)))) else (some false)))
theorem versallaw18_known.mono : ∀ k, LeO (versallaw18_known.f k ) (versallaw18_known.f (k + 1) ) := by
  intro  k
  unfold versallaw18_known.f
  repeat' first
      | (with_reducible exact cover_Mask.mono _ _ _ _ _ _)
      | (with_reducible exact cover_Winding.mono _ _ _ _)
      | (with_reducible exact LeO.refl _)
      | (with_reducible exact LeO.none _)
      | (with_reducible refine LeO.ite ?_ ?_)
      | (with_reducible refine LeO.bind ?_ (fun _ => ?_))
      | exact cover_Mask.mono _ _ _ _ _ _
      | exact cover_Winding.mono _ _ _ _
      | exact LeO.none _
      | refine LeO.ite ?_ ?_
      | refine LeO.bind ?_ (fun _ => ?_)
set_option maxHeartbeats 8000000 in
set_option maxRecDepth 100000 in
theorem versallaw18_known.calls (k : Nat)  (r : Bool) (w : World) (h : versallaw18_known.f k  = some r) :
    Calls Try.prog 15 #[] w fun e w' => e = .returned (.bool r) ∧ Below w.heap.size w w' := by
  have HB := Aside0.mk (Below.refl w.heap.size w)
  have H : ((versallaw18_box.f 8 16 8 8).bind fun t121 => ((cover_Mask.f k t121 0 0 3 4).bind fun t124 => (if (strOfNums t124).toList = ([0, 0, 0, 0, 0, 0, 0, 255, 0, 0, 0, 0] : List UInt8) then ((versallaw18_box.f 0 0 8 8).bind fun t127 => ((cover_Winding.f k t127 100 100).bind fun t130 => (some (t130 != 0)))) else (some false)))) = some r := h
  clear h
  replace H := Option.bind_eq_some_iff.mp H
  obtain ⟨t121, A10, H⟩ := H
  replace H : ((cover_Mask.f k t121 0 0 3 4).bind fun t124 => (if (strOfNums t124).toList = ([0, 0, 0, 0, 0, 0, 0, 255, 0, 0, 0, 0] : List UInt8) then ((versallaw18_box.f 0 0 8 8).bind fun t127 => ((cover_Winding.f k t127 100 100).bind fun t130 => (some (t130 != 0)))) else (some false))) = some r := H
  have A1 := Aside0.mk A10
  clear A10
  replace H := Option.bind_eq_some_iff.mp H
  obtain ⟨t124, A20, H⟩ := H
  replace H : (if (strOfNums t124).toList = ([0, 0, 0, 0, 0, 0, 0, 255, 0, 0, 0, 0] : List UInt8) then ((versallaw18_box.f 0 0 8 8).bind fun t127 => ((cover_Winding.f k t127 100 100).bind fun t130 => (some (t130 != 0)))) else (some false)) = some r := H
  have A2 := Aside0.mk A20
  clear A20
  by_cases c3 : (strOfNums t124).toList = ([0, 0, 0, 0, 0, 0, 0, 255, 0, 0, 0, 0] : List UInt8)
  · rw [if_pos c3] at H
    have c3b0 : ((strOfNums t124).toList == ([0, 0, 0, 0, 0, 0, 0, 255, 0, 0, 0, 0] : List UInt8)) = true := beq_iff_eq.mpr c3
    have c3b1 : ((strOfNums t124).toList != ([0, 0, 0, 0, 0, 0, 0, 255, 0, 0, 0, 0] : List UInt8)) = false := bne_eq_false_iff_eq.mpr c3
    clear c3
    replace H := Option.bind_eq_some_iff.mp H
    obtain ⟨t127, A40, H⟩ := H
    replace H : ((cover_Winding.f k t127 100 100).bind fun t130 => (some (t130 != 0))) = some r := H
    have A4 := Aside0.mk A40
    clear A40
    replace H := Option.bind_eq_some_iff.mp H
    obtain ⟨t130, A50, H⟩ := H
    replace H : (some (t130 != 0)) = some r := H
    have A5 := Aside0.mk A50
    clear A50
    obtain rfl := Option.some.inj H
    go_enter Try.func15, Try.ntmps15
    go_wp2_with (first | ((with_reducible refine gate_callee (f := 13) rfl ?_); refine goesL_ (some 2) rfl rfl Try.func13 (by kernel_rfl) rfl #[.int .i64 8, .int .i64 16, .int .i64 8, .int .i64 8] rfl (by (try simp only [List.map_toArray, List.map_cons, List.map_nil]); first | done | rfl | (simp only [List.length_drop, List.length_take]; rfl)) ?_; (with_reducible refine (versallaw18_box.calls 8 16 8 8 t121 _ A1.out).mono ?_); rintro e w6 ⟨v122, rfl, ho0, hb⟩; refine ⟨_, rfl, ?_⟩; have n0_ := Aside0.mk (Kd.R_lower ho0 (below_size (by repeat (first | (with_reducible first | exact HB.out | apply below_alloc | apply pw_below_drewN | apply below_drew1) | exact HB.out)))); have n1_ := Aside0.mk (below_step (by repeat (first | (with_reducible first | exact HB.out | apply below_alloc | apply pw_below_drewN | apply below_drew1) | exact HB.out)) hb); clear HB; have HO123 := n0_; have HB := n1_; clear n0_ n1_; (try clear hb); (try clear hb2); (try clear hk); (try clear hi); (try clear ho0); obtain ⟨Ao7, co7, eo7⟩ := Kd.R_slice HO123.out; subst eo7) | ((with_reducible refine gate_callee (f := 12) rfl ?_); refine goesL_ (some 3) rfl rfl Try.func12 (by kernel_rfl) rfl #[.slice Ao7 t121.length co7, .int .i64 0, .int .i64 0, .int .i64 3, .int .i64 4] rfl (by (try simp only [List.map_toArray, List.map_cons, List.map_nil]); first | done | rfl | (simp only [List.length_drop, List.length_take]; rfl)) ?_; (with_reducible refine (cover_Mask.calls k _ _ t121 0 0 3 4 t124 _ ?side1 ?side2 A2.out).mono ?_); (case side1 => repeat (first | exact (Kd.R_reads' HO123.out).2.2 | (with_reducible refine Kd.C_alloc ?_ _) | (with_reducible refine Kd.C_drewN ?_ _) | (with_reducible refine Kd.C_drew ?_))); (case side2 => exact (Kd.R_reads' HO123.out).2.1); rintro e w8 ⟨v125, rfl, ho0, hb⟩; refine ⟨_, rfl, ?_⟩; have n0_ := Aside0.mk (Kd.R_below (by (with_reducible repeat (first | apply Kd.R_alloc | apply Kd.R_drewN | apply Kd.R_drew)); exact HO123.out) hb); have n1_ := Aside0.mk (Kd.R_lower ho0 (below_size (by repeat (first | (with_reducible first | exact HB.out | apply below_alloc | apply pw_below_drewN | apply below_drew1) | exact HB.out)))); have n2_ := Aside0.mk (below_step (by repeat (first | (with_reducible first | exact HB.out | apply below_alloc | apply pw_below_drewN | apply below_drew1) | exact HB.out)) hb); clear HO123; clear HB; have HO123 := n0_; have HO126 := n1_; have HB := n2_; clear n0_ n1_ n2_; (try clear hb); (try clear hb2); (try clear hk); (try clear hi); (try clear ho0); have hcv9 := own_string (P := Try.prog) Try.underlying22 Try.underlying5 Try.underlying9 (Kd.own_of_R HO126.out)) | (go_at_call 13; (with_reducible refine (versallaw18_box.calls 0 0 8 8 t127 _ A4.out).mono ?_); rintro e w10 ⟨v128, rfl, ho0, hb⟩; have n0_ := Aside0.mk (Kd.R_elder' (by (with_reducible repeat (first | apply Kd.R_alloc | apply Kd.R_drewN | apply Kd.R_drew)); exact HO123.out) (Kd.R_base ho0) hb); have n1_ := Aside0.mk (Kd.R_below (by (with_reducible repeat (first | apply Kd.R_alloc | apply Kd.R_drewN | apply Kd.R_drew)); exact HO126.out) hb); have n2_ := Aside0.mk (Kd.R_lower (Kd.R_new' ho0 (Kd.R_lt (by (with_reducible repeat (first | apply Kd.R_alloc | apply Kd.R_drewN | apply Kd.R_drew)); exact HO123.out))) (below_size (by repeat (first | (with_reducible first | exact HB.out | apply below_alloc | apply pw_below_drewN | apply below_drew1) | exact HB.out)))); have n3_ := Aside0.mk (below_step (by repeat (first | (with_reducible first | exact HB.out | apply below_alloc | apply pw_below_drewN | apply below_drew1) | exact HB.out)) hb); clear HO123; clear HO126; clear HB; have HO123 := n0_; have HO126 := n1_; have HO129 := n2_; have HB := n3_; clear n0_ n1_ n2_ n3_; (try clear hb); (try clear hb2); (try clear hk); (try clear hi); (try clear ho0); obtain ⟨Ao11, co11, eo11⟩ := Kd.R_slice HO129.out; subst eo11) | (go_at_call 14; (with_reducible refine (cover_Winding.calls k _ _ t127 100 100 t130 _ ?side1 ?side2 A5.out).mono ?_); (case side1 => repeat (first | exact (Kd.R_reads' HO129.out).2.2 | (with_reducible refine Kd.C_alloc ?_ _) | (with_reducible refine Kd.C_drewN ?_ _) | (with_reducible refine Kd.C_drew ?_))); (case side2 => exact (Kd.R_reads' HO129.out).2.1); rintro e w12 ⟨rfl, hb⟩; have n0_ := Aside0.mk (Kd.R_below (by (with_reducible repeat (first | apply Kd.R_alloc | apply Kd.R_drewN | apply Kd.R_drew)); exact HO123.out) hb); have n1_ := Aside0.mk (Kd.R_below (by (with_reducible repeat (first | apply Kd.R_alloc | apply Kd.R_drewN | apply Kd.R_drew)); exact HO126.out) hb); have n2_ := Aside0.mk (Kd.R_below (by (with_reducible repeat (first | apply Kd.R_alloc | apply Kd.R_drewN | apply Kd.R_drew)); exact HO129.out) hb); have n3_ := Aside0.mk (below_step (by repeat (first | (with_reducible first | exact HB.out | apply below_alloc | apply pw_below_drewN | apply below_drew1) | exact HB.out)) hb); clear HO123; clear HO126; clear HO129; clear HB; have HO123 := n0_; have HO126 := n1_; have HO129 := n2_; have HB := n3_; clear n0_ n1_ n2_ n3_; (try clear hb); (try clear hb2); (try clear hk); (try clear hi)))
    go_ret
    exact ⟨by first | rfl | (simp [errW_none, errW_some] <;> rfl) | (simp [*, errW_none, errW_some] <;> rfl), by repeat (first | (with_reducible first | exact HB.out | apply below_alloc | apply pw_below_drewN | apply below_drew1) | exact HB.out)⟩
  · rw [if_neg c3] at H
    have c3b0 : ((strOfNums t124).toList == ([0, 0, 0, 0, 0, 0, 0, 255, 0, 0, 0, 0] : List UInt8)) = false := beq_eq_false_iff_ne.mpr c3
    have c3b1 : ((strOfNums t124).toList != ([0, 0, 0, 0, 0, 0, 0, 255, 0, 0, 0, 0] : List UInt8)) = true := bne_iff_ne.mpr c3
    obtain rfl := Option.some.inj H
    go_enter Try.func15, Try.ntmps15
    go_wp2_with (first | ((with_reducible refine gate_callee (f := 13) rfl ?_); refine goesL_ (some 2) rfl rfl Try.func13 (by kernel_rfl) rfl #[.int .i64 8, .int .i64 16, .int .i64 8, .int .i64 8] rfl (by (try simp only [List.map_toArray, List.map_cons, List.map_nil]); first | done | rfl | (simp only [List.length_drop, List.length_take]; rfl)) ?_; (with_reducible refine (versallaw18_box.calls 8 16 8 8 t121 _ A1.out).mono ?_); rintro e w13 ⟨v122, rfl, ho0, hb⟩; refine ⟨_, rfl, ?_⟩; have n0_ := Aside0.mk (Kd.R_lower ho0 (below_size (by repeat (first | (with_reducible first | exact HB.out | apply below_alloc | apply pw_below_drewN | apply below_drew1) | exact HB.out)))); have n1_ := Aside0.mk (below_step (by repeat (first | (with_reducible first | exact HB.out | apply below_alloc | apply pw_below_drewN | apply below_drew1) | exact HB.out)) hb); clear HB; have HO123 := n0_; have HB := n1_; clear n0_ n1_; (try clear hb); (try clear hb2); (try clear hk); (try clear hi); (try clear ho0); obtain ⟨Ao14, co14, eo14⟩ := Kd.R_slice HO123.out; subst eo14) | ((with_reducible refine gate_callee (f := 12) rfl ?_); refine goesL_ (some 3) rfl rfl Try.func12 (by kernel_rfl) rfl #[.slice Ao14 t121.length co14, .int .i64 0, .int .i64 0, .int .i64 3, .int .i64 4] rfl (by (try simp only [List.map_toArray, List.map_cons, List.map_nil]); first | done | rfl | (simp only [List.length_drop, List.length_take]; rfl)) ?_; (with_reducible refine (cover_Mask.calls k _ _ t121 0 0 3 4 t124 _ ?side1 ?side2 A2.out).mono ?_); (case side1 => repeat (first | exact (Kd.R_reads' HO123.out).2.2 | (with_reducible refine Kd.C_alloc ?_ _) | (with_reducible refine Kd.C_drewN ?_ _) | (with_reducible refine Kd.C_drew ?_))); (case side2 => exact (Kd.R_reads' HO123.out).2.1); rintro e w15 ⟨v125, rfl, ho0, hb⟩; refine ⟨_, rfl, ?_⟩; have n0_ := Aside0.mk (Kd.R_below (by (with_reducible repeat (first | apply Kd.R_alloc | apply Kd.R_drewN | apply Kd.R_drew)); exact HO123.out) hb); have n1_ := Aside0.mk (Kd.R_lower ho0 (below_size (by repeat (first | (with_reducible first | exact HB.out | apply below_alloc | apply pw_below_drewN | apply below_drew1) | exact HB.out)))); have n2_ := Aside0.mk (below_step (by repeat (first | (with_reducible first | exact HB.out | apply below_alloc | apply pw_below_drewN | apply below_drew1) | exact HB.out)) hb); clear HO123; clear HB; have HO123 := n0_; have HO126 := n1_; have HB := n2_; clear n0_ n1_ n2_; (try clear hb); (try clear hb2); (try clear hk); (try clear hi); (try clear ho0); have hcv16 := own_string (P := Try.prog) Try.underlying22 Try.underlying5 Try.underlying9 (Kd.own_of_R HO126.out)))
    go_ret
    exact ⟨by first | rfl | (simp [errW_none, errW_some] <;> rfl) | (simp [*, errW_none, errW_some] <;> rfl), by repeat (first | (with_reducible first | exact HB.out | apply below_alloc | apply pw_below_drewN | apply below_drew1) | exact HB.out)⟩

/-! ### versalhand_Pick: function 17 -/
def versalhand_Pick.f (a0 : Int) (a1 : Int) : Option (Int) := if a1 = 0 then (none) else (if (Int.tmod a0 a1) < 0 then (some (wrap64 ((Int.tmod a0 a1) + a1))) else (some (Int.tmod a0 a1)))
set_option maxHeartbeats 8000000 in
set_option maxRecDepth 100000 in
theorem versalhand_Pick.calls (a0 : Int) (a1 : Int) (r : Int) (w : World) (h : versalhand_Pick.f a0 a1 = some r) :
    Calls Try.prog 17 #[.int .i64 a0, .int .i64 a1] w fun e w' => e = .returned (.int .i64 r) ∧ Drawn0 w w' := by
  have H : (if a1 = 0 then (none) else (if (Int.tmod a0 a1) < 0 then (some (wrap64 ((Int.tmod a0 a1) + a1))) else (some (Int.tmod a0 a1)))) = some r := h
  clear h
  by_cases c3 : a1 = 0
  · rw [if_pos c3] at H
    exact absurd H (by simp)
  · rw [if_neg c3] at H
    have c3b0 : (a1 == 0) = false := beq_eq_false_iff_ne.mpr c3
    have c3b1 : (a1 != 0) = true := bne_iff_ne.mpr c3
    by_cases c4 : (Int.tmod a0 a1) < 0
    · rw [if_pos c4] at H
      have c4b0 : decide ((Int.tmod a0 a1) < 0) = true := decide_eq_true c4
      clear c4
      obtain rfl := Option.some.inj H
      go_enter Try.func17, Try.ntmps17
      go_wp2
      go_ret
      exact ⟨by first | rfl | (simp; done) | (simp [*]; done), by repeat (first | exact Drawn0.refl _ | apply Drawn0.step)⟩
    · rw [if_neg c4] at H
      have c4b0 : decide ((Int.tmod a0 a1) < 0) = false := decide_eq_false c4
      clear c4
      obtain rfl := Option.some.inj H
      go_enter Try.func17, Try.ntmps17
      go_wp2
      go_ret
      exact ⟨by first | rfl | (simp; done) | (simp [*]; done), by repeat (first | exact Drawn0.refl _ | apply Drawn0.step)⟩

/-! ### versallaw18_CoverBoxes: function 6 -/
mutual
def versallaw18_CoverBoxes.l0 : Nat → Int → Int → Int → Int → Int → Int → List Int → Int → Int → Option (Bool)
  | 0, _, _, _, _, _, _, _, _, _ => none
  | k + 1, x0, x1, x2, x3, x4, x5, x13, x14, x15 => if x15 < 4 then (versallaw18_CoverBoxes.l1 k x0 x1 x2 x3 x4 x5 x13 x14 x15 0) else ((versallaw18_known.f k).bind fun t143 => (if t143 = true then (if (x13.length : Int) = 1 then (if 0 < (x13.length : Int) then (versallaw18_CoverBoxes.j2 k x0 x1 x2 x3 x4 x5 ((wrap64 (rd x13 0)) != (wrap64 (Int.tdiv (wrap64 ((wrap64 (x14 * 255)) + 8)) 16)))) else (none)) else (versallaw18_CoverBoxes.j2 k x0 x1 x2 x3 x4 x5 true)) else (versallaw18_CoverBoxes.j2 k x0 x1 x2 x3 x4 x5 true)))
def versallaw18_CoverBoxes.l1 : Nat → Int → Int → Int → Int → Int → Int → List Int → Int → Int → Int → Option (Bool)
  | 0, _, _, _, _, _, _, _, _, _, _ => none
  | k + 1, x0, x1, x2, x3, x4, x5, x13, x14, x15, x16 => if x16 < 4 then (if (wrap64 ((wrap64 ((wrap64 (8 * x4)) + (wrap64 (2 * x16)))) + 1)) ≥ x0 then (if (wrap64 ((wrap64 ((wrap64 (8 * x4)) + (wrap64 (2 * x16)))) + 1)) < (wrap64 (x0 + x2)) then (if (wrap64 ((wrap64 ((wrap64 (8 * x5)) + (wrap64 (2 * x15)))) + 1)) ≥ x1 then (if (wrap64 ((wrap64 ((wrap64 (8 * x5)) + (wrap64 (2 * x15)))) + 1)) < (wrap64 (x1 + x3)) then (versallaw18_CoverBoxes.l1 k x0 x1 x2 x3 x4 x5 x13 (wrap64 (x14 + 1)) x15 (wrap64 (x16 + 1))) else (versallaw18_CoverBoxes.l1 k x0 x1 x2 x3 x4 x5 x13 x14 x15 (wrap64 (x16 + 1)))) else (versallaw18_CoverBoxes.l1 k x0 x1 x2 x3 x4 x5 x13 x14 x15 (wrap64 (x16 + 1)))) else (versallaw18_CoverBoxes.l1 k x0 x1 x2 x3 x4 x5 x13 x14 x15 (wrap64 (x16 + 1)))) else (versallaw18_CoverBoxes.l1 k x0 x1 x2 x3 x4 x5 x13 x14 x15 (wrap64 (x16 + 1)))) else (versallaw18_CoverBoxes.l0 k x0 x1 x2 x3 x4 x5 x13 x14 (wrap64 (x15 + 1)))
def versallaw18_CoverBoxes.j2 : Nat → Int → Int → Int → Int → Int → Int → Bool → Option (Bool)
  | 0, _, _, _, _, _, _, _ => none
  | k + 1, x0, x1, x2, x3, x4, x5, x110 => if x110 = true then (some false) else ((versallaw18_box.f x0 x1 x2 x3).bind fun t145 => ((versallaw18_box.f (wrap64 (x0 + x2)) x1 x2 x3).bind fun t148 => (if t145.length + t148.length < 4398046511104 then (versallaw18_CoverBoxes.l2 k x0 x1 x2 x3 x4 x5 (t145 ++ t148) 0) else (none))))
def versallaw18_CoverBoxes.l2 : Nat → Int → Int → Int → Int → Int → Int → List (S33) → Int → Option (Bool)
  | 0, _, _, _, _, _, _, _, _ => none
  | k + 1, x0, x1, x2, x3, x4, x5, x19, x20 => if x20 < 16 then ((cover_Winding.f k x19 (wrap64 ((wrap64 ((wrap64 ((wrap64 (8 * x4)) + (wrap64 (2 * (Int.tmod x20 4))))) + 1)) * 8192)) (wrap64 ((wrap64 ((wrap64 ((wrap64 (8 * x5)) + (wrap64 (2 * (wrap64 (Int.tdiv x20 4)))))) + 1)) * 8192))).bind fun t154 => ((versallaw18_box.f x0 x1 (wrap64 (2 * x2)) x3).bind fun t155 => ((cover_Winding.f k t155 (wrap64 ((wrap64 ((wrap64 ((wrap64 (8 * x4)) + (wrap64 (2 * (Int.tmod x20 4))))) + 1)) * 8192)) (wrap64 ((wrap64 ((wrap64 ((wrap64 (8 * x5)) + (wrap64 (2 * (wrap64 (Int.tdiv x20 4)))))) + 1)) * 8192))).bind fun t158 => (if t154 = t158 then (versallaw18_CoverBoxes.l2 k x0 x1 x2 x3 x4 x5 x19 (wrap64 (x20 + 1))) else (some false))))) else (some true)
end
def versallaw18_CoverBoxes.f (k : Nat) (a0 : Int) (a1 : Int) (a2 : Int) (a3 : Int) (a4 : Int) (a5 : Int) : Option (Bool) := (versalhand_Pick.f a0 40).bind fun t131 => ((versalhand_Pick.f a1 40).bind fun t132 => ((versalhand_Pick.f a2 30).bind fun t133 => ((versalhand_Pick.f a3 30).bind fun t134 => ((versalhand_Pick.f a4 8).bind fun t135 => ((versalhand_Pick.f a5 8).bind fun t136 => ((versallaw18_box.f (wrap64 (t131 - 8)) (wrap64 (t132 - 8)) t133 t134).bind fun t137 => ((cover_Mask.f k t137 (wrap64 (t135 - 2)) (wrap64 (t136 - 2)) 1 1).bind fun t140 => (versallaw18_CoverBoxes.l0 k (wrap64 (t131 - 8)) (wrap64 (t132 - 8)) t133 t134 (wrap64 (t135 - 2)) (wrap64 (t136 - 2)) t140 0 0))))))))
theorem versallaw18_CoverBoxes.mono_l : ∀ k, (∀ y0 y1 y2 y3 y4 y5 y6 y7 y8, LeO (versallaw18_CoverBoxes.l0 k y0 y1 y2 y3 y4 y5 y6 y7 y8) (versallaw18_CoverBoxes.l0 (k + 1) y0 y1 y2 y3 y4 y5 y6 y7 y8)) ∧ (∀ y0 y1 y2 y3 y4 y5 y6 y7 y8 y9, LeO (versallaw18_CoverBoxes.l1 k y0 y1 y2 y3 y4 y5 y6 y7 y8 y9) (versallaw18_CoverBoxes.l1 (k + 1) y0 y1 y2 y3 y4 y5 y6 y7 y8 y9)) ∧ (∀ y0 y1 y2 y3 y4 y5 y6, LeO (versallaw18_CoverBoxes.j2 k y0 y1 y2 y3 y4 y5 y6) (versallaw18_CoverBoxes.j2 (k + 1) y0 y1 y2 y3 y4 y5 y6)) ∧ (∀ y0 y1 y2 y3 y4 y5 y6 y7, LeO (versallaw18_CoverBoxes.l2 k y0 y1 y2 y3 y4 y5 y6 y7) (versallaw18_CoverBoxes.l2 (k + 1) y0 y1 y2 y3 y4 y5 y6 y7))
  | 0 => ⟨fun _ _ _ _ _ _ _ _ _ r h => by simp [versallaw18_CoverBoxes.l0] at h, fun _ _ _ _ _ _ _ _ _ _ r h => by simp [versallaw18_CoverBoxes.l1] at h, fun _ _ _ _ _ _ _ r h => by simp [versallaw18_CoverBoxes.j2] at h, fun _ _ _ _ _ _ _ _ r h => by simp [versallaw18_CoverBoxes.l2] at h⟩
  | k + 1 => by
    obtain ⟨ih0, ih1, ih2, ih3⟩ := versallaw18_CoverBoxes.mono_l k
    refine ⟨?_, ?_, ?_, ?_⟩
    · intro y0 y1 y2 y3 y4 y5 y6 y7 y8
      unfold versallaw18_CoverBoxes.l0
      repeat' first
      | (with_reducible exact ih0 _ _ _ _ _ _ _ _ _)
      | (with_reducible exact ih1 _ _ _ _ _ _ _ _ _ _)
      | (with_reducible exact ih2 _ _ _ _ _ _ _)
      | (with_reducible exact ih3 _ _ _ _ _ _ _ _)
      | (with_reducible exact cover_Mask.mono _ _ _ _ _ _)
      | (with_reducible exact cover_Winding.mono _ _ _ _)
      | (with_reducible exact versallaw18_known.mono _)
      | (with_reducible exact LeO.refl _)
      | (with_reducible exact LeO.none _)
      | (with_reducible refine LeO.ite ?_ ?_)
      | (with_reducible refine LeO.bind ?_ (fun _ => ?_))
      | exact ih0 _ _ _ _ _ _ _ _ _
      | exact ih1 _ _ _ _ _ _ _ _ _ _
      | exact ih2 _ _ _ _ _ _ _
      | exact ih3 _ _ _ _ _ _ _ _
      | exact cover_Mask.mono _ _ _ _ _ _
      | exact cover_Winding.mono _ _ _ _
      | exact versallaw18_known.mono _
      | exact LeO.none _
      | refine LeO.ite ?_ ?_
      | refine LeO.bind ?_ (fun _ => ?_)
    · intro y0 y1 y2 y3 y4 y5 y6 y7 y8 y9
      unfold versallaw18_CoverBoxes.l1
      repeat' first
      | (with_reducible exact ih0 _ _ _ _ _ _ _ _ _)
      | (with_reducible exact ih1 _ _ _ _ _ _ _ _ _ _)
      | (with_reducible exact ih2 _ _ _ _ _ _ _)
      | (with_reducible exact ih3 _ _ _ _ _ _ _ _)
      | (with_reducible exact cover_Mask.mono _ _ _ _ _ _)
      | (with_reducible exact cover_Winding.mono _ _ _ _)
      | (with_reducible exact versallaw18_known.mono _)
      | (with_reducible exact LeO.refl _)
      | (with_reducible exact LeO.none _)
      | (with_reducible refine LeO.ite ?_ ?_)
      | (with_reducible refine LeO.bind ?_ (fun _ => ?_))
      | exact ih0 _ _ _ _ _ _ _ _ _
      | exact ih1 _ _ _ _ _ _ _ _ _ _
      | exact ih2 _ _ _ _ _ _ _
      | exact ih3 _ _ _ _ _ _ _ _
      | exact cover_Mask.mono _ _ _ _ _ _
      | exact cover_Winding.mono _ _ _ _
      | exact versallaw18_known.mono _
      | exact LeO.none _
      | refine LeO.ite ?_ ?_
      | refine LeO.bind ?_ (fun _ => ?_)
    · intro y0 y1 y2 y3 y4 y5 y6
      unfold versallaw18_CoverBoxes.j2
      repeat' first
      | (with_reducible exact ih0 _ _ _ _ _ _ _ _ _)
      | (with_reducible exact ih1 _ _ _ _ _ _ _ _ _ _)
      | (with_reducible exact ih2 _ _ _ _ _ _ _)
      | (with_reducible exact ih3 _ _ _ _ _ _ _ _)
      | (with_reducible exact cover_Mask.mono _ _ _ _ _ _)
      | (with_reducible exact cover_Winding.mono _ _ _ _)
      | (with_reducible exact versallaw18_known.mono _)
      | (with_reducible exact LeO.refl _)
      | (with_reducible exact LeO.none _)
      | (with_reducible refine LeO.ite ?_ ?_)
      | (with_reducible refine LeO.bind ?_ (fun _ => ?_))
      | exact ih0 _ _ _ _ _ _ _ _ _
      | exact ih1 _ _ _ _ _ _ _ _ _ _
      | exact ih2 _ _ _ _ _ _ _
      | exact ih3 _ _ _ _ _ _ _ _
      | exact cover_Mask.mono _ _ _ _ _ _
      | exact cover_Winding.mono _ _ _ _
      | exact versallaw18_known.mono _
      | exact LeO.none _
      | refine LeO.ite ?_ ?_
      | refine LeO.bind ?_ (fun _ => ?_)
    · intro y0 y1 y2 y3 y4 y5 y6 y7
      unfold versallaw18_CoverBoxes.l2
      repeat' first
      | (with_reducible exact ih0 _ _ _ _ _ _ _ _ _)
      | (with_reducible exact ih1 _ _ _ _ _ _ _ _ _ _)
      | (with_reducible exact ih2 _ _ _ _ _ _ _)
      | (with_reducible exact ih3 _ _ _ _ _ _ _ _)
      | (with_reducible exact cover_Mask.mono _ _ _ _ _ _)
      | (with_reducible exact cover_Winding.mono _ _ _ _)
      | (with_reducible exact versallaw18_known.mono _)
      | (with_reducible exact LeO.refl _)
      | (with_reducible exact LeO.none _)
      | (with_reducible refine LeO.ite ?_ ?_)
      | (with_reducible refine LeO.bind ?_ (fun _ => ?_))
      | exact ih0 _ _ _ _ _ _ _ _ _
      | exact ih1 _ _ _ _ _ _ _ _ _ _
      | exact ih2 _ _ _ _ _ _ _
      | exact ih3 _ _ _ _ _ _ _ _
      | exact cover_Mask.mono _ _ _ _ _ _
      | exact cover_Winding.mono _ _ _ _
      | exact versallaw18_known.mono _
      | exact LeO.none _
      | refine LeO.ite ?_ ?_
      | refine LeO.bind ?_ (fun _ => ?_)
theorem versallaw18_CoverBoxes.mono : ∀ a0 a1 a2 a3 a4 a5 k, LeO (versallaw18_CoverBoxes.f k a0 a1 a2 a3 a4 a5) (versallaw18_CoverBoxes.f (k + 1) a0 a1 a2 a3 a4 a5) := by
  intro a0 a1 a2 a3 a4 a5 k
  obtain ⟨ih0, ih1, ih2, ih3⟩ := versallaw18_CoverBoxes.mono_l k
  unfold versallaw18_CoverBoxes.f
  repeat' first
      | (with_reducible exact ih0 _ _ _ _ _ _ _ _ _)
      | (with_reducible exact ih1 _ _ _ _ _ _ _ _ _ _)
      | (with_reducible exact ih2 _ _ _ _ _ _ _)
      | (with_reducible exact ih3 _ _ _ _ _ _ _ _)
      | (with_reducible exact cover_Mask.mono _ _ _ _ _ _)
      | (with_reducible exact cover_Winding.mono _ _ _ _)
      | (with_reducible exact versallaw18_known.mono _)
      | (with_reducible exact LeO.refl _)
      | (with_reducible exact LeO.none _)
      | (with_reducible refine LeO.ite ?_ ?_)
      | (with_reducible refine LeO.bind ?_ (fun _ => ?_))
      | exact ih0 _ _ _ _ _ _ _ _ _
      | exact ih1 _ _ _ _ _ _ _ _ _ _
      | exact ih2 _ _ _ _ _ _ _
      | exact ih3 _ _ _ _ _ _ _ _
      | exact cover_Mask.mono _ _ _ _ _ _
      | exact cover_Winding.mono _ _ _ _
      | exact versallaw18_known.mono _
      | exact LeO.none _
      | refine LeO.ite ?_ ?_
      | refine LeO.bind ?_ (fun _ => ?_)
set_option maxHeartbeats 8000000 in
set_option maxRecDepth 100000 in
theorem versallaw18_CoverBoxes.calls (k : Nat) (a0 : Int) (a1 : Int) (a2 : Int) (a3 : Int) (a4 : Int) (a5 : Int) (r : Bool) (w : World) (h : versallaw18_CoverBoxes.f k a0 a1 a2 a3 a4 a5 = some r) :
    Calls Try.prog 6 #[.int .i64 a0, .int .i64 a1, .int .i64 a2, .int .i64 a3, .int .i64 a4, .int .i64 a5] w fun e w' => e = .returned (.bool r) ∧ Below w.heap.size w w' := by
  have HB := Aside0.mk (Below.refl w.heap.size w)
  have H : ((versalhand_Pick.f a0 40).bind fun t131 => ((versalhand_Pick.f a1 40).bind fun t132 => ((versalhand_Pick.f a2 30).bind fun t133 => ((versalhand_Pick.f a3 30).bind fun t134 => ((versalhand_Pick.f a4 8).bind fun t135 => ((versalhand_Pick.f a5 8).bind fun t136 => ((versallaw18_box.f (wrap64 (t131 - 8)) (wrap64 (t132 - 8)) t133 t134).bind fun t137 => ((cover_Mask.f k t137 (wrap64 (t135 - 2)) (wrap64 (t136 - 2)) 1 1).bind fun t140 => (versallaw18_CoverBoxes.l0 k (wrap64 (t131 - 8)) (wrap64 (t132 - 8)) t133 t134 (wrap64 (t135 - 2)) (wrap64 (t136 - 2)) t140 0 0))))))))) = some r := h
  clear h
  replace H := Option.bind_eq_some_iff.mp H
  obtain ⟨t131, A70, H⟩ := H
  replace H : ((versalhand_Pick.f a1 40).bind fun t132 => ((versalhand_Pick.f a2 30).bind fun t133 => ((versalhand_Pick.f a3 30).bind fun t134 => ((versalhand_Pick.f a4 8).bind fun t135 => ((versalhand_Pick.f a5 8).bind fun t136 => ((versallaw18_box.f (wrap64 (t131 - 8)) (wrap64 (t132 - 8)) t133 t134).bind fun t137 => ((cover_Mask.f k t137 (wrap64 (t135 - 2)) (wrap64 (t136 - 2)) 1 1).bind fun t140 => (versallaw18_CoverBoxes.l0 k (wrap64 (t131 - 8)) (wrap64 (t132 - 8)) t133 t134 (wrap64 (t135 - 2)) (wrap64 (t136 - 2)) t140 0 0)))))))) = some r := H
  have A7 := Aside0.mk A70
  clear A70
  replace H := Option.bind_eq_some_iff.mp H
  obtain ⟨t132, A80, H⟩ := H
  replace H : ((versalhand_Pick.f a2 30).bind fun t133 => ((versalhand_Pick.f a3 30).bind fun t134 => ((versalhand_Pick.f a4 8).bind fun t135 => ((versalhand_Pick.f a5 8).bind fun t136 => ((versallaw18_box.f (wrap64 (t131 - 8)) (wrap64 (t132 - 8)) t133 t134).bind fun t137 => ((cover_Mask.f k t137 (wrap64 (t135 - 2)) (wrap64 (t136 - 2)) 1 1).bind fun t140 => (versallaw18_CoverBoxes.l0 k (wrap64 (t131 - 8)) (wrap64 (t132 - 8)) t133 t134 (wrap64 (t135 - 2)) (wrap64 (t136 - 2)) t140 0 0))))))) = some r := H
  have A8 := Aside0.mk A80
  clear A80
  replace H := Option.bind_eq_some_iff.mp H
  obtain ⟨t133, A90, H⟩ := H
  replace H : ((versalhand_Pick.f a3 30).bind fun t134 => ((versalhand_Pick.f a4 8).bind fun t135 => ((versalhand_Pick.f a5 8).bind fun t136 => ((versallaw18_box.f (wrap64 (t131 - 8)) (wrap64 (t132 - 8)) t133 t134).bind fun t137 => ((cover_Mask.f k t137 (wrap64 (t135 - 2)) (wrap64 (t136 - 2)) 1 1).bind fun t140 => (versallaw18_CoverBoxes.l0 k (wrap64 (t131 - 8)) (wrap64 (t132 - 8)) t133 t134 (wrap64 (t135 - 2)) (wrap64 (t136 - 2)) t140 0 0)))))) = some r := H
  have A9 := Aside0.mk A90
  clear A90
  replace H := Option.bind_eq_some_iff.mp H
  obtain ⟨t134, A100, H⟩ := H
  replace H : ((versalhand_Pick.f a4 8).bind fun t135 => ((versalhand_Pick.f a5 8).bind fun t136 => ((versallaw18_box.f (wrap64 (t131 - 8)) (wrap64 (t132 - 8)) t133 t134).bind fun t137 => ((cover_Mask.f k t137 (wrap64 (t135 - 2)) (wrap64 (t136 - 2)) 1 1).bind fun t140 => (versallaw18_CoverBoxes.l0 k (wrap64 (t131 - 8)) (wrap64 (t132 - 8)) t133 t134 (wrap64 (t135 - 2)) (wrap64 (t136 - 2)) t140 0 0))))) = some r := H
  have A10 := Aside0.mk A100
  clear A100
  replace H := Option.bind_eq_some_iff.mp H
  obtain ⟨t135, A110, H⟩ := H
  replace H : ((versalhand_Pick.f a5 8).bind fun t136 => ((versallaw18_box.f (wrap64 (t131 - 8)) (wrap64 (t132 - 8)) t133 t134).bind fun t137 => ((cover_Mask.f k t137 (wrap64 (t135 - 2)) (wrap64 (t136 - 2)) 1 1).bind fun t140 => (versallaw18_CoverBoxes.l0 k (wrap64 (t131 - 8)) (wrap64 (t132 - 8)) t133 t134 (wrap64 (t135 - 2)) (wrap64 (t136 - 2)) t140 0 0)))) = some r := H
  have A11 := Aside0.mk A110
  clear A110
  replace H := Option.bind_eq_some_iff.mp H
  obtain ⟨t136, A120, H⟩ := H
  replace H : ((versallaw18_box.f (wrap64 (t131 - 8)) (wrap64 (t132 - 8)) t133 t134).bind fun t137 => ((cover_Mask.f k t137 (wrap64 (t135 - 2)) (wrap64 (t136 - 2)) 1 1).bind fun t140 => (versallaw18_CoverBoxes.l0 k (wrap64 (t131 - 8)) (wrap64 (t132 - 8)) t133 t134 (wrap64 (t135 - 2)) (wrap64 (t136 - 2)) t140 0 0))) = some r := H
  have A12 := Aside0.mk A120
  clear A120
  replace H := Option.bind_eq_some_iff.mp H
  obtain ⟨t137, A130, H⟩ := H
  replace H : ((cover_Mask.f k t137 (wrap64 (t135 - 2)) (wrap64 (t136 - 2)) 1 1).bind fun t140 => (versallaw18_CoverBoxes.l0 k (wrap64 (t131 - 8)) (wrap64 (t132 - 8)) t133 t134 (wrap64 (t135 - 2)) (wrap64 (t136 - 2)) t140 0 0)) = some r := H
  have A13 := Aside0.mk A130
  clear A130
  replace H := Option.bind_eq_some_iff.mp H
  obtain ⟨t140, A140, H⟩ := H
  replace H : (versallaw18_CoverBoxes.l0 k (wrap64 (t131 - 8)) (wrap64 (t132 - 8)) t133 t134 (wrap64 (t135 - 2)) (wrap64 (t136 - 2)) t140 0 0) = some r := H
  have A14 := Aside0.mk A140
  clear A140
  have H' := Aside0.mk H
  clear H
  go_enter Try.func6, Try.ntmps6
  go_wp2_with (first | ((with_reducible refine gate_callee (f := 17) rfl ?_); refine goesL_ (some 26) rfl rfl Try.func17 (by kernel_rfl) rfl #[.int .i64 a0, .int .i64 40] rfl (by (try simp only [List.map_toArray, List.map_cons, List.map_nil]); first | done | rfl | (simp only [List.length_drop, List.length_take]; rfl)) ?_; (with_reducible refine (versalhand_Pick.calls a0 40 t131 _ A7.out).mono ?_); rintro e w' ⟨rfl, ⟨nd, rfl⟩⟩; refine ⟨_, rfl, ?_⟩) | ((with_reducible refine gate_callee (f := 17) rfl ?_); refine goesL_ (some 29) rfl rfl Try.func17 (by kernel_rfl) rfl #[.int .i64 a1, .int .i64 40] rfl (by (try simp only [List.map_toArray, List.map_cons, List.map_nil]); first | done | rfl | (simp only [List.length_drop, List.length_take]; rfl)) ?_; (with_reducible refine (versalhand_Pick.calls a1 40 t132 _ A8.out).mono ?_); rintro e w' ⟨rfl, ⟨nd, rfl⟩⟩; refine ⟨_, rfl, ?_⟩) | ((with_reducible refine gate_callee (f := 17) rfl ?_); refine goesL_ (some 32) rfl rfl Try.func17 (by kernel_rfl) rfl #[.int .i64 a2, .int .i64 30] rfl (by (try simp only [List.map_toArray, List.map_cons, List.map_nil]); first | done | rfl | (simp only [List.length_drop, List.length_take]; rfl)) ?_; (with_reducible refine (versalhand_Pick.calls a2 30 t133 _ A9.out).mono ?_); rintro e w' ⟨rfl, ⟨nd, rfl⟩⟩; refine ⟨_, rfl, ?_⟩) | ((with_reducible refine gate_callee (f := 17) rfl ?_); refine goesL_ (some 34) rfl rfl Try.func17 (by kernel_rfl) rfl #[.int .i64 a3, .int .i64 30] rfl (by (try simp only [List.map_toArray, List.map_cons, List.map_nil]); first | done | rfl | (simp only [List.length_drop, List.length_take]; rfl)) ?_; (with_reducible refine (versalhand_Pick.calls a3 30 t134 _ A10.out).mono ?_); rintro e w' ⟨rfl, ⟨nd, rfl⟩⟩; refine ⟨_, rfl, ?_⟩) | ((with_reducible refine gate_callee (f := 17) rfl ?_); refine goesL_ (some 36) rfl rfl Try.func17 (by kernel_rfl) rfl #[.int .i64 a4, .int .i64 8] rfl (by (try simp only [List.map_toArray, List.map_cons, List.map_nil]); first | done | rfl | (simp only [List.length_drop, List.length_take]; rfl)) ?_; (with_reducible refine (versalhand_Pick.calls a4 8 t135 _ A11.out).mono ?_); rintro e w' ⟨rfl, ⟨nd, rfl⟩⟩; refine ⟨_, rfl, ?_⟩) | ((with_reducible refine gate_callee (f := 17) rfl ?_); refine goesL_ (some 39) rfl rfl Try.func17 (by kernel_rfl) rfl #[.int .i64 a5, .int .i64 8] rfl (by (try simp only [List.map_toArray, List.map_cons, List.map_nil]); first | done | rfl | (simp only [List.length_drop, List.length_take]; rfl)) ?_; (with_reducible refine (versalhand_Pick.calls a5 8 t136 _ A12.out).mono ?_); rintro e w' ⟨rfl, ⟨nd, rfl⟩⟩; refine ⟨_, rfl, ?_⟩) | ((with_reducible refine gate_callee (f := 13) rfl ?_); refine goesL_ (some 45) rfl rfl Try.func13 (by kernel_rfl) rfl #[.int .i64 (wrap64 (t131 - 8)), .int .i64 (wrap64 (t132 - 8)), .int .i64 t133, .int .i64 t134] rfl (by (try simp only [List.map_toArray, List.map_cons, List.map_nil]); first | done | rfl | (simp only [List.length_drop, List.length_take]; rfl)) ?_; (with_reducible refine (versallaw18_box.calls (wrap64 (t131 - 8)) (wrap64 (t132 - 8)) t133 t134 t137 _ A13.out).mono ?_); rintro e w15 ⟨v138, rfl, ho0, hb⟩; refine ⟨_, rfl, ?_⟩; have n0_ := Aside0.mk (Kd.R_lower ho0 (below_size (by repeat (first | (with_reducible first | exact HB.out | apply below_alloc | apply pw_below_drewN | apply below_drew1) | exact HB.out)))); have n1_ := Aside0.mk (below_step (by repeat (first | (with_reducible first | exact HB.out | apply below_alloc | apply pw_below_drewN | apply below_drew1) | exact HB.out)) hb); clear HB; have HO139 := n0_; have HB := n1_; clear n0_ n1_; (try clear hb); (try clear hb2); (try clear hk); (try clear hi); (try clear ho0); obtain ⟨Ao16, co16, eo16⟩ := Kd.R_slice HO139.out; subst eo16) | ((with_reducible refine gate_callee (f := 12) rfl ?_); refine goesL_ (some 48) rfl rfl Try.func12 (by kernel_rfl) rfl #[.slice Ao16 t137.length co16, .int .i64 (wrap64 (t135 - 2)), .int .i64 (wrap64 (t136 - 2)), .int .i64 1, .int .i64 1] rfl (by (try simp only [List.map_toArray, List.map_cons, List.map_nil]); first | done | rfl | (simp only [List.length_drop, List.length_take]; rfl)) ?_; (with_reducible refine (cover_Mask.calls k _ _ t137 (wrap64 (t135 - 2)) (wrap64 (t136 - 2)) 1 1 t140 _ ?side1 ?side2 A14.out).mono ?_); (case side1 => repeat (first | exact (Kd.R_reads' HO139.out).2.2 | (with_reducible refine Kd.C_alloc ?_ _) | (with_reducible refine Kd.C_drewN ?_ _) | (with_reducible refine Kd.C_drew ?_))); (case side2 => exact (Kd.R_reads' HO139.out).2.1); rintro e w17 ⟨v141, rfl, ho0, hb⟩; refine ⟨_, rfl, ?_⟩; have n0_ := Aside0.mk (Kd.R_below (by (with_reducible repeat (first | apply Kd.R_alloc | apply Kd.R_drewN | apply Kd.R_drew)); exact HO139.out) hb); have n1_ := Aside0.mk (Kd.R_lower ho0 (below_size (by repeat (first | (with_reducible first | exact HB.out | apply below_alloc | apply pw_below_drewN | apply below_drew1) | exact HB.out)))); have n2_ := Aside0.mk (below_step (by repeat (first | (with_reducible first | exact HB.out | apply below_alloc | apply pw_below_drewN | apply below_drew1) | exact HB.out)) hb); clear HO139; clear HB; have HO139 := n0_; have HO142 := n1_; have HB := n2_; clear n0_ n1_ n2_; (try clear hb); (try clear hb2); (try clear hk); (try clear hi); (try clear ho0)))
  go_loopg [14, 15] k (fun kq v14 v15 w' => ∃ (x14_1 : Int) (x15_1 : Int), v14 = .int .i64 x14_1 ∧ v15 = .int .i64 x15_1 ∧ Aside0 (versallaw18_CoverBoxes.l0 kq (wrap64 (t131 - 8)) (wrap64 (t132 - 8)) t133 t134 (wrap64 (t135 - 2)) (wrap64 (t136 - 2)) t140 x14_1 x15_1 = some r) ∧ Aside0 (kq ≤ k) ∧ Aside0 (Kd.R (Kd.int .u8) 5 w' w.heap.size (fun _ => True) v141 t140) ∧ Aside0 (Below w.heap.size w w'))
  case atStart => exact ⟨(0), (0), (by first | rfl | (simp; done) | (simp [*]; done)), (by first | rfl | (simp; done) | (simp [*]; done)), H', ⟨Nat.le_refl _⟩, ⟨by (with_reducible repeat (first | apply Kd.R_alloc | apply Kd.R_drewN | apply Kd.R_drew)); exact HO142.out⟩, ⟨by repeat (first | (with_reducible first | exact HB.out | apply below_alloc | apply pw_below_drewN | apply below_drew1) | exact HB.out)⟩⟩
  case round =>
    clear H'
    try clear c1
    try clear p2
    try clear c6
    try clear p6
    try clear c12
    try clear c13
    try clear c17
    obtain ⟨x14_1, x15_1, rfl, rfl, HA, HK1, HO_13, HB⟩ := hrel
    cases gk with
    | zero => exact absurd HA.out (by simp [versallaw18_CoverBoxes.l0])
    | succ k1 =>
      have H := HA.out
      clear HA
      simp only [versallaw18_CoverBoxes.l0] at H
      by_cases c18 : x15_1 < 4
      · rw [if_pos c18] at H
        have c18b0 : decide (x15_1 < 4) = true := decide_eq_true c18
        clear c18
        have H' := Aside0.mk H
        clear H
        go_wp2
        go_loopg [14, 16] k1 (fun kq v14 v16 w' => ∃ (x14_2 : Int) (x16_2 : Int), v14 = .int .i64 x14_2 ∧ v16 = .int .i64 x16_2 ∧ Aside0 (versallaw18_CoverBoxes.l1 kq (wrap64 (t131 - 8)) (wrap64 (t132 - 8)) t133 t134 (wrap64 (t135 - 2)) (wrap64 (t136 - 2)) t140 x14_2 x15_1 x16_2 = some r) ∧ Aside0 (kq ≤ k1) ∧ Aside0 (Kd.R (Kd.int .u8) 5 w' w.heap.size (fun _ => True) v141 t140) ∧ Aside0 (Below w.heap.size w w'))
        case atStart => exact ⟨(x14_1), (0), (by first | rfl | (simp; done) | (simp [*]; done)), (by first | rfl | (simp; done) | (simp [*]; done)), H', ⟨Nat.le_refl _⟩, ⟨by (with_reducible repeat (first | apply Kd.R_alloc | apply Kd.R_drewN | apply Kd.R_drew)); exact HO_13.out⟩, ⟨by repeat (first | (with_reducible first | exact HB.out | apply below_alloc | apply pw_below_drewN | apply below_drew1) | exact HB.out)⟩⟩
        case round =>
          clear H'
          try clear c1
          try clear p2
          try clear c6
          try clear p6
          try clear c12
          try clear c13
          try clear c17
          try clear c18
          try clear c18b0
          try clear p2
          try clear p6
          obtain ⟨x14_2, x16_2, rfl, rfl, HA, HK2, HO_13, HB⟩ := hrel
          cases gk with
          | zero => exact absurd HA.out (by simp [versallaw18_CoverBoxes.l1])
          | succ k2 =>
            have H := HA.out
            clear HA
            simp only [versallaw18_CoverBoxes.l1] at H
            by_cases c19 : x16_2 < 4
            · rw [if_pos c19] at H
              have c19b0 : decide (x16_2 < 4) = true := decide_eq_true c19
              clear c19
              by_cases c20 : (wrap64 ((wrap64 ((wrap64 (8 * (wrap64 (t135 - 2)))) + (wrap64 (2 * x16_2)))) + 1)) ≥ (wrap64 (t131 - 8))
              · rw [if_pos c20] at H
                have c20b0 : decide ((wrap64 (t131 - 8)) ≤ (wrap64 ((wrap64 ((wrap64 (8 * (wrap64 (t135 - 2)))) + (wrap64 (2 * x16_2)))) + 1))) = true := decide_eq_true c20
                clear c20
                by_cases c21 : (wrap64 ((wrap64 ((wrap64 (8 * (wrap64 (t135 - 2)))) + (wrap64 (2 * x16_2)))) + 1)) < (wrap64 ((wrap64 (t131 - 8)) + t133))
                · rw [if_pos c21] at H
                  have c21b0 : decide ((wrap64 ((wrap64 ((wrap64 (8 * (wrap64 (t135 - 2)))) + (wrap64 (2 * x16_2)))) + 1)) < (wrap64 ((wrap64 (t131 - 8)) + t133))) = true := decide_eq_true c21
                  clear c21
                  by_cases c22 : (wrap64 ((wrap64 ((wrap64 (8 * (wrap64 (t136 - 2)))) + (wrap64 (2 * x15_1)))) + 1)) ≥ (wrap64 (t132 - 8))
                  · rw [if_pos c22] at H
                    have c22b0 : decide ((wrap64 (t132 - 8)) ≤ (wrap64 ((wrap64 ((wrap64 (8 * (wrap64 (t136 - 2)))) + (wrap64 (2 * x15_1)))) + 1))) = true := decide_eq_true c22
                    clear c22
                    by_cases c23 : (wrap64 ((wrap64 ((wrap64 (8 * (wrap64 (t136 - 2)))) + (wrap64 (2 * x15_1)))) + 1)) < (wrap64 ((wrap64 (t132 - 8)) + t134))
                    · rw [if_pos c23] at H
                      have c23b0 : decide ((wrap64 ((wrap64 ((wrap64 (8 * (wrap64 (t136 - 2)))) + (wrap64 (2 * x15_1)))) + 1)) < (wrap64 ((wrap64 (t132 - 8)) + t134))) = true := decide_eq_true c23
                      clear c23
                      have H' := Aside0.mk H
                      clear H
                      go_wp2
                      go_roundg k2
                      case measure => have := HK1.out; have := HK2.out; omega
                      case rel => exact ⟨(wrap64 (x14_2 + 1)), (wrap64 (x16_2 + 1)), (by first | rfl | (simp; done) | (simp [*]; done)), (by first | rfl | (simp; done) | (simp [*]; done)), H', ⟨by have := HK1.out; have := HK2.out; omega⟩, ⟨by (with_reducible repeat (first | apply Kd.R_alloc | apply Kd.R_drewN | apply Kd.R_drew)); exact HO_13.out⟩, ⟨by repeat (first | (with_reducible first | exact HB.out | apply below_alloc | apply pw_below_drewN | apply below_drew1) | exact HB.out)⟩⟩
                    · rw [if_neg c23] at H
                      have c23b0 : decide ((wrap64 ((wrap64 ((wrap64 (8 * (wrap64 (t136 - 2)))) + (wrap64 (2 * x15_1)))) + 1)) < (wrap64 ((wrap64 (t132 - 8)) + t134))) = false := decide_eq_false c23
                      clear c23
                      have H' := Aside0.mk H
                      clear H
                      go_wp2
                      go_roundg k2
                      case measure => have := HK1.out; have := HK2.out; omega
                      case rel => exact ⟨(x14_2), (wrap64 (x16_2 + 1)), (by first | rfl | (simp; done) | (simp [*]; done)), (by first | rfl | (simp; done) | (simp [*]; done)), H', ⟨by have := HK1.out; have := HK2.out; omega⟩, ⟨by (with_reducible repeat (first | apply Kd.R_alloc | apply Kd.R_drewN | apply Kd.R_drew)); exact HO_13.out⟩, ⟨by repeat (first | (with_reducible first | exact HB.out | apply below_alloc | apply pw_below_drewN | apply below_drew1) | exact HB.out)⟩⟩
                  · rw [if_neg c22] at H
                    have c22b0 : decide ((wrap64 (t132 - 8)) ≤ (wrap64 ((wrap64 ((wrap64 (8 * (wrap64 (t136 - 2)))) + (wrap64 (2 * x15_1)))) + 1))) = false := decide_eq_false c22
                    clear c22
                    have H' := Aside0.mk H
                    clear H
                    go_wp2
                    go_roundg k2
                    case measure => have := HK1.out; have := HK2.out; omega
                    case rel => exact ⟨(x14_2), (wrap64 (x16_2 + 1)), (by first | rfl | (simp; done) | (simp [*]; done)), (by first | rfl | (simp; done) | (simp [*]; done)), H', ⟨by have := HK1.out; have := HK2.out; omega⟩, ⟨by (with_reducible repeat (first | apply Kd.R_alloc | apply Kd.R_drewN | apply Kd.R_drew)); exact HO_13.out⟩, ⟨by repeat (first | (with_reducible first | exact HB.out | apply below_alloc | apply pw_below_drewN | apply below_drew1) | exact HB.out)⟩⟩
                · rw [if_neg c21] at H
                  have c21b0 : decide ((wrap64 ((wrap64 ((wrap64 (8 * (wrap64 (t135 - 2)))) + (wrap64 (2 * x16_2)))) + 1)) < (wrap64 ((wrap64 (t131 - 8)) + t133))) = false := decide_eq_false c21
                  clear c21
                  have H' := Aside0.mk H
                  clear H
                  go_wp2
                  go_roundg k2
                  case measure => have := HK1.out; have := HK2.out; omega
                  case rel => exact ⟨(x14_2), (wrap64 (x16_2 + 1)), (by first | rfl | (simp; done) | (simp [*]; done)), (by first | rfl | (simp; done) | (simp [*]; done)), H', ⟨by have := HK1.out; have := HK2.out; omega⟩, ⟨by (with_reducible repeat (first | apply Kd.R_alloc | apply Kd.R_drewN | apply Kd.R_drew)); exact HO_13.out⟩, ⟨by repeat (first | (with_reducible first | exact HB.out | apply below_alloc | apply pw_below_drewN | apply below_drew1) | exact HB.out)⟩⟩
              · rw [if_neg c20] at H
                have c20b0 : decide ((wrap64 (t131 - 8)) ≤ (wrap64 ((wrap64 ((wrap64 (8 * (wrap64 (t135 - 2)))) + (wrap64 (2 * x16_2)))) + 1))) = false := decide_eq_false c20
                clear c20
                have H' := Aside0.mk H
                clear H
                go_wp2
                go_roundg k2
                case measure => have := HK1.out; have := HK2.out; omega
                case rel => exact ⟨(x14_2), (wrap64 (x16_2 + 1)), (by first | rfl | (simp; done) | (simp [*]; done)), (by first | rfl | (simp; done) | (simp [*]; done)), H', ⟨by have := HK1.out; have := HK2.out; omega⟩, ⟨by (with_reducible repeat (first | apply Kd.R_alloc | apply Kd.R_drewN | apply Kd.R_drew)); exact HO_13.out⟩, ⟨by repeat (first | (with_reducible first | exact HB.out | apply below_alloc | apply pw_below_drewN | apply below_drew1) | exact HB.out)⟩⟩
            · rw [if_neg c19] at H
              have c19b0 : decide (x16_2 < 4) = false := decide_eq_false c19
              clear c19
              have H' := Aside0.mk H
              clear H
              go_wp2
              go_roundg k2
              case measure => have := HK1.out; have := HK2.out; omega
              case rel => exact ⟨(x14_2), (wrap64 (x15_1 + 1)), (by first | rfl | (simp; done) | (simp [*]; done)), (by first | rfl | (simp; done) | (simp [*]; done)), H', ⟨by have := HK1.out; have := HK2.out; omega⟩, ⟨by (with_reducible repeat (first | apply Kd.R_alloc | apply Kd.R_drewN | apply Kd.R_drew)); exact HO_13.out⟩, ⟨by repeat (first | (with_reducible first | exact HB.out | apply below_alloc | apply pw_below_drewN | apply below_drew1) | exact HB.out)⟩⟩
      · rw [if_neg c18] at H
        have c18b0 : decide (x15_1 < 4) = false := decide_eq_false c18
        clear c18
        have HC24 := Aside0.mk H
        clear H
        go_upto_region 19 with (fail)
        go_cut [110] (fun v110 wc => ∃ (kq : Nat) (x110_23 : Bool), v110 = .bool x110_23 ∧ Aside0 (versallaw18_CoverBoxes.j2 kq (wrap64 (t131 - 8)) (wrap64 (t132 - 8)) t133 t134 (wrap64 (t135 - 2)) (wrap64 (t136 - 2)) x110_23 = some r) ∧ Aside0 (kq ≤ k1) ∧ Aside0 (Below w.heap.size w wc))
        case first =>
          have H := HC24.out
          clear HC24
          replace H := Option.bind_eq_some_iff.mp H
          obtain ⟨t143, A250, H⟩ := H
          replace H : (if t143 = true then (if (t140.length : Int) = 1 then (if 0 < (t140.length : Int) then (versallaw18_CoverBoxes.j2 k1 (wrap64 (t131 - 8)) (wrap64 (t132 - 8)) t133 t134 (wrap64 (t135 - 2)) (wrap64 (t136 - 2)) ((wrap64 (rd t140 0)) != (wrap64 (Int.tdiv (wrap64 ((wrap64 (x14_1 * 255)) + 8)) 16)))) else (none)) else (versallaw18_CoverBoxes.j2 k1 (wrap64 (t131 - 8)) (wrap64 (t132 - 8)) t133 t134 (wrap64 (t135 - 2)) (wrap64 (t136 - 2)) true)) else (versallaw18_CoverBoxes.j2 k1 (wrap64 (t131 - 8)) (wrap64 (t132 - 8)) t133 t134 (wrap64 (t135 - 2)) (wrap64 (t136 - 2)) true)) = some r := H
          have A25 := Aside0.mk A250
          clear A250
          by_cases c26 : t143 = true
          · subst c26
            have H1 : (if (t140.length : Int) = 1 then (if 0 < (t140.length : Int) then (versallaw18_CoverBoxes.j2 k1 (wrap64 (t131 - 8)) (wrap64 (t132 - 8)) t133 t134 (wrap64 (t135 - 2)) (wrap64 (t136 - 2)) ((wrap64 (rd t140 0)) != (wrap64 (Int.tdiv (wrap64 ((wrap64 (x14_1 * 255)) + 8)) 16)))) else (none)) else (versallaw18_CoverBoxes.j2 k1 (wrap64 (t131 - 8)) (wrap64 (t132 - 8)) t133 t134 (wrap64 (t135 - 2)) (wrap64 (t136 - 2)) true)) = some r := by rw [if_pos rfl] at H; exact H
            clear H
            have H := H1
            clear H1
            by_cases c27 : (t140.length : Int) = 1
            · rw [if_pos c27] at H
              have c27b0 : ((t140.length : Int) == 1) = true := beq_iff_eq.mpr c27
              have c27b1 : ((t140.length : Int) != 1) = false := bne_eq_false_iff_eq.mpr c27
              clear c27
              (first | rw [c27b0] | (simp only [i64_w, i32_w]; rw [c27b0]) | skip)
              by_cases c28 : 0 < (t140.length : Int)
              · rw [if_pos c28] at H
                have c28b0 : decide (0 < (t140.length : Int)) = true := decide_eq_true c28
                have c28b1 : decide (0 < t140.length) = true := decide_eq_true (by omega)
                clear c28
                have H' := Aside0.mk H
                clear H
                go_wp2_with (first | ((with_reducible refine gate_callee (f := 15) rfl ?_); refine goesL_ (some 93) rfl rfl Try.func15 (by kernel_rfl) rfl #[] rfl (by (try simp only [List.map_toArray, List.map_cons, List.map_nil]); first | done | rfl | (simp only [List.length_drop, List.length_take]; rfl)) ?_; (with_reducible refine (versallaw18_known.calls k1  true _ A25.out).mono ?_); rintro e w29 ⟨rfl, hb⟩; refine ⟨_, rfl, ?_⟩; have n0_ := Aside0.mk (Kd.R_below (by (with_reducible repeat (first | apply Kd.R_alloc | apply Kd.R_drewN | apply Kd.R_drew)); exact HO_13.out) hb); have n1_ := Aside0.mk (below_step (by repeat (first | (with_reducible first | exact HB.out | apply below_alloc | apply pw_below_drewN | apply below_drew1) | exact HB.out)) hb); clear HO_13; clear HB; have HO_13 := n0_; have HB := n1_; clear n0_ n1_; (try clear hb); (try clear hb2); (try clear hk); (try clear hi); obtain ⟨Ao30, co30, eo30⟩ := Kd.R_slice HO_13.out; subst eo30; have p144 : 0 ≤ (0 : Int) := (by omega); have q144 : 0 < (t140.length : Int) := of_decide_eq_true (by first | (with_reducible assumption) | assumption); obtain ⟨ad144, e144, hx144_0⟩ := Kd.at_int (Kd.R_reads' HO_13.out).2.2 0 p144 q144; cases e144; have qi144 : (0 < t140.length) = True := eq_true (by omega); (try rw [show ((0 : Int)).toNat = 0 from rfl] at hx144_0); (try rw [Addr.add_zero'] at hx144_0); replace p144 := eq_true p144; replace q144 := eq_true q144))
                go_meet
                case rel => exact ⟨_, (((wrap64 (rd t140 0)) != (wrap64 (Int.tdiv (wrap64 ((wrap64 (x14_1 * 255)) + 8)) 16)))), (by first | rfl | (simp; done) | (simp [*]; done)), H', ⟨by have := HK1.out; first | omega | exact Nat.le_refl _⟩, ⟨by repeat (first | (with_reducible first | exact HB.out | apply below_alloc | apply pw_below_drewN | apply below_drew1) | exact HB.out)⟩⟩
              · rw [if_neg c28] at H
                exact absurd H (by simp)
            · rw [if_neg c27] at H
              have c27b0 : ((t140.length : Int) == 1) = false := beq_eq_false_iff_ne.mpr c27
              have c27b1 : ((t140.length : Int) != 1) = true := bne_iff_ne.mpr c27
              (first | rw [c27b0] | (simp only [i64_w, i32_w]; rw [c27b0]) | skip)
              have H' := Aside0.mk H
              clear H
              go_wp2_with (first | ((with_reducible refine gate_callee (f := 15) rfl ?_); refine goesL_ (some 93) rfl rfl Try.func15 (by kernel_rfl) rfl #[] rfl (by (try simp only [List.map_toArray, List.map_cons, List.map_nil]); first | done | rfl | (simp only [List.length_drop, List.length_take]; rfl)) ?_; (with_reducible refine (versallaw18_known.calls k1  true _ A25.out).mono ?_); rintro e w31 ⟨rfl, hb⟩; refine ⟨_, rfl, ?_⟩; have n0_ := Aside0.mk (Kd.R_below (by (with_reducible repeat (first | apply Kd.R_alloc | apply Kd.R_drewN | apply Kd.R_drew)); exact HO_13.out) hb); have n1_ := Aside0.mk (below_step (by repeat (first | (with_reducible first | exact HB.out | apply below_alloc | apply pw_below_drewN | apply below_drew1) | exact HB.out)) hb); clear HO_13; clear HB; have HO_13 := n0_; have HB := n1_; clear n0_ n1_; (try clear hb); (try clear hb2); (try clear hk); (try clear hi); obtain ⟨Ao32, co32, eo32⟩ := Kd.R_slice HO_13.out; subst eo32))
              go_meet
              case rel => exact ⟨_, (true), (by first | rfl | (simp; done) | (simp [*]; done)), H', ⟨by have := HK1.out; first | omega | exact Nat.le_refl _⟩, ⟨by repeat (first | (with_reducible first | exact HB.out | apply below_alloc | apply pw_below_drewN | apply below_drew1) | exact HB.out)⟩⟩
          · replace c26 := Bool.eq_false_iff.mpr c26
            subst c26
            have H1 : (versallaw18_CoverBoxes.j2 k1 (wrap64 (t131 - 8)) (wrap64 (t132 - 8)) t133 t134 (wrap64 (t135 - 2)) (wrap64 (t136 - 2)) true) = some r := by rw [if_neg (show ¬ (false = true) by decide)] at H; exact H
            clear H
            have H := H1
            clear H1
            have H' := Aside0.mk H
            clear H
            go_wp2_with (first | ((with_reducible refine gate_callee (f := 15) rfl ?_); refine goesL_ (some 93) rfl rfl Try.func15 (by kernel_rfl) rfl #[] rfl (by (try simp only [List.map_toArray, List.map_cons, List.map_nil]); first | done | rfl | (simp only [List.length_drop, List.length_take]; rfl)) ?_; (with_reducible refine (versallaw18_known.calls k1  false _ A25.out).mono ?_); rintro e w33 ⟨rfl, hb⟩; refine ⟨_, rfl, ?_⟩; have n0_ := Aside0.mk (Kd.R_below (by (with_reducible repeat (first | apply Kd.R_alloc | apply Kd.R_drewN | apply Kd.R_drew)); exact HO_13.out) hb); have n1_ := Aside0.mk (below_step (by repeat (first | (with_reducible first | exact HB.out | apply below_alloc | apply pw_below_drewN | apply below_drew1) | exact HB.out)) hb); clear HO_13; clear HB; have HO_13 := n0_; have HB := n1_; clear n0_ n1_; (try clear hb); (try clear hb2); (try clear hk); (try clear hi)))
            go_meet
            case rel => exact ⟨_, (true), (by first | rfl | (simp; done) | (simp [*]; done)), H', ⟨by have := HK1.out; first | omega | exact Nat.le_refl _⟩, ⟨by repeat (first | (with_reducible first | exact HB.out | apply below_alloc | apply pw_below_drewN | apply below_drew1) | exact HB.out)⟩⟩
        case rest =>
          clear HC24
          try clear c1
          try clear p1
          try clear q1
          try clear hx1
          try clear qi1
          try clear c2
          try clear p2
          try clear c6
          try clear p6
          try clear c12
          try clear c13
          try clear p14
          try clear q14
          try clear hx14
          try clear qi14
          try clear c15
          try clear c17
          try clear c18
          try clear c18b0
          try clear c19
          try clear c19b0
          try clear c20
          try clear c20b0
          try clear c21
          try clear c21b0
          try clear c22
          try clear c22b0
          try clear c23
          try clear c23b0
          try clear c26
          try clear c27
          try clear c27b0
          try clear c27b1
          try clear c28
          try clear c28b0
          try clear c28b1
          try clear hx144_0
          try clear p144
          try clear p2
          try clear p6
          try clear q144
          obtain ⟨kq, x110_23, rfl, HA, HJ23, HB⟩ := hcut
          cases kq with
          | zero => exact absurd HA.out (by simp [versallaw18_CoverBoxes.j2])
          | succ kj23 =>
            have H := HA.out
            clear HA
            simp only [versallaw18_CoverBoxes.j2] at H
            by_cases c34 : x110_23 = true
            · subst c34
              have H1 : (some false) = some r := by rw [if_pos rfl] at H; exact H
              clear H
              have H := H1
              clear H1
              obtain rfl := Option.some.inj H
              go_wp2
              go_ret
              exact ⟨by first | rfl | (simp [errW_none, errW_some] <;> rfl) | (simp [*, errW_none, errW_some] <;> rfl), by repeat (first | (with_reducible first | exact HB.out | apply below_alloc | apply pw_below_drewN | apply below_drew1) | exact HB.out)⟩
            · replace c34 := Bool.eq_false_iff.mpr c34
              subst c34
              have H1 : ((versallaw18_box.f (wrap64 (t131 - 8)) (wrap64 (t132 - 8)) t133 t134).bind fun t145 => ((versallaw18_box.f (wrap64 ((wrap64 (t131 - 8)) + t133)) (wrap64 (t132 - 8)) t133 t134).bind fun t148 => (if t145.length + t148.length < 4398046511104 then (versallaw18_CoverBoxes.l2 kj23 (wrap64 (t131 - 8)) (wrap64 (t132 - 8)) t133 t134 (wrap64 (t135 - 2)) (wrap64 (t136 - 2)) (t145 ++ t148) 0) else (none)))) = some r := by rw [if_neg (show ¬ (false = true) by decide)] at H; exact H
              clear H
              have H := H1
              clear H1
              replace H := Option.bind_eq_some_iff.mp H
              obtain ⟨t145, A350, H⟩ := H
              replace H : ((versallaw18_box.f (wrap64 ((wrap64 (t131 - 8)) + t133)) (wrap64 (t132 - 8)) t133 t134).bind fun t148 => (if t145.length + t148.length < 4398046511104 then (versallaw18_CoverBoxes.l2 kj23 (wrap64 (t131 - 8)) (wrap64 (t132 - 8)) t133 t134 (wrap64 (t135 - 2)) (wrap64 (t136 - 2)) (t145 ++ t148) 0) else (none))) = some r := H
              have A35 := Aside0.mk A350
              clear A350
              replace H := Option.bind_eq_some_iff.mp H
              obtain ⟨t148, A360, H⟩ := H
              replace H : (if t145.length + t148.length < 4398046511104 then (versallaw18_CoverBoxes.l2 kj23 (wrap64 (t131 - 8)) (wrap64 (t132 - 8)) t133 t134 (wrap64 (t135 - 2)) (wrap64 (t136 - 2)) (t145 ++ t148) 0) else (none)) = some r := H
              have A36 := Aside0.mk A360
              clear A360
              by_cases c37 : t145.length + t148.length < 4398046511104
              · rw [if_pos c37] at H
                have LMc37 := Aside0.mk c37
                clear c37
                obtain ⟨y151, hy151⟩ : ∃ y_ : List (S33), y_ = (t145 ++ t148) := ⟨_, rfl⟩
                replace H : (versallaw18_CoverBoxes.l2 kj23 (wrap64 (t131 - 8)) (wrap64 (t132 - 8)) t133 t134 (wrap64 (t135 - 2)) (wrap64 (t136 - 2)) y151 0) = some r := by first | (rw [hy151]; with_reducible exact H) | (have H2_ := (Option.bind_some _ _).symm.trans H; rw [hy151]; with_reducible exact H2_) | (have H2_ := (Option.bind_some _ _).symm.trans H; with_reducible exact H2_) | with_reducible exact H | (rw [hy151]; exact H) | exact H
                have Ny151 := Aside0.mk hy151
                clear hy151
                have H' := Aside0.mk H
                clear H
                go_wp2_with (first | ((with_reducible refine gate_callee (f := 13) rfl ?_); refine goesL_ (some 115) rfl rfl Try.func13 (by kernel_rfl) rfl #[.int .i64 (wrap64 (t131 - 8)), .int .i64 (wrap64 (t132 - 8)), .int .i64 t133, .int .i64 t134] rfl (by (try simp only [List.map_toArray, List.map_cons, List.map_nil]); first | done | rfl | (simp only [List.length_drop, List.length_take]; rfl)) ?_; (with_reducible refine (versallaw18_box.calls (wrap64 (t131 - 8)) (wrap64 (t132 - 8)) t133 t134 t145 _ A35.out).mono ?_); rintro e w38 ⟨v146, rfl, ho0, hb⟩; refine ⟨_, rfl, ?_⟩; have n0_ := Aside0.mk (Kd.R_lower ho0 (below_size (by repeat (first | (with_reducible first | exact HB.out | apply below_alloc | apply pw_below_drewN | apply below_drew1) | exact HB.out)))); have n1_ := Aside0.mk (below_step (by repeat (first | (with_reducible first | exact HB.out | apply below_alloc | apply pw_below_drewN | apply below_drew1) | exact HB.out)) hb); clear HB; have HO147 := n0_; have HB := n1_; clear n0_ n1_; (try clear hb); (try clear hb2); (try clear hk); (try clear hi); (try clear ho0)) | ((with_reducible refine gate_callee (f := 13) rfl ?_); refine goesL_ (some 122) rfl rfl Try.func13 (by kernel_rfl) rfl #[.int .i64 (wrap64 ((wrap64 (t131 - 8)) + t133)), .int .i64 (wrap64 (t132 - 8)), .int .i64 t133, .int .i64 t134] rfl (by (try simp only [List.map_toArray, List.map_cons, List.map_nil]); first | done | rfl | (simp only [List.length_drop, List.length_take]; rfl)) ?_; (with_reducible refine (versallaw18_box.calls (wrap64 ((wrap64 (t131 - 8)) + t133)) (wrap64 (t132 - 8)) t133 t134 t148 _ A36.out).mono ?_); rintro e w39 ⟨v149, rfl, ho0, hb⟩; refine ⟨_, rfl, ?_⟩; have n0_ := Aside0.mk (Kd.R_elder' (by (with_reducible repeat (first | apply Kd.R_alloc | apply Kd.R_drewN | apply Kd.R_drew)); exact HO147.out) (Kd.R_base ho0) hb); have n1_ := Aside0.mk (Kd.R_lower (Kd.R_new' ho0 (Kd.R_lt (by (with_reducible repeat (first | apply Kd.R_alloc | apply Kd.R_drewN | apply Kd.R_drew)); exact HO147.out))) (below_size (by repeat (first | (with_reducible first | exact HB.out | apply below_alloc | apply pw_below_drewN | apply below_drew1) | exact HB.out)))); have n2_ := Aside0.mk (below_step (by repeat (first | (with_reducible first | exact HB.out | apply below_alloc | apply pw_below_drewN | apply below_drew1) | exact HB.out)) hb); clear HO147; clear HB; have HO147 := n0_; have HO150 := n1_; have HB := n2_; clear n0_ n1_ n2_; (try clear hb); (try clear hb2); (try clear hk); (try clear hi); (try clear ho0); obtain ⟨Ao41, co41, eo41⟩ := Kd.R_slice HO150.out; subst eo41) | ((with_reducible refine gate_builtin (b := .append) (xs := #[.tmp 115, .tmp 122]) rfl ?_); (try (refine gate_guard (by rfl) ?_; dsimp only)); at_builtin; refine Kd.R_append_rows k33 (w0 := w) w.heap.size rfl (.tmp 115) (.tmp 122) 24 33 (.agg #[(.int .i64 0), (.int .i64 0), (.int .i64 0), (.int .i64 0)]) 32 rfl Try.underlying24 info33 rfl (by decide) (by omega) v146 t145 t148 _ _ _ (fun k_ => some k_ ≠ (.slice Ao41 t148.length co41 : Value).ownBlock) (fun _ => False) rfl rfl ?aO ?aR (fun _ _ h => h) (fun _ h => h.elim) ?aF ?aB ?aS ?aL ?_; (case aR => repeat (first | exact (Kd.R_reads' HO150.out).2.2 | (with_reducible refine Kd.C_alloc ?_ _) | (with_reducible refine Kd.C_drewN ?_ _) | (with_reducible refine Kd.C_drew ?_))); (case aB => exact (by repeat (first | (with_reducible first | exact HB.out | apply below_alloc | apply pw_below_drewN | apply below_drew1) | exact HB.out))); (case aF => exact (fun k_ hk => Kd.fresh' (Kd.R_lt (by (with_reducible repeat (first | apply Kd.R_alloc | apply Kd.R_drewN | apply Kd.R_drew)); exact HO150.out)) k_ hk)); (case aO => exact (by (with_reducible repeat (first | apply Kd.R_alloc | apply Kd.R_drewN | apply Kd.R_drew)); exact Kd.R_mono HO147.out (fun _ hk => hk.2))); (case aS => exact (below_size (by repeat (first | (with_reducible first | exact HB.out | apply below_alloc | apply pw_below_drewN | apply below_drew1) | exact HB.out)))); (case aL => have := LMc37.out; omega); intro v152 w40 ho hb hg hat; rw [← Ny151.out] at ho; have n0_ := Aside0.mk (Kd.R_after (ok := (fun _ => True)) (by (with_reducible repeat (first | apply Kd.R_alloc | apply Kd.R_drewN | apply Kd.R_drew)); exact HO150.out) hg hat); have n1_ := Aside0.mk (hb); have n2_ := Aside0.mk (ho); clear HO150; clear HB; clear HO147; have HO150 := n0_; have HB := n1_; have HO153 := n2_; clear n0_ n1_ n2_; clear ho hb hg hat))
                go_loopg [20] kj23 (fun kq v20 w' => ∃ (x20_3 : Int), v20 = .int .i64 x20_3 ∧ Aside0 (versallaw18_CoverBoxes.l2 kq (wrap64 (t131 - 8)) (wrap64 (t132 - 8)) t133 t134 (wrap64 (t135 - 2)) (wrap64 (t136 - 2)) y151 x20_3 = some r) ∧ Aside0 (kq ≤ kj23) ∧ Aside0 (Kd.R k33 33 w' w.heap.size (fun _ => True) v152 y151) ∧ Aside0 (Below w.heap.size w w'))
                case atStart => exact ⟨(0), (by first | rfl | (simp; done) | (simp [*]; done)), H', ⟨Nat.le_refl _⟩, ⟨by (with_reducible repeat (first | apply Kd.R_alloc | apply Kd.R_drewN | apply Kd.R_drew)); exact Kd.R_mono HO153.out (fun _ hk => trivial)⟩, ⟨by repeat (first | (with_reducible first | exact HB.out | apply below_alloc | apply pw_below_drewN | apply below_drew1) | exact HB.out)⟩⟩
                case round =>
                  clear H'
                  try clear c1
                  try clear p1
                  try clear q1
                  try clear hx1
                  try clear qi1
                  try clear c2
                  try clear p2
                  try clear c3
                  try clear c6
                  try clear p6
                  try clear c12
                  try clear c13
                  try clear p14
                  try clear q14
                  try clear hx14
                  try clear qi14
                  try clear c15
                  try clear c17
                  try clear c18
                  try clear c18b0
                  try clear c19
                  try clear c19b0
                  try clear c20
                  try clear c20b0
                  try clear c21
                  try clear c21b0
                  try clear c22
                  try clear c22b0
                  try clear c23
                  try clear c23b0
                  try clear c26
                  try clear c27
                  try clear c27b0
                  try clear c27b1
                  try clear c28
                  try clear c28b0
                  try clear c28b1
                  try clear c34
                  try clear c37
                  try clear hx144_0
                  try clear p1
                  try clear p14
                  try clear p144
                  try clear p2
                  try clear p6
                  try clear q1
                  try clear q14
                  try clear q144
                  obtain ⟨x20_3, rfl, HA, HK3, HO_19, HB⟩ := hrel
                  cases gk with
                  | zero => exact absurd HA.out (by simp [versallaw18_CoverBoxes.l2])
                  | succ k3 =>
                    have H := HA.out
                    clear HA
                    simp only [versallaw18_CoverBoxes.l2] at H
                    by_cases c42 : x20_3 < 16
                    · rw [if_pos c42] at H
                      have c42b0 : decide (x20_3 < 16) = true := decide_eq_true c42
                      clear c42
                      replace H := Option.bind_eq_some_iff.mp H
                      obtain ⟨t154, A430, H⟩ := H
                      replace H : ((versallaw18_box.f (wrap64 (t131 - 8)) (wrap64 (t132 - 8)) (wrap64 (2 * t133)) t134).bind fun t155 => ((cover_Winding.f k3 t155 (wrap64 ((wrap64 ((wrap64 ((wrap64 (8 * (wrap64 (t135 - 2)))) + (wrap64 (2 * (Int.tmod x20_3 4))))) + 1)) * 8192)) (wrap64 ((wrap64 ((wrap64 ((wrap64 (8 * (wrap64 (t136 - 2)))) + (wrap64 (2 * (wrap64 (Int.tdiv x20_3 4)))))) + 1)) * 8192))).bind fun t158 => (if t154 = t158 then (versallaw18_CoverBoxes.l2 k3 (wrap64 (t131 - 8)) (wrap64 (t132 - 8)) t133 t134 (wrap64 (t135 - 2)) (wrap64 (t136 - 2)) y151 (wrap64 (x20_3 + 1))) else (some false)))) = some r := H
                      have A43 := Aside0.mk A430
                      clear A430
                      replace H := Option.bind_eq_some_iff.mp H
                      obtain ⟨t155, A440, H⟩ := H
                      replace H : ((cover_Winding.f k3 t155 (wrap64 ((wrap64 ((wrap64 ((wrap64 (8 * (wrap64 (t135 - 2)))) + (wrap64 (2 * (Int.tmod x20_3 4))))) + 1)) * 8192)) (wrap64 ((wrap64 ((wrap64 ((wrap64 (8 * (wrap64 (t136 - 2)))) + (wrap64 (2 * (wrap64 (Int.tdiv x20_3 4)))))) + 1)) * 8192))).bind fun t158 => (if t154 = t158 then (versallaw18_CoverBoxes.l2 k3 (wrap64 (t131 - 8)) (wrap64 (t132 - 8)) t133 t134 (wrap64 (t135 - 2)) (wrap64 (t136 - 2)) y151 (wrap64 (x20_3 + 1))) else (some false))) = some r := H
                      have A44 := Aside0.mk A440
                      clear A440
                      replace H := Option.bind_eq_some_iff.mp H
                      obtain ⟨t158, A450, H⟩ := H
                      replace H : (if t154 = t158 then (versallaw18_CoverBoxes.l2 k3 (wrap64 (t131 - 8)) (wrap64 (t132 - 8)) t133 t134 (wrap64 (t135 - 2)) (wrap64 (t136 - 2)) y151 (wrap64 (x20_3 + 1))) else (some false)) = some r := H
                      have A45 := Aside0.mk A450
                      clear A450
                      by_cases c46 : t154 = t158
                      · rw [if_pos c46] at H
                        have c46b0 : (t154 == t158) = true := beq_iff_eq.mpr c46
                        have c46b1 : (t154 != t158) = false := bne_eq_false_iff_eq.mpr c46
                        clear c46
                        have H' := Aside0.mk H
                        clear H
                        obtain ⟨Ao47, co47, eo47⟩ := Kd.R_slice HO_19.out
                        subst eo47
                        go_wp2_with (first | ((with_reducible refine gate_callee (f := 14) rfl ?_); refine goesL_ (some 147) rfl rfl Try.func14 (by kernel_rfl) rfl #[.slice Ao47 y151.length co47, .int .i64 (wrap64 ((wrap64 ((wrap64 ((wrap64 (8 * (wrap64 (t135 - 2)))) + (wrap64 (2 * (Int.tmod x20_3 4))))) + 1)) * 8192)), .int .i64 (wrap64 ((wrap64 ((wrap64 ((wrap64 (8 * (wrap64 (t136 - 2)))) + (wrap64 (2 * (wrap64 (Int.tdiv x20_3 4)))))) + 1)) * 8192))] rfl (by (try simp only [List.map_toArray, List.map_cons, List.map_nil]); first | done | rfl | (simp only [List.length_drop, List.length_take]; rfl)) ?_; (with_reducible refine (cover_Winding.calls k3 _ _ y151 (wrap64 ((wrap64 ((wrap64 ((wrap64 (8 * (wrap64 (t135 - 2)))) + (wrap64 (2 * (Int.tmod x20_3 4))))) + 1)) * 8192)) (wrap64 ((wrap64 ((wrap64 ((wrap64 (8 * (wrap64 (t136 - 2)))) + (wrap64 (2 * (wrap64 (Int.tdiv x20_3 4)))))) + 1)) * 8192)) t154 _ ?side1 ?side2 A43.out).mono ?_); (case side1 => repeat (first | exact (Kd.R_reads' HO_19.out).2.2 | (with_reducible refine Kd.C_alloc ?_ _) | (with_reducible refine Kd.C_drewN ?_ _) | (with_reducible refine Kd.C_drew ?_))); (case side2 => exact (Kd.R_reads' HO_19.out).2.1); rintro e w48 ⟨rfl, hb⟩; refine ⟨_, rfl, ?_⟩; have n0_ := Aside0.mk (Kd.R_below (by (with_reducible repeat (first | apply Kd.R_alloc | apply Kd.R_drewN | apply Kd.R_drew)); exact HO_19.out) hb); have n1_ := Aside0.mk (below_step (by repeat (first | (with_reducible first | exact HB.out | apply below_alloc | apply pw_below_drewN | apply below_drew1) | exact HB.out)) hb); clear HO_19; clear HB; have HO_19 := n0_; have HB := n1_; clear n0_ n1_; (try clear hb); (try clear hb2); (try clear hk); (try clear hi)) | ((with_reducible refine gate_callee (f := 13) rfl ?_); refine goesL_ (some 153) rfl rfl Try.func13 (by kernel_rfl) rfl #[.int .i64 (wrap64 (t131 - 8)), .int .i64 (wrap64 (t132 - 8)), .int .i64 (wrap64 (2 * t133)), .int .i64 t134] rfl (by (try simp only [List.map_toArray, List.map_cons, List.map_nil]); first | done | rfl | (simp only [List.length_drop, List.length_take]; rfl)) ?_; (with_reducible refine (versallaw18_box.calls (wrap64 (t131 - 8)) (wrap64 (t132 - 8)) (wrap64 (2 * t133)) t134 t155 _ A44.out).mono ?_); rintro e w49 ⟨v156, rfl, ho0, hb⟩; refine ⟨_, rfl, ?_⟩; have n0_ := Aside0.mk (Kd.R_elder' (by (with_reducible repeat (first | apply Kd.R_alloc | apply Kd.R_drewN | apply Kd.R_drew)); exact HO_19.out) (Kd.R_base ho0) hb); have n1_ := Aside0.mk (Kd.R_lower (Kd.R_new' ho0 (Kd.R_lt (by (with_reducible repeat (first | apply Kd.R_alloc | apply Kd.R_drewN | apply Kd.R_drew)); exact HO_19.out))) (below_size (by repeat (first | (with_reducible first | exact HB.out | apply below_alloc | apply pw_below_drewN | apply below_drew1) | exact HB.out)))); have n2_ := Aside0.mk (below_step (by repeat (first | (with_reducible first | exact HB.out | apply below_alloc | apply pw_below_drewN | apply below_drew1) | exact HB.out)) hb); clear HO_19; clear HB; have HO_19 := n0_; have HO157 := n1_; have HB := n2_; clear n0_ n1_ n2_; (try clear hb); (try clear hb2); (try clear hk); (try clear hi); (try clear ho0); obtain ⟨Ao50, co50, eo50⟩ := Kd.R_slice HO157.out; subst eo50) | ((with_reducible refine gate_callee (f := 14) rfl ?_); refine goesL_ (some 156) rfl rfl Try.func14 (by kernel_rfl) rfl #[.slice Ao50 t155.length co50, .int .i64 (wrap64 ((wrap64 ((wrap64 ((wrap64 (8 * (wrap64 (t135 - 2)))) + (wrap64 (2 * (Int.tmod x20_3 4))))) + 1)) * 8192)), .int .i64 (wrap64 ((wrap64 ((wrap64 ((wrap64 (8 * (wrap64 (t136 - 2)))) + (wrap64 (2 * (wrap64 (Int.tdiv x20_3 4)))))) + 1)) * 8192))] rfl (by (try simp only [List.map_toArray, List.map_cons, List.map_nil]); first | done | rfl | (simp only [List.length_drop, List.length_take]; rfl)) ?_; (with_reducible refine (cover_Winding.calls k3 _ _ t155 (wrap64 ((wrap64 ((wrap64 ((wrap64 (8 * (wrap64 (t135 - 2)))) + (wrap64 (2 * (Int.tmod x20_3 4))))) + 1)) * 8192)) (wrap64 ((wrap64 ((wrap64 ((wrap64 (8 * (wrap64 (t136 - 2)))) + (wrap64 (2 * (wrap64 (Int.tdiv x20_3 4)))))) + 1)) * 8192)) t158 _ ?side1 ?side2 A45.out).mono ?_); (case side1 => repeat (first | exact (Kd.R_reads' HO157.out).2.2 | (with_reducible refine Kd.C_alloc ?_ _) | (with_reducible refine Kd.C_drewN ?_ _) | (with_reducible refine Kd.C_drew ?_))); (case side2 => exact (Kd.R_reads' HO157.out).2.1); rintro e w51 ⟨rfl, hb⟩; refine ⟨_, rfl, ?_⟩; have n0_ := Aside0.mk (Kd.R_below (by (with_reducible repeat (first | apply Kd.R_alloc | apply Kd.R_drewN | apply Kd.R_drew)); exact HO_19.out) hb); have n1_ := Aside0.mk (Kd.R_below (by (with_reducible repeat (first | apply Kd.R_alloc | apply Kd.R_drewN | apply Kd.R_drew)); exact HO157.out) hb); have n2_ := Aside0.mk (below_step (by repeat (first | (with_reducible first | exact HB.out | apply below_alloc | apply pw_below_drewN | apply below_drew1) | exact HB.out)) hb); clear HO_19; clear HO157; clear HB; have HO_19 := n0_; have HO157 := n1_; have HB := n2_; clear n0_ n1_ n2_; (try clear hb); (try clear hb2); (try clear hk); (try clear hi)))
                        go_roundg k3
                        case measure => have := HK1.out; have := HJ23.out; have := HK3.out; omega
                        case rel => exact ⟨(wrap64 (x20_3 + 1)), (by first | rfl | (simp; done) | (simp [*]; done)), H', ⟨by have := HK1.out; have := HJ23.out; have := HK3.out; omega⟩, ⟨by (with_reducible repeat (first | apply Kd.R_alloc | apply Kd.R_drewN | apply Kd.R_drew)); exact Kd.R_mono HO_19.out (fun _ hk => trivial)⟩, ⟨by repeat (first | (with_reducible first | exact HB.out | apply below_alloc | apply pw_below_drewN | apply below_drew1) | exact HB.out)⟩⟩
                      · rw [if_neg c46] at H
                        have c46b0 : (t154 == t158) = false := beq_eq_false_iff_ne.mpr c46
                        have c46b1 : (t154 != t158) = true := bne_iff_ne.mpr c46
                        obtain rfl := Option.some.inj H
                        obtain ⟨Ao52, co52, eo52⟩ := Kd.R_slice HO_19.out
                        subst eo52
                        go_wp2_with (first | ((with_reducible refine gate_callee (f := 14) rfl ?_); refine goesL_ (some 147) rfl rfl Try.func14 (by kernel_rfl) rfl #[.slice Ao52 y151.length co52, .int .i64 (wrap64 ((wrap64 ((wrap64 ((wrap64 (8 * (wrap64 (t135 - 2)))) + (wrap64 (2 * (Int.tmod x20_3 4))))) + 1)) * 8192)), .int .i64 (wrap64 ((wrap64 ((wrap64 ((wrap64 (8 * (wrap64 (t136 - 2)))) + (wrap64 (2 * (wrap64 (Int.tdiv x20_3 4)))))) + 1)) * 8192))] rfl (by (try simp only [List.map_toArray, List.map_cons, List.map_nil]); first | done | rfl | (simp only [List.length_drop, List.length_take]; rfl)) ?_; (with_reducible refine (cover_Winding.calls k3 _ _ y151 (wrap64 ((wrap64 ((wrap64 ((wrap64 (8 * (wrap64 (t135 - 2)))) + (wrap64 (2 * (Int.tmod x20_3 4))))) + 1)) * 8192)) (wrap64 ((wrap64 ((wrap64 ((wrap64 (8 * (wrap64 (t136 - 2)))) + (wrap64 (2 * (wrap64 (Int.tdiv x20_3 4)))))) + 1)) * 8192)) t154 _ ?side1 ?side2 A43.out).mono ?_); (case side1 => repeat (first | exact (Kd.R_reads' HO_19.out).2.2 | (with_reducible refine Kd.C_alloc ?_ _) | (with_reducible refine Kd.C_drewN ?_ _) | (with_reducible refine Kd.C_drew ?_))); (case side2 => exact (Kd.R_reads' HO_19.out).2.1); rintro e w53 ⟨rfl, hb⟩; refine ⟨_, rfl, ?_⟩; have n0_ := Aside0.mk (Kd.R_below (by (with_reducible repeat (first | apply Kd.R_alloc | apply Kd.R_drewN | apply Kd.R_drew)); exact HO_19.out) hb); have n1_ := Aside0.mk (below_step (by repeat (first | (with_reducible first | exact HB.out | apply below_alloc | apply pw_below_drewN | apply below_drew1) | exact HB.out)) hb); clear HO_19; clear HB; have HO_19 := n0_; have HB := n1_; clear n0_ n1_; (try clear hb); (try clear hb2); (try clear hk); (try clear hi)) | ((with_reducible refine gate_callee (f := 13) rfl ?_); refine goesL_ (some 153) rfl rfl Try.func13 (by kernel_rfl) rfl #[.int .i64 (wrap64 (t131 - 8)), .int .i64 (wrap64 (t132 - 8)), .int .i64 (wrap64 (2 * t133)), .int .i64 t134] rfl (by (try simp only [List.map_toArray, List.map_cons, List.map_nil]); first | done | rfl | (simp only [List.length_drop, List.length_take]; rfl)) ?_; (with_reducible refine (versallaw18_box.calls (wrap64 (t131 - 8)) (wrap64 (t132 - 8)) (wrap64 (2 * t133)) t134 t155 _ A44.out).mono ?_); rintro e w54 ⟨v156, rfl, ho0, hb⟩; refine ⟨_, rfl, ?_⟩; have n0_ := Aside0.mk (Kd.R_elder' (by (with_reducible repeat (first | apply Kd.R_alloc | apply Kd.R_drewN | apply Kd.R_drew)); exact HO_19.out) (Kd.R_base ho0) hb); have n1_ := Aside0.mk (Kd.R_lower (Kd.R_new' ho0 (Kd.R_lt (by (with_reducible repeat (first | apply Kd.R_alloc | apply Kd.R_drewN | apply Kd.R_drew)); exact HO_19.out))) (below_size (by repeat (first | (with_reducible first | exact HB.out | apply below_alloc | apply pw_below_drewN | apply below_drew1) | exact HB.out)))); have n2_ := Aside0.mk (below_step (by repeat (first | (with_reducible first | exact HB.out | apply below_alloc | apply pw_below_drewN | apply below_drew1) | exact HB.out)) hb); clear HO_19; clear HB; have HO_19 := n0_; have HO157 := n1_; have HB := n2_; clear n0_ n1_ n2_; (try clear hb); (try clear hb2); (try clear hk); (try clear hi); (try clear ho0); obtain ⟨Ao55, co55, eo55⟩ := Kd.R_slice HO157.out; subst eo55) | ((with_reducible refine gate_callee (f := 14) rfl ?_); refine goesL_ (some 156) rfl rfl Try.func14 (by kernel_rfl) rfl #[.slice Ao55 t155.length co55, .int .i64 (wrap64 ((wrap64 ((wrap64 ((wrap64 (8 * (wrap64 (t135 - 2)))) + (wrap64 (2 * (Int.tmod x20_3 4))))) + 1)) * 8192)), .int .i64 (wrap64 ((wrap64 ((wrap64 ((wrap64 (8 * (wrap64 (t136 - 2)))) + (wrap64 (2 * (wrap64 (Int.tdiv x20_3 4)))))) + 1)) * 8192))] rfl (by (try simp only [List.map_toArray, List.map_cons, List.map_nil]); first | done | rfl | (simp only [List.length_drop, List.length_take]; rfl)) ?_; (with_reducible refine (cover_Winding.calls k3 _ _ t155 (wrap64 ((wrap64 ((wrap64 ((wrap64 (8 * (wrap64 (t135 - 2)))) + (wrap64 (2 * (Int.tmod x20_3 4))))) + 1)) * 8192)) (wrap64 ((wrap64 ((wrap64 ((wrap64 (8 * (wrap64 (t136 - 2)))) + (wrap64 (2 * (wrap64 (Int.tdiv x20_3 4)))))) + 1)) * 8192)) t158 _ ?side1 ?side2 A45.out).mono ?_); (case side1 => repeat (first | exact (Kd.R_reads' HO157.out).2.2 | (with_reducible refine Kd.C_alloc ?_ _) | (with_reducible refine Kd.C_drewN ?_ _) | (with_reducible refine Kd.C_drew ?_))); (case side2 => exact (Kd.R_reads' HO157.out).2.1); rintro e w56 ⟨rfl, hb⟩; refine ⟨_, rfl, ?_⟩; have n0_ := Aside0.mk (Kd.R_below (by (with_reducible repeat (first | apply Kd.R_alloc | apply Kd.R_drewN | apply Kd.R_drew)); exact HO_19.out) hb); have n1_ := Aside0.mk (Kd.R_below (by (with_reducible repeat (first | apply Kd.R_alloc | apply Kd.R_drewN | apply Kd.R_drew)); exact HO157.out) hb); have n2_ := Aside0.mk (below_step (by repeat (first | (with_reducible first | exact HB.out | apply below_alloc | apply pw_below_drewN | apply below_drew1) | exact HB.out)) hb); clear HO_19; clear HO157; clear HB; have HO_19 := n0_; have HO157 := n1_; have HB := n2_; clear n0_ n1_ n2_; (try clear hb); (try clear hb2); (try clear hk); (try clear hi)))
                        go_ret
                        exact ⟨by first | rfl | (simp [errW_none, errW_some] <;> rfl) | (simp [*, errW_none, errW_some] <;> rfl), by repeat (first | (with_reducible first | exact HB.out | apply below_alloc | apply pw_below_drewN | apply below_drew1) | exact HB.out)⟩
                    · rw [if_neg c42] at H
                      have c42b0 : decide (x20_3 < 16) = false := decide_eq_false c42
                      clear c42
                      obtain rfl := Option.some.inj H
                      go_wp2
                      go_ret
                      exact ⟨by first | rfl | (simp [errW_none, errW_some] <;> rfl) | (simp [*, errW_none, errW_some] <;> rfl), by repeat (first | (with_reducible first | exact HB.out | apply below_alloc | apply pw_below_drewN | apply below_drew1) | exact HB.out)⟩
              · rw [if_neg c37] at H
                exact absurd H (by simp)

/-- THE ONE PURE STATEMENT of versallaw18_CoverBoxes: yours. -/
def versallaw18_CoverBoxes.Pure : Prop := ∀ (a0 : Int) (a1 : Int) (a2 : Int) (a3 : Int) (a4 : Int) (a5 : Int), (Lit.int .i64 a0).wf = true → (Lit.int .i64 a1).wf = true → (Lit.int .i64 a2).wf = true → (Lit.int .i64 a3).wf = true → (Lit.int .i64 a4).wf = true → (Lit.int .i64 a5).wf = true → ∃ k, versallaw18_CoverBoxes.f k a0 a1 a2 a3 a4 a5 = some true
theorem versallaw18_CoverBoxes.walk (P : versallaw18_CoverBoxes.Pure) (a0 : Int) (a1 : Int) (a2 : Int) (a3 : Int) (a4 : Int) (a5 : Int) (w : World) (w0 : (Lit.int .i64 a0).wf = true) (w1 : (Lit.int .i64 a1).wf = true) (w2 : (Lit.int .i64 a2).wf = true) (w3 : (Lit.int .i64 a3).wf = true) (w4 : (Lit.int .i64 a4).wf = true) (w5 : (Lit.int .i64 a5).wf = true) :
    Calls Try.prog 6 #[.int .i64 a0, .int .i64 a1, .int .i64 a2, .int .i64 a3, .int .i64 a4, .int .i64 a5] w fun e w' => e = .returned (.bool true) ∧ Below w.heap.size w w' := by
  obtain ⟨k, h⟩ := P a0 a1 a2 a3 a4 a5 w0 w1 w2 w3 w4 w5
  refine (versallaw18_CoverBoxes.calls k a0 a1 a2 a3 a4 a5 true w h).mono ?_
  rintro e w' ⟨rfl, hd⟩
  exact ⟨rfl, hd⟩

end Go.Proofs.Ytkagmelijdfdiaa.PCoverBoxes
