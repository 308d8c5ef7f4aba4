/- Contracts of functions that a program printed, laid together: each says what one Go function answers. -/
import Derived.Test.YtkeacdpphmdodaaPFixedTellsx1
namespace Go.Proofs.Ytkeacdpphmdodaa.FixRef
open Go.RowKit Go.Proofs.YtkeacdpphmdodaaW.PrintWords Go.Proofs.YtkeacdpphmdodaaW.PrintLast Go.Proofs.YtkeacdpphmdodaaW.PrintMore Go.Proofs.Ytkeacdpphmdodaa.PFixedTells
attribute [local go_sem] max2_int min2_int max_two min_two max_three min_three max_four min_four
set_option linter.unusedVariables false
set_option linter.unusedSimpArgs false

/-! ### versalref2_Div: function 53 -/
mutual
def versalref2_Div.j0 : Nat → Int → Int → Bool → Option (Int)
  | 0, _, _, _ => none
  | k + 1, x0, x1, x9 => if x9 = true then (some 2147483647) else (if x1 = 0 then (versalref2_Div.j1 k x0 x1 (decide (x0 < 0))) else (versalref2_Div.j1 k x0 x1 false))
def versalref2_Div.j1 : Nat → Int → Int → Bool → Option (Int)
  | 0, _, _, _ => none
  | k + 1, x0, x1, x16 => if x16 = true then (some (-2147483647)) else (if x1 = 0 then (some 0) else (if x1 < 0 then ((versalref2_Floor.f (wrap64 ((wrap64 (-x0)) * 65536)) (wrap64 (-x1))).bind fun t136 => ((versalref2_Clip.f t136).bind fun t137 => (some t137))) else ((versalref2_Floor.f (wrap64 (x0 * 65536)) x1).bind fun t138 => ((versalref2_Clip.f t138).bind fun t139 => (some t139)))))
end
def versalref2_Div.f (k : Nat) (a0 : Int) (a1 : Int) : Option (Int) := (versalref2_Clip.f a0).bind fun t134 => ((versalref2_Clip.f a1).bind fun t135 => (if t135 = 0 then (versalref2_Div.j0 k t134 t135 (decide (t134 > 0))) else (versalref2_Div.j0 k t134 t135 false)))
theorem versalref2_Div.mono_l : ∀ k, (∀ y0 y1 y2, LeO (versalref2_Div.j0 k y0 y1 y2) (versalref2_Div.j0 (k + 1) y0 y1 y2)) ∧ (∀ y0 y1 y2, LeO (versalref2_Div.j1 k y0 y1 y2) (versalref2_Div.j1 (k + 1) y0 y1 y2))
  | 0 => ⟨fun _ _ _ r h => by simp [versalref2_Div.j0] at h, fun _ _ _ r h => by simp [versalref2_Div.j1] at h⟩
  | k + 1 => by
    obtain ⟨ih0, ih1⟩ := versalref2_Div.mono_l k
    refine ⟨?_, ?_⟩
    · intro y0 y1 y2
      unfold versalref2_Div.j0
      repeat' first
      | (with_reducible exact ih0 _ _ _)
      | (with_reducible exact ih1 _ _ _)
      | (with_reducible exact LeO.refl _)
      | (with_reducible exact LeO.none _)
      | (with_reducible refine LeO.ite ?_ ?_)
      | (with_reducible refine LeO.bind ?_ (fun _ => ?_))
      | exact ih0 _ _ _
      | exact ih1 _ _ _
      | exact LeO.none _
      | refine LeO.ite ?_ ?_
      | refine LeO.bind ?_ (fun _ => ?_)
    · intro y0 y1 y2
      unfold versalref2_Div.j1
      repeat' first
      | (with_reducible exact ih0 _ _ _)
      | (with_reducible exact ih1 _ _ _)
      | (with_reducible exact LeO.refl _)
      | (with_reducible exact LeO.none _)
      | (with_reducible refine LeO.ite ?_ ?_)
      | (with_reducible refine LeO.bind ?_ (fun _ => ?_))
      | exact ih0 _ _ _
      | exact ih1 _ _ _
      | exact LeO.none _
      | refine LeO.ite ?_ ?_
      | refine LeO.bind ?_ (fun _ => ?_)
theorem versalref2_Div.mono : ∀ a0 a1 k, LeO (versalref2_Div.f k a0 a1) (versalref2_Div.f (k + 1) a0 a1) := by
  intro a0 a1 k
  obtain ⟨ih0, ih1⟩ := versalref2_Div.mono_l k
  unfold versalref2_Div.f
  repeat' first
      | (with_reducible exact ih0 _ _ _)
      | (with_reducible exact ih1 _ _ _)
      | (with_reducible exact LeO.refl _)
      | (with_reducible exact LeO.none _)
      | (with_reducible refine LeO.ite ?_ ?_)
      | (with_reducible refine LeO.bind ?_ (fun _ => ?_))
      | exact ih0 _ _ _
      | exact ih1 _ _ _
      | exact LeO.none _
      | refine LeO.ite ?_ ?_
      | refine LeO.bind ?_ (fun _ => ?_)
set_option maxHeartbeats 8000000 in
set_option maxRecDepth 100000 in
theorem versalref2_Div.calls (k : Nat) (a0 : Int) (a1 : Int) (r : Int) (w : World) (h : versalref2_Div.f k a0 a1 = some r) :
    Calls Try.prog 53 #[.int .i64 a0, .int .i64 a1] w fun e w' => e = .returned (.int .i64 r) ∧ Below w.heap.size w w' := by
  have HB := Aside0.mk (Below.refl w.heap.size w)
  have H : ((versalref2_Clip.f a0).bind fun t134 => ((versalref2_Clip.f a1).bind fun t135 => (if t135 = 0 then (versalref2_Div.j0 k t134 t135 (decide (t134 > 0))) else (versalref2_Div.j0 k t134 t135 false)))) = some r := h
  clear h
  replace H := Option.bind_eq_some_iff.mp H
  obtain ⟨t134, A30, H⟩ := H
  replace H : ((versalref2_Clip.f a1).bind fun t135 => (if t135 = 0 then (versalref2_Div.j0 k t134 t135 (decide (t134 > 0))) else (versalref2_Div.j0 k t134 t135 false))) = some r := H
  have A3 := Aside0.mk A30
  clear A30
  replace H := Option.bind_eq_some_iff.mp H
  obtain ⟨t135, A40, H⟩ := H
  replace H : (if t135 = 0 then (versalref2_Div.j0 k t134 t135 (decide (t134 > 0))) else (versalref2_Div.j0 k t134 t135 false)) = some r := H
  have A4 := Aside0.mk A40
  clear A40
  have HC5 := Aside0.mk H
  clear H
  go_enter Try.func53, Try.ntmps53
  go_upto_region 3 with (first | ((with_reducible refine gate_callee (f := 51) rfl ?_); refine goesL_ (some 6) rfl rfl Try.func51 (by kernel_rfl) rfl #[.int .i64 a0] rfl (by (try simp only [List.map_toArray, List.map_cons, List.map_nil]); first | done | rfl | (simp only [List.length_drop, List.length_take]; rfl)) ?_; (with_reducible refine (versalref2_Clip.calls a0 t134 _ A3.out).mono ?_); rintro e w6 ⟨rfl, hb⟩; refine ⟨_, rfl, ?_⟩; have n0_ := Aside0.mk (below_step (by repeat (first | (with_reducible first | exact HB.out | apply below_alloc | apply pw_below_drewN | apply below_drew1) | exact HB.out)) hb); clear HB; have HB := n0_; clear n0_; (try clear hb); (try clear hb2); (try clear hk); (try clear hi)) | ((with_reducible refine gate_callee (f := 51) rfl ?_); refine goesL_ (some 8) rfl rfl Try.func51 (by kernel_rfl) rfl #[.int .i64 a1] rfl (by (try simp only [List.map_toArray, List.map_cons, List.map_nil]); first | done | rfl | (simp only [List.length_drop, List.length_take]; rfl)) ?_; (with_reducible refine (versalref2_Clip.calls a1 t135 _ A4.out).mono ?_); rintro e w7 ⟨rfl, hb⟩; refine ⟨_, rfl, ?_⟩; have n0_ := Aside0.mk (below_step (by repeat (first | (with_reducible first | exact HB.out | apply below_alloc | apply pw_below_drewN | apply below_drew1) | exact HB.out)) hb); clear HB; have HB := n0_; clear n0_; (try clear hb); (try clear hb2); (try clear hk); (try clear hi)))
  (try simp only [Act.put, List.setIfInBounds_toArray, List.set_cons_zero, List.set_cons_succ])
  go_cut [9] (fun v9 wc => ∃ (kq : Nat) (x9_4 : Bool), v9 = .bool x9_4 ∧ Aside0 (versalref2_Div.j0 kq t134 t135 x9_4 = some r) ∧ Aside0 (kq ≤ k) ∧ Aside0 (Below w.heap.size w wc))
  case first =>
    have H := HC5.out
    clear HC5
    by_cases c8 : t135 = 0
    · rw [if_pos c8] at H
      have c8b0 : (t135 == 0) = true := beq_iff_eq.mpr c8
      have c8b1 : (t135 != 0) = false := bne_eq_false_iff_eq.mpr c8
      clear c8
      (first | rw [c8b0] | (simp only [i64_w, i32_w]; rw [c8b0]) | skip)
      have H' := Aside0.mk H
      clear H
      go_wp2
      go_meet
      case rel => exact ⟨_, (decide (t134 > 0)), (by first | rfl | (simp; done) | (simp [*]; done)), H', ⟨by first | omega | exact Nat.le_refl _⟩, ⟨by repeat (first | (with_reducible first | exact HB.out | apply below_alloc | apply pw_below_drewN | apply below_drew1) | exact HB.out)⟩⟩
    · rw [if_neg c8] at H
      have c8b0 : (t135 == 0) = false := beq_eq_false_iff_ne.mpr c8
      have c8b1 : (t135 != 0) = true := bne_iff_ne.mpr c8
      (first | rw [c8b0] | (simp only [i64_w, i32_w]; rw [c8b0]) | skip)
      have H' := Aside0.mk H
      clear H
      go_wp2
      go_meet
      case rel => exact ⟨_, (false), (by first | rfl | (simp; done) | (simp [*]; done)), H', ⟨by first | omega | exact Nat.le_refl _⟩, ⟨by repeat (first | (with_reducible first | exact HB.out | apply below_alloc | apply pw_below_drewN | apply below_drew1) | exact HB.out)⟩⟩
  case rest =>
    clear HC5
    try clear p2
    try clear c5
    try clear c8
    try clear c8b0
    try clear c8b1
    obtain ⟨kq, x9_4, rfl, HA, HJ4, HB⟩ := hcut
    cases kq with
    | zero => exact absurd HA.out (by simp [versalref2_Div.j0])
    | succ kj4 =>
      have H := HA.out
      clear HA
      simp only [versalref2_Div.j0] at H
      by_cases c9 : x9_4 = true
      · subst c9
        have H1 : (some 2147483647) = some r := by rw [if_pos rfl] at H; exact H
        clear H
        have H := H1
        clear H1
        obtain rfl := Option.some.inj H
        go_wp2
        go_ret
        exact ⟨by first | rfl | (simp [errW_none, errW_some] <;> rfl) | (simp [*, errW_none, errW_some] <;> rfl), by repeat (first | (with_reducible first | exact HB.out | apply below_alloc | apply pw_below_drewN | apply below_drew1) | exact HB.out)⟩
      · replace c9 := Bool.eq_false_iff.mpr c9
        subst c9
        have H1 : (if t135 = 0 then (versalref2_Div.j1 kj4 t134 t135 (decide (t134 < 0))) else (versalref2_Div.j1 kj4 t134 t135 false)) = some r := by rw [if_neg (show ¬ (false = true) by decide)] at H; exact H
        clear H
        have H := H1
        clear H1
        have HC10 := Aside0.mk H
        clear H
        go_upto_region 5 with (fail)
        go_cut [16] (fun v16 wc => ∃ (kq : Nat) (x16_9 : Bool), v16 = .bool x16_9 ∧ Aside0 (versalref2_Div.j1 kq t134 t135 x16_9 = some r) ∧ Aside0 (kq ≤ kj4) ∧ Aside0 (Below w.heap.size w wc))
        case first =>
          have H := HC10.out
          clear HC10
          by_cases c11 : t135 = 0
          · rw [if_pos c11] at H
            have c11b0 : (t135 == 0) = true := beq_iff_eq.mpr c11
            have c11b1 : (t135 != 0) = false := bne_eq_false_iff_eq.mpr c11
            clear c11
            (first | rw [c11b0] | (simp only [i64_w, i32_w]; rw [c11b0]) | skip)
            have H' := Aside0.mk H
            clear H
            go_wp2
            go_meet
            case rel => exact ⟨_, (decide (t134 < 0)), (by first | rfl | (simp; done) | (simp [*]; done)), H', ⟨by have := HJ4.out; first | omega | exact Nat.le_refl _⟩, ⟨by repeat (first | (with_reducible first | exact HB.out | apply below_alloc | apply pw_below_drewN | apply below_drew1) | exact HB.out)⟩⟩
          · rw [if_neg c11] at H
            have c11b0 : (t135 == 0) = false := beq_eq_false_iff_ne.mpr c11
            have c11b1 : (t135 != 0) = true := bne_iff_ne.mpr c11
            (first | rw [c11b0] | (simp only [i64_w, i32_w]; rw [c11b0]) | skip)
            have H' := Aside0.mk H
            clear H
            go_wp2
            go_meet
            case rel => exact ⟨_, (false), (by first | rfl | (simp; done) | (simp [*]; done)), H', ⟨by have := HJ4.out; first | omega | exact Nat.le_refl _⟩, ⟨by repeat (first | (with_reducible first | exact HB.out | apply below_alloc | apply pw_below_drewN | apply below_drew1) | exact HB.out)⟩⟩
        case rest =>
          clear HC10
          try clear c1
          try clear p2
          try clear c5
          try clear c8
          try clear c8b0
          try clear c8b1
          try clear c9
          try clear c11
          try clear c11b0
          try clear c11b1
          try clear p2
          obtain ⟨kq, x16_9, rfl, HA, HJ9, HB⟩ := hcut
          cases kq with
          | zero => exact absurd HA.out (by simp [versalref2_Div.j1])
          | succ kj9 =>
            have H := HA.out
            clear HA
            simp only [versalref2_Div.j1] at H
            by_cases c12 : x16_9 = true
            · subst c12
              have H1 : (some (-2147483647)) = some r := by rw [if_pos rfl] at H; exact H
              clear H
              have H := H1
              clear H1
              obtain rfl := Option.some.inj H
              go_wp2
              go_ret
              exact ⟨by first | rfl | (simp [errW_none, errW_some] <;> rfl) | (simp [*, errW_none, errW_some] <;> rfl), by repeat (first | (with_reducible first | exact HB.out | apply below_alloc | apply pw_below_drewN | apply below_drew1) | exact HB.out)⟩
            · replace c12 := Bool.eq_false_iff.mpr c12
              subst c12
              have H1 : (if t135 = 0 then (some 0) else (if t135 < 0 then ((versalref2_Floor.f (wrap64 ((wrap64 (-t134)) * 65536)) (wrap64 (-t135))).bind fun t136 => ((versalref2_Clip.f t136).bind fun t137 => (some t137))) else ((versalref2_Floor.f (wrap64 (t134 * 65536)) t135).bind fun t138 => ((versalref2_Clip.f t138).bind fun t139 => (some t139))))) = some r := by rw [if_neg (show ¬ (false = true) by decide)] at H; exact H
              clear H
              have H := H1
              clear H1
              by_cases c13 : t135 = 0
              · rw [if_pos c13] at H
                have c13b0 : (t135 == 0) = true := beq_iff_eq.mpr c13
                have c13b1 : (t135 != 0) = false := bne_eq_false_iff_eq.mpr c13
                clear c13
                obtain rfl := Option.some.inj H
                go_wp2
                go_ret
                exact ⟨by first | rfl | (simp [errW_none, errW_some] <;> rfl) | (simp [*, errW_none, errW_some] <;> rfl), by repeat (first | (with_reducible first | exact HB.out | apply below_alloc | apply pw_below_drewN | apply below_drew1) | exact HB.out)⟩
              · rw [if_neg c13] at H
                have c13b0 : (t135 == 0) = false := beq_eq_false_iff_ne.mpr c13
                have c13b1 : (t135 != 0) = true := bne_iff_ne.mpr c13
                by_cases c14 : t135 < 0
                · rw [if_pos c14] at H
                  have c14b0 : decide (t135 < 0) = true := decide_eq_true c14
                  clear c14
                  replace H := Option.bind_eq_some_iff.mp H
                  obtain ⟨t136, A150, H⟩ := H
                  replace H : ((versalref2_Clip.f t136).bind fun t137 => (some t137)) = some r := H
                  have A15 := Aside0.mk A150
                  clear A150
                  replace H := Option.bind_eq_some_iff.mp H
                  obtain ⟨t137, A160, H⟩ := H
                  replace H : (some t137) = some r := H
                  have A16 := Aside0.mk A160
                  clear A160
                  obtain rfl := Option.some.inj H
                  go_wp2_with (first | ((with_reducible refine gate_callee (f := 74) rfl ?_); refine goesL_ (some 34) rfl rfl Try.func74 (by kernel_rfl) rfl #[.int .i64 (wrap64 ((wrap64 (-t134)) * 65536)), .int .i64 (wrap64 (-t135))] rfl (by (try simp only [List.map_toArray, List.map_cons, List.map_nil]); first | done | rfl | (simp only [List.length_drop, List.length_take]; rfl)) ?_; (with_reducible refine (versalref2_Floor.calls (wrap64 ((wrap64 (-t134)) * 65536)) (wrap64 (-t135)) t136 _ A15.out).mono ?_); rintro e w' ⟨rfl, ⟨nd, rfl⟩⟩; refine ⟨_, rfl, ?_⟩) | ((with_reducible refine gate_callee (f := 51) rfl ?_); refine goesL_ (some 35) rfl rfl Try.func51 (by kernel_rfl) rfl #[.int .i64 t136] rfl (by (try simp only [List.map_toArray, List.map_cons, List.map_nil]); first | done | rfl | (simp only [List.length_drop, List.length_take]; rfl)) ?_; (with_reducible refine (versalref2_Clip.calls t136 t137 _ A16.out).mono ?_); rintro e w17 ⟨rfl, hb⟩; refine ⟨_, rfl, ?_⟩; have n0_ := Aside0.mk (below_step (by repeat (first | (with_reducible first | exact HB.out | apply below_alloc | apply pw_below_drewN | apply below_drew1) | exact HB.out)) hb); clear HB; have HB := n0_; clear n0_; (try clear hb); (try clear hb2); (try clear hk); (try clear hi)))
                  go_ret
                  exact ⟨by first | rfl | (simp [errW_none, errW_some] <;> rfl) | (simp [*, errW_none, errW_some] <;> rfl), by repeat (first | (with_reducible first | exact HB.out | apply below_alloc | apply pw_below_drewN | apply below_drew1) | exact HB.out)⟩
                · rw [if_neg c14] at H
                  have c14b0 : decide (t135 < 0) = false := decide_eq_false c14
                  clear c14
                  replace H := Option.bind_eq_some_iff.mp H
                  obtain ⟨t138, A180, H⟩ := H
                  replace H : ((versalref2_Clip.f t138).bind fun t139 => (some t139)) = some r := H
                  have A18 := Aside0.mk A180
                  clear A180
                  replace H := Option.bind_eq_some_iff.mp H
                  obtain ⟨t139, A190, H⟩ := H
                  replace H : (some t139) = some r := H
                  have A19 := Aside0.mk A190
                  clear A190
                  obtain rfl := Option.some.inj H
                  go_wp2_with (first | ((with_reducible refine gate_callee (f := 74) rfl ?_); refine goesL_ (some 39) rfl rfl Try.func74 (by kernel_rfl) rfl #[.int .i64 (wrap64 (t134 * 65536)), .int .i64 t135] rfl (by (try simp only [List.map_toArray, List.map_cons, List.map_nil]); first | done | rfl | (simp only [List.length_drop, List.length_take]; rfl)) ?_; (with_reducible refine (versalref2_Floor.calls (wrap64 (t134 * 65536)) t135 t138 _ A18.out).mono ?_); rintro e w' ⟨rfl, ⟨nd, rfl⟩⟩; refine ⟨_, rfl, ?_⟩) | ((with_reducible refine gate_callee (f := 51) rfl ?_); refine goesL_ (some 40) rfl rfl Try.func51 (by kernel_rfl) rfl #[.int .i64 t138] rfl (by (try simp only [List.map_toArray, List.map_cons, List.map_nil]); first | done | rfl | (simp only [List.length_drop, List.length_take]; rfl)) ?_; (with_reducible refine (versalref2_Clip.calls t138 t139 _ A19.out).mono ?_); rintro e w20 ⟨rfl, hb⟩; refine ⟨_, rfl, ?_⟩; have n0_ := Aside0.mk (below_step (by repeat (first | (with_reducible first | exact HB.out | apply below_alloc | apply pw_below_drewN | apply below_drew1) | exact HB.out)) hb); clear HB; have HB := n0_; clear n0_; (try clear hb); (try clear hb2); (try clear hk); (try clear hi)))
                  go_ret
                  exact ⟨by first | rfl | (simp [errW_none, errW_some] <;> rfl) | (simp [*, errW_none, errW_some] <;> rfl), by repeat (first | (with_reducible first | exact HB.out | apply below_alloc | apply pw_below_drewN | apply below_drew1) | exact HB.out)⟩

/-! ### versalref2_Lerp: function 54 -/
def versalref2_Lerp.f (a0 : Int) (a1 : Int) (a2 : Int) : Option (Int) := (versalref2_Clip.f a0).bind fun t140 => ((versalref2_Clip.f a1).bind fun t141 => ((versalref2_Clip.f a0).bind fun t142 => ((versalref2_Clip.f (wrap64 (t141 - t142))).bind fun t143 => ((versalref2_Mul.f t143 a2).bind fun t144 => ((versalref2_Clip.f (wrap64 (t140 + t144))).bind fun t145 => (some t145))))))
set_option maxHeartbeats 8000000 in
set_option maxRecDepth 100000 in
theorem versalref2_Lerp.calls (a0 : Int) (a1 : Int) (a2 : Int) (r : Int) (w : World) (h : versalref2_Lerp.f a0 a1 a2 = some r) :
    Calls Try.prog 54 #[.int .i64 a0, .int .i64 a1, .int .i64 a2] w fun e w' => e = .returned (.int .i64 r) ∧ Below w.heap.size w w' := by
  have HB := Aside0.mk (Below.refl w.heap.size w)
  have H : ((versalref2_Clip.f a0).bind fun t140 => ((versalref2_Clip.f a1).bind fun t141 => ((versalref2_Clip.f a0).bind fun t142 => ((versalref2_Clip.f (wrap64 (t141 - t142))).bind fun t143 => ((versalref2_Mul.f t143 a2).bind fun t144 => ((versalref2_Clip.f (wrap64 (t140 + t144))).bind fun t145 => (some t145))))))) = some r := h
  clear h
  replace H := Option.bind_eq_some_iff.mp H
  obtain ⟨t140, A40, H⟩ := H
  replace H : ((versalref2_Clip.f a1).bind fun t141 => ((versalref2_Clip.f a0).bind fun t142 => ((versalref2_Clip.f (wrap64 (t141 - t142))).bind fun t143 => ((versalref2_Mul.f t143 a2).bind fun t144 => ((versalref2_Clip.f (wrap64 (t140 + t144))).bind fun t145 => (some t145)))))) = some r := H
  have A4 := Aside0.mk A40
  clear A40
  replace H := Option.bind_eq_some_iff.mp H
  obtain ⟨t141, A50, H⟩ := H
  replace H : ((versalref2_Clip.f a0).bind fun t142 => ((versalref2_Clip.f (wrap64 (t141 - t142))).bind fun t143 => ((versalref2_Mul.f t143 a2).bind fun t144 => ((versalref2_Clip.f (wrap64 (t140 + t144))).bind fun t145 => (some t145))))) = some r := H
  have A5 := Aside0.mk A50
  clear A50
  replace H := Option.bind_eq_some_iff.mp H
  obtain ⟨t142, A60, H⟩ := H
  replace H : ((versalref2_Clip.f (wrap64 (t141 - t142))).bind fun t143 => ((versalref2_Mul.f t143 a2).bind fun t144 => ((versalref2_Clip.f (wrap64 (t140 + t144))).bind fun t145 => (some t145)))) = some r := H
  have A6 := Aside0.mk A60
  clear A60
  replace H := Option.bind_eq_some_iff.mp H
  obtain ⟨t143, A70, H⟩ := H
  replace H : ((versalref2_Mul.f t143 a2).bind fun t144 => ((versalref2_Clip.f (wrap64 (t140 + t144))).bind fun t145 => (some t145))) = some r := H
  have A7 := Aside0.mk A70
  clear A70
  replace H := Option.bind_eq_some_iff.mp H
  obtain ⟨t144, A80, H⟩ := H
  replace H : ((versalref2_Clip.f (wrap64 (t140 + t144))).bind fun t145 => (some t145)) = some r := H
  have A8 := Aside0.mk A80
  clear A80
  replace H := Option.bind_eq_some_iff.mp H
  obtain ⟨t145, A90, H⟩ := H
  replace H : (some t145) = some r := H
  have A9 := Aside0.mk A90
  clear A90
  obtain rfl := Option.some.inj H
  go_enter Try.func54, Try.ntmps54
  go_wp2_with (first | ((with_reducible refine gate_callee (f := 51) rfl ?_); refine goesL_ (some 8) rfl rfl Try.func51 (by kernel_rfl) rfl #[.int .i64 a0] rfl (by (try simp only [List.map_toArray, List.map_cons, List.map_nil]); first | done | rfl | (simp only [List.length_drop, List.length_take]; rfl)) ?_; (with_reducible refine (versalref2_Clip.calls a0 t140 _ A4.out).mono ?_); rintro e w10 ⟨rfl, hb⟩; refine ⟨_, rfl, ?_⟩; have n0_ := Aside0.mk (below_step (by repeat (first | (with_reducible first | exact HB.out | apply below_alloc | apply pw_below_drewN | apply below_drew1) | exact HB.out)) hb); clear HB; have HB := n0_; clear n0_; (try clear hb); (try clear hb2); (try clear hk); (try clear hi)) | ((with_reducible refine gate_callee (f := 51) rfl ?_); refine goesL_ (some 10) rfl rfl Try.func51 (by kernel_rfl) rfl #[.int .i64 a1] rfl (by (try simp only [List.map_toArray, List.map_cons, List.map_nil]); first | done | rfl | (simp only [List.length_drop, List.length_take]; rfl)) ?_; (with_reducible refine (versalref2_Clip.calls a1 t141 _ A5.out).mono ?_); rintro e w11 ⟨rfl, hb⟩; refine ⟨_, rfl, ?_⟩; have n0_ := Aside0.mk (below_step (by repeat (first | (with_reducible first | exact HB.out | apply below_alloc | apply pw_below_drewN | apply below_drew1) | exact HB.out)) hb); clear HB; have HB := n0_; clear n0_; (try clear hb); (try clear hb2); (try clear hk); (try clear hi)) | ((with_reducible refine gate_callee (f := 51) rfl ?_); refine goesL_ (some 12) rfl rfl Try.func51 (by kernel_rfl) rfl #[.int .i64 a0] rfl (by (try simp only [List.map_toArray, List.map_cons, List.map_nil]); first | done | rfl | (simp only [List.length_drop, List.length_take]; rfl)) ?_; (with_reducible refine (versalref2_Clip.calls a0 t142 _ A6.out).mono ?_); rintro e w12 ⟨rfl, hb⟩; refine ⟨_, rfl, ?_⟩; have n0_ := Aside0.mk (below_step (by repeat (first | (with_reducible first | exact HB.out | apply below_alloc | apply pw_below_drewN | apply below_drew1) | exact HB.out)) hb); clear HB; have HB := n0_; clear n0_; (try clear hb); (try clear hb2); (try clear hk); (try clear hi)) | ((with_reducible refine gate_callee (f := 51) rfl ?_); refine goesL_ (some 14) rfl rfl Try.func51 (by kernel_rfl) rfl #[.int .i64 (wrap64 (t141 - t142))] rfl (by (try simp only [List.map_toArray, List.map_cons, List.map_nil]); first | done | rfl | (simp only [List.length_drop, List.length_take]; rfl)) ?_; (with_reducible refine (versalref2_Clip.calls (wrap64 (t141 - t142)) t143 _ A7.out).mono ?_); rintro e w13 ⟨rfl, hb⟩; refine ⟨_, rfl, ?_⟩; have n0_ := Aside0.mk (below_step (by repeat (first | (with_reducible first | exact HB.out | apply below_alloc | apply pw_below_drewN | apply below_drew1) | exact HB.out)) hb); clear HB; have HB := n0_; clear n0_; (try clear hb); (try clear hb2); (try clear hk); (try clear hi)) | ((with_reducible refine gate_callee (f := 52) rfl ?_); refine goesL_ (some 16) rfl rfl Try.func52 (by kernel_rfl) rfl #[.int .i64 t143, .int .i64 a2] rfl (by (try simp only [List.map_toArray, List.map_cons, List.map_nil]); first | done | rfl | (simp only [List.length_drop, List.length_take]; rfl)) ?_; (with_reducible refine (versalref2_Mul.calls t143 a2 t144 _ A8.out).mono ?_); rintro e w14 ⟨rfl, hb⟩; refine ⟨_, rfl, ?_⟩; have n0_ := Aside0.mk (below_step (by repeat (first | (with_reducible first | exact HB.out | apply below_alloc | apply pw_below_drewN | apply below_drew1) | exact HB.out)) hb); clear HB; have HB := n0_; clear n0_; (try clear hb); (try clear hb2); (try clear hk); (try clear hi)) | ((with_reducible refine gate_callee (f := 51) rfl ?_); refine goesL_ (some 18) rfl rfl Try.func51 (by kernel_rfl) rfl #[.int .i64 (wrap64 (t140 + t144))] rfl (by (try simp only [List.map_toArray, List.map_cons, List.map_nil]); first | done | rfl | (simp only [List.length_drop, List.length_take]; rfl)) ?_; (with_reducible refine (versalref2_Clip.calls (wrap64 (t140 + t144)) t145 _ A9.out).mono ?_); rintro e w15 ⟨rfl, hb⟩; refine ⟨_, rfl, ?_⟩; have n0_ := Aside0.mk (below_step (by repeat (first | (with_reducible first | exact HB.out | apply below_alloc | apply pw_below_drewN | apply below_drew1) | exact HB.out)) hb); clear HB; have HB := n0_; clear n0_; (try clear hb); (try clear hb2); (try clear hk); (try clear hi)))
  go_ret
  exact ⟨by first | rfl | (simp [errW_none, errW_some] <;> rfl) | (simp [*, errW_none, errW_some] <;> rfl), by repeat (first | (with_reducible first | exact HB.out | apply below_alloc | apply pw_below_drewN | apply below_drew1) | exact HB.out)⟩

/-! ### versalref2_Round: function 55 -/
def versalref2_Round.f (a0 : Int) : Option (Int) := (versalref2_Clip.f a0).bind fun t146 => ((versalref2_Floor.f (wrap64 (t146 + 32768)) 65536).bind fun t147 => (some t147))
set_option maxHeartbeats 8000000 in
set_option maxRecDepth 100000 in
theorem versalref2_Round.calls (a0 : Int) (r : Int) (w : World) (h : versalref2_Round.f a0 = some r) :
    Calls Try.prog 55 #[.int .i64 a0] w fun e w' => e = .returned (.int .i64 r) ∧ Below w.heap.size w w' := by
  have HB := Aside0.mk (Below.refl w.heap.size w)
  have H : ((versalref2_Clip.f a0).bind fun t146 => ((versalref2_Floor.f (wrap64 (t146 + 32768)) 65536).bind fun t147 => (some t147))) = some r := h
  clear h
  replace H := Option.bind_eq_some_iff.mp H
  obtain ⟨t146, A20, H⟩ := H
  replace H : ((versalref2_Floor.f (wrap64 (t146 + 32768)) 65536).bind fun t147 => (some t147)) = some r := H
  have A2 := Aside0.mk A20
  clear A20
  replace H := Option.bind_eq_some_iff.mp H
  obtain ⟨t147, A30, H⟩ := H
  replace H : (some t147) = some r := H
  have A3 := Aside0.mk A30
  clear A30
  obtain rfl := Option.some.inj H
  go_enter Try.func55, Try.ntmps55
  go_wp2_with (first | ((with_reducible refine gate_callee (f := 51) rfl ?_); refine goesL_ (some 4) rfl rfl Try.func51 (by kernel_rfl) rfl #[.int .i64 a0] rfl (by (try simp only [List.map_toArray, List.map_cons, List.map_nil]); first | done | rfl | (simp only [List.length_drop, List.length_take]; rfl)) ?_; (with_reducible refine (versalref2_Clip.calls a0 t146 _ A2.out).mono ?_); rintro e w4 ⟨rfl, hb⟩; refine ⟨_, rfl, ?_⟩; have n0_ := Aside0.mk (below_step (by repeat (first | (with_reducible first | exact HB.out | apply below_alloc | apply pw_below_drewN | apply below_drew1) | exact HB.out)) hb); clear HB; have HB := n0_; clear n0_; (try clear hb); (try clear hb2); (try clear hk); (try clear hi)) | ((with_reducible refine gate_callee (f := 74) rfl ?_); refine goesL_ (some 6) rfl rfl Try.func74 (by kernel_rfl) rfl #[.int .i64 (wrap64 (t146 + 32768)), .int .i64 65536] rfl (by (try simp only [List.map_toArray, List.map_cons, List.map_nil]); first | done | rfl | (simp only [List.length_drop, List.length_take]; rfl)) ?_; (with_reducible refine (versalref2_Floor.calls (wrap64 (t146 + 32768)) 65536 t147 _ A3.out).mono ?_); rintro e w' ⟨rfl, ⟨nd, rfl⟩⟩; refine ⟨_, rfl, ?_⟩))
  go_ret
  exact ⟨by first | rfl | (simp [errW_none, errW_some] <;> rfl) | (simp [*, errW_none, errW_some] <;> rfl), by repeat (first | (with_reducible first | exact HB.out | apply below_alloc | apply pw_below_drewN | apply below_drew1) | exact HB.out)⟩

/-! ### versalref2_Whole: function 56 -/
def versalref2_Whole.f (a0 : Int) : Option (Int) := (versalref2_Clip.f a0).bind fun t148 => ((versalref2_Clip.f (wrap64 (t148 * 65536))).bind fun t149 => (some t149))
set_option maxHeartbeats 8000000 in
set_option maxRecDepth 100000 in
theorem versalref2_Whole.calls (a0 : Int) (r : Int) (w : World) (h : versalref2_Whole.f a0 = some r) :
    Calls Try.prog 56 #[.int .i64 a0] w fun e w' => e = .returned (.int .i64 r) ∧ Below w.heap.size w w' := by
  have HB := Aside0.mk (Below.refl w.heap.size w)
  have H : ((versalref2_Clip.f a0).bind fun t148 => ((versalref2_Clip.f (wrap64 (t148 * 65536))).bind fun t149 => (some t149))) = some r := h
  clear h
  replace H := Option.bind_eq_some_iff.mp H
  obtain ⟨t148, A20, H⟩ := H
  replace H : ((versalref2_Clip.f (wrap64 (t148 * 65536))).bind fun t149 => (some t149)) = some r := H
  have A2 := Aside0.mk A20
  clear A20
  replace H := Option.bind_eq_some_iff.mp H
  obtain ⟨t149, A30, H⟩ := H
  replace H : (some t149) = some r := H
  have A3 := Aside0.mk A30
  clear A30
  obtain rfl := Option.some.inj H
  go_enter Try.func56, Try.ntmps56
  go_wp2_with (first | ((with_reducible refine gate_callee (f := 51) rfl ?_); refine goesL_ (some 4) rfl rfl Try.func51 (by kernel_rfl) rfl #[.int .i64 a0] rfl (by (try simp only [List.map_toArray, List.map_cons, List.map_nil]); first | done | rfl | (simp only [List.length_drop, List.length_take]; rfl)) ?_; (with_reducible refine (versalref2_Clip.calls a0 t148 _ A2.out).mono ?_); rintro e w4 ⟨rfl, hb⟩; refine ⟨_, rfl, ?_⟩; have n0_ := Aside0.mk (below_step (by repeat (first | (with_reducible first | exact HB.out | apply below_alloc | apply pw_below_drewN | apply below_drew1) | exact HB.out)) hb); clear HB; have HB := n0_; clear n0_; (try clear hb); (try clear hb2); (try clear hk); (try clear hi)) | ((with_reducible refine gate_callee (f := 51) rfl ?_); refine goesL_ (some 6) rfl rfl Try.func51 (by kernel_rfl) rfl #[.int .i64 (wrap64 (t148 * 65536))] rfl (by (try simp only [List.map_toArray, List.map_cons, List.map_nil]); first | done | rfl | (simp only [List.length_drop, List.length_take]; rfl)) ?_; (with_reducible refine (versalref2_Clip.calls (wrap64 (t148 * 65536)) t149 _ A3.out).mono ?_); rintro e w5 ⟨rfl, hb⟩; refine ⟨_, rfl, ?_⟩; have n0_ := Aside0.mk (below_step (by repeat (first | (with_reducible first | exact HB.out | apply below_alloc | apply pw_below_drewN | apply below_drew1) | exact HB.out)) hb); clear HB; have HB := n0_; clear n0_; (try clear hb); (try clear hb2); (try clear hk); (try clear hi)))
  go_ret
  exact ⟨by first | rfl | (simp [errW_none, errW_some] <;> rfl) | (simp [*, errW_none, errW_some] <;> rfl), by repeat (first | (with_reducible first | exact HB.out | apply below_alloc | apply pw_below_drewN | apply below_drew1) | exact HB.out)⟩

/-! ### versalref2_From14: function 57 -/
def versalref2_From14.f (a0 : Int) : Option (Int) := (versalref2_Clip.f a0).bind fun t150 => ((versalref2_Clip.f (wrap64 (t150 * 4))).bind fun t151 => (some t151))
set_option maxHeartbeats 8000000 in
set_option maxRecDepth 100000 in
theorem versalref2_From14.calls (a0 : Int) (r : Int) (w : World) (h : versalref2_From14.f a0 = some r) :
    Calls Try.prog 57 #[.int .i64 a0] w fun e w' => e = .returned (.int .i64 r) ∧ Below w.heap.size w w' := by
  have HB := Aside0.mk (Below.refl w.heap.size w)
  have H : ((versalref2_Clip.f a0).bind fun t150 => ((versalref2_Clip.f (wrap64 (t150 * 4))).bind fun t151 => (some t151))) = some r := h
  clear h
  replace H := Option.bind_eq_some_iff.mp H
  obtain ⟨t150, A20, H⟩ := H
  replace H : ((versalref2_Clip.f (wrap64 (t150 * 4))).bind fun t151 => (some t151)) = some r := H
  have A2 := Aside0.mk A20
  clear A20
  replace H := Option.bind_eq_some_iff.mp H
  obtain ⟨t151, A30, H⟩ := H
  replace H : (some t151) = some r := H
  have A3 := Aside0.mk A30
  clear A30
  obtain rfl := Option.some.inj H
  go_enter Try.func57, Try.ntmps57
  go_wp2_with (first | ((with_reducible refine gate_callee (f := 51) rfl ?_); refine goesL_ (some 4) rfl rfl Try.func51 (by kernel_rfl) rfl #[.int .i64 a0] rfl (by (try simp only [List.map_toArray, List.map_cons, List.map_nil]); first | done | rfl | (simp only [List.length_drop, List.length_take]; rfl)) ?_; (with_reducible refine (versalref2_Clip.calls a0 t150 _ A2.out).mono ?_); rintro e w4 ⟨rfl, hb⟩; refine ⟨_, rfl, ?_⟩; have n0_ := Aside0.mk (below_step (by repeat (first | (with_reducible first | exact HB.out | apply below_alloc | apply pw_below_drewN | apply below_drew1) | exact HB.out)) hb); clear HB; have HB := n0_; clear n0_; (try clear hb); (try clear hb2); (try clear hk); (try clear hi)) | ((with_reducible refine gate_callee (f := 51) rfl ?_); refine goesL_ (some 6) rfl rfl Try.func51 (by kernel_rfl) rfl #[.int .i64 (wrap64 (t150 * 4))] rfl (by (try simp only [List.map_toArray, List.map_cons, List.map_nil]); first | done | rfl | (simp only [List.length_drop, List.length_take]; rfl)) ?_; (with_reducible refine (versalref2_Clip.calls (wrap64 (t150 * 4)) t151 _ A3.out).mono ?_); rintro e w5 ⟨rfl, hb⟩; refine ⟨_, rfl, ?_⟩; have n0_ := Aside0.mk (below_step (by repeat (first | (with_reducible first | exact HB.out | apply below_alloc | apply pw_below_drewN | apply below_drew1) | exact HB.out)) hb); clear HB; have HB := n0_; clear n0_; (try clear hb); (try clear hb2); (try clear hk); (try clear hi)))
  go_ret
  exact ⟨by first | rfl | (simp [errW_none, errW_some] <;> rfl) | (simp [*, errW_none, errW_some] <;> rfl), by repeat (first | (with_reducible first | exact HB.out | apply below_alloc | apply pw_below_drewN | apply below_drew1) | exact HB.out)⟩

/-! ### versalref2_Ratio: function 58 -/
def versalref2_Ratio.f (a0 : Int) (a1 : Int) : Option (Int) := (versalref2_Within.f a0 (-70368744177664) 70368744177664).bind fun t152 => ((versalref2_Within.f a1 (-70368744177664) 70368744177664).bind fun t153 => (if t153 = 0 then (some 0) else (if t153 < 0 then ((versalref2_Floor.f (wrap64 ((wrap64 (-t152)) * 65536)) (wrap64 (-t153))).bind fun t154 => ((versalref2_Clip.f t154).bind fun t155 => (some t155))) else ((versalref2_Floor.f (wrap64 (t152 * 65536)) t153).bind fun t156 => ((versalref2_Clip.f t156).bind fun t157 => (some t157))))))
set_option maxHeartbeats 8000000 in
set_option maxRecDepth 100000 in
theorem versalref2_Ratio.calls (a0 : Int) (a1 : Int) (r : Int) (w : World) (h : versalref2_Ratio.f a0 a1 = some r) :
    Calls Try.prog 58 #[.int .i64 a0, .int .i64 a1] w fun e w' => e = .returned (.int .i64 r) ∧ Below w.heap.size w w' := by
  have HB := Aside0.mk (Below.refl w.heap.size w)
  have H : ((versalref2_Within.f a0 (-70368744177664) 70368744177664).bind fun t152 => ((versalref2_Within.f a1 (-70368744177664) 70368744177664).bind fun t153 => (if t153 = 0 then (some 0) else (if t153 < 0 then ((versalref2_Floor.f (wrap64 ((wrap64 (-t152)) * 65536)) (wrap64 (-t153))).bind fun t154 => ((versalref2_Clip.f t154).bind fun t155 => (some t155))) else ((versalref2_Floor.f (wrap64 (t152 * 65536)) t153).bind fun t156 => ((versalref2_Clip.f t156).bind fun t157 => (some t157))))))) = some r := h
  clear h
  replace H := Option.bind_eq_some_iff.mp H
  obtain ⟨t152, A30, H⟩ := H
  replace H : ((versalref2_Within.f a1 (-70368744177664) 70368744177664).bind fun t153 => (if t153 = 0 then (some 0) else (if t153 < 0 then ((versalref2_Floor.f (wrap64 ((wrap64 (-t152)) * 65536)) (wrap64 (-t153))).bind fun t154 => ((versalref2_Clip.f t154).bind fun t155 => (some t155))) else ((versalref2_Floor.f (wrap64 (t152 * 65536)) t153).bind fun t156 => ((versalref2_Clip.f t156).bind fun t157 => (some t157)))))) = some r := H
  have A3 := Aside0.mk A30
  clear A30
  replace H := Option.bind_eq_some_iff.mp H
  obtain ⟨t153, A40, H⟩ := H
  replace H : (if t153 = 0 then (some 0) else (if t153 < 0 then ((versalref2_Floor.f (wrap64 ((wrap64 (-t152)) * 65536)) (wrap64 (-t153))).bind fun t154 => ((versalref2_Clip.f t154).bind fun t155 => (some t155))) else ((versalref2_Floor.f (wrap64 (t152 * 65536)) t153).bind fun t156 => ((versalref2_Clip.f t156).bind fun t157 => (some t157))))) = some r := H
  have A4 := Aside0.mk A40
  clear A40
  by_cases c5 : t153 = 0
  · rw [if_pos c5] at H
    have c5b0 : (t153 == 0) = true := beq_iff_eq.mpr c5
    have c5b1 : (t153 != 0) = false := bne_eq_false_iff_eq.mpr c5
    clear c5
    obtain rfl := Option.some.inj H
    go_enter Try.func58, Try.ntmps58
    go_wp2_with (first | ((with_reducible refine gate_callee (f := 73) rfl ?_); refine goesL_ (some 6) rfl rfl Try.func73 (by kernel_rfl) rfl #[.int .i64 a0, .int .i64 (-70368744177664), .int .i64 70368744177664] rfl (by (try simp only [List.map_toArray, List.map_cons, List.map_nil]); first | done | rfl | (simp only [List.length_drop, List.length_take]; rfl)) ?_; (with_reducible refine (versalref2_Within.calls a0 (-70368744177664) 70368744177664 t152 _ A3.out).mono ?_); rintro e w6 ⟨rfl, hb⟩; refine ⟨_, rfl, ?_⟩; have n0_ := Aside0.mk (below_step (by repeat (first | (with_reducible first | exact HB.out | apply below_alloc | apply pw_below_drewN | apply below_drew1) | exact HB.out)) hb); clear HB; have HB := n0_; clear n0_; (try clear hb); (try clear hb2); (try clear hk); (try clear hi)) | ((with_reducible refine gate_callee (f := 73) rfl ?_); refine goesL_ (some 8) rfl rfl Try.func73 (by kernel_rfl) rfl #[.int .i64 a1, .int .i64 (-70368744177664), .int .i64 70368744177664] rfl (by (try simp only [List.map_toArray, List.map_cons, List.map_nil]); first | done | rfl | (simp only [List.length_drop, List.length_take]; rfl)) ?_; (with_reducible refine (versalref2_Within.calls a1 (-70368744177664) 70368744177664 t153 _ A4.out).mono ?_); rintro e w7 ⟨rfl, hb⟩; refine ⟨_, rfl, ?_⟩; have n0_ := Aside0.mk (below_step (by repeat (first | (with_reducible first | exact HB.out | apply below_alloc | apply pw_below_drewN | apply below_drew1) | exact HB.out)) hb); clear HB; have HB := n0_; clear n0_; (try clear hb); (try clear hb2); (try clear hk); (try clear hi)))
    go_ret
    exact ⟨by first | rfl | (simp [errW_none, errW_some] <;> rfl) | (simp [*, errW_none, errW_some] <;> rfl), by repeat (first | (with_reducible first | exact HB.out | apply below_alloc | apply pw_below_drewN | apply below_drew1) | exact HB.out)⟩
  · rw [if_neg c5] at H
    have c5b0 : (t153 == 0) = false := beq_eq_false_iff_ne.mpr c5
    have c5b1 : (t153 != 0) = true := bne_iff_ne.mpr c5
    by_cases c8 : t153 < 0
    · rw [if_pos c8] at H
      have c8b0 : decide (t153 < 0) = true := decide_eq_true c8
      clear c8
      replace H := Option.bind_eq_some_iff.mp H
      obtain ⟨t154, A90, H⟩ := H
      replace H : ((versalref2_Clip.f t154).bind fun t155 => (some t155)) = some r := H
      have A9 := Aside0.mk A90
      clear A90
      replace H := Option.bind_eq_some_iff.mp H
      obtain ⟨t155, A100, H⟩ := H
      replace H : (some t155) = some r := H
      have A10 := Aside0.mk A100
      clear A100
      obtain rfl := Option.some.inj H
      go_enter Try.func58, Try.ntmps58
      go_wp2_with (first | ((with_reducible refine gate_callee (f := 73) rfl ?_); refine goesL_ (some 6) rfl rfl Try.func73 (by kernel_rfl) rfl #[.int .i64 a0, .int .i64 (-70368744177664), .int .i64 70368744177664] rfl (by (try simp only [List.map_toArray, List.map_cons, List.map_nil]); first | done | rfl | (simp only [List.length_drop, List.length_take]; rfl)) ?_; (with_reducible refine (versalref2_Within.calls a0 (-70368744177664) 70368744177664 t152 _ A3.out).mono ?_); rintro e w11 ⟨rfl, hb⟩; refine ⟨_, rfl, ?_⟩; have n0_ := Aside0.mk (below_step (by repeat (first | (with_reducible first | exact HB.out | apply below_alloc | apply pw_below_drewN | apply below_drew1) | exact HB.out)) hb); clear HB; have HB := n0_; clear n0_; (try clear hb); (try clear hb2); (try clear hk); (try clear hi)) | ((with_reducible refine gate_callee (f := 73) rfl ?_); refine goesL_ (some 8) rfl rfl Try.func73 (by kernel_rfl) rfl #[.int .i64 a1, .int .i64 (-70368744177664), .int .i64 70368744177664] rfl (by (try simp only [List.map_toArray, List.map_cons, List.map_nil]); first | done | rfl | (simp only [List.length_drop, List.length_take]; rfl)) ?_; (with_reducible refine (versalref2_Within.calls a1 (-70368744177664) 70368744177664 t153 _ A4.out).mono ?_); rintro e w12 ⟨rfl, hb⟩; refine ⟨_, rfl, ?_⟩; have n0_ := Aside0.mk (below_step (by repeat (first | (with_reducible first | exact HB.out | apply below_alloc | apply pw_below_drewN | apply below_drew1) | exact HB.out)) hb); clear HB; have HB := n0_; clear n0_; (try clear hb); (try clear hb2); (try clear hk); (try clear hi)) | ((with_reducible refine gate_callee (f := 74) rfl ?_); refine goesL_ (some 20) rfl rfl Try.func74 (by kernel_rfl) rfl #[.int .i64 (wrap64 ((wrap64 (-t152)) * 65536)), .int .i64 (wrap64 (-t153))] rfl (by (try simp only [List.map_toArray, List.map_cons, List.map_nil]); first | done | rfl | (simp only [List.length_drop, List.length_take]; rfl)) ?_; (with_reducible refine (versalref2_Floor.calls (wrap64 ((wrap64 (-t152)) * 65536)) (wrap64 (-t153)) t154 _ A9.out).mono ?_); rintro e w' ⟨rfl, ⟨nd, rfl⟩⟩; refine ⟨_, rfl, ?_⟩) | ((with_reducible refine gate_callee (f := 51) rfl ?_); refine goesL_ (some 21) rfl rfl Try.func51 (by kernel_rfl) rfl #[.int .i64 t154] rfl (by (try simp only [List.map_toArray, List.map_cons, List.map_nil]); first | done | rfl | (simp only [List.length_drop, List.length_take]; rfl)) ?_; (with_reducible refine (versalref2_Clip.calls t154 t155 _ A10.out).mono ?_); rintro e w13 ⟨rfl, hb⟩; refine ⟨_, rfl, ?_⟩; have n0_ := Aside0.mk (below_step (by repeat (first | (with_reducible first | exact HB.out | apply below_alloc | apply pw_below_drewN | apply below_drew1) | exact HB.out)) hb); clear HB; have HB := n0_; clear n0_; (try clear hb); (try clear hb2); (try clear hk); (try clear hi)))
      go_ret
      exact ⟨by first | rfl | (simp [errW_none, errW_some] <;> rfl) | (simp [*, errW_none, errW_some] <;> rfl), by repeat (first | (with_reducible first | exact HB.out | apply below_alloc | apply pw_below_drewN | apply below_drew1) | exact HB.out)⟩
    · rw [if_neg c8] at H
      have c8b0 : decide (t153 < 0) = false := decide_eq_false c8
      clear c8
      replace H := Option.bind_eq_some_iff.mp H
      obtain ⟨t156, A140, H⟩ := H
      replace H : ((versalref2_Clip.f t156).bind fun t157 => (some t157)) = some r := H
      have A14 := Aside0.mk A140
      clear A140
      replace H := Option.bind_eq_some_iff.mp H
      obtain ⟨t157, A150, H⟩ := H
      replace H : (some t157) = some r := H
      have A15 := Aside0.mk A150
      clear A150
      obtain rfl := Option.some.inj H
      go_enter Try.func58, Try.ntmps58
      go_wp2_with (first | ((with_reducible refine gate_callee (f := 73) rfl ?_); refine goesL_ (some 6) rfl rfl Try.func73 (by kernel_rfl) rfl #[.int .i64 a0, .int .i64 (-70368744177664), .int .i64 70368744177664] rfl (by (try simp only [List.map_toArray, List.map_cons, List.map_nil]); first | done | rfl | (simp only [List.length_drop, List.length_take]; rfl)) ?_; (with_reducible refine (versalref2_Within.calls a0 (-70368744177664) 70368744177664 t152 _ A3.out).mono ?_); rintro e w16 ⟨rfl, hb⟩; refine ⟨_, rfl, ?_⟩; have n0_ := Aside0.mk (below_step (by repeat (first | (with_reducible first | exact HB.out | apply below_alloc | apply pw_below_drewN | apply below_drew1) | exact HB.out)) hb); clear HB; have HB := n0_; clear n0_; (try clear hb); (try clear hb2); (try clear hk); (try clear hi)) | ((with_reducible refine gate_callee (f := 73) rfl ?_); refine goesL_ (some 8) rfl rfl Try.func73 (by kernel_rfl) rfl #[.int .i64 a1, .int .i64 (-70368744177664), .int .i64 70368744177664] rfl (by (try simp only [List.map_toArray, List.map_cons, List.map_nil]); first | done | rfl | (simp only [List.length_drop, List.length_take]; rfl)) ?_; (with_reducible refine (versalref2_Within.calls a1 (-70368744177664) 70368744177664 t153 _ A4.out).mono ?_); rintro e w17 ⟨rfl, hb⟩; refine ⟨_, rfl, ?_⟩; have n0_ := Aside0.mk (below_step (by repeat (first | (with_reducible first | exact HB.out | apply below_alloc | apply pw_below_drewN | apply below_drew1) | exact HB.out)) hb); clear HB; have HB := n0_; clear n0_; (try clear hb); (try clear hb2); (try clear hk); (try clear hi)) | ((with_reducible refine gate_callee (f := 74) rfl ?_); refine goesL_ (some 25) rfl rfl Try.func74 (by kernel_rfl) rfl #[.int .i64 (wrap64 (t152 * 65536)), .int .i64 t153] rfl (by (try simp only [List.map_toArray, List.map_cons, List.map_nil]); first | done | rfl | (simp only [List.length_drop, List.length_take]; rfl)) ?_; (with_reducible refine (versalref2_Floor.calls (wrap64 (t152 * 65536)) t153 t156 _ A14.out).mono ?_); rintro e w' ⟨rfl, ⟨nd, rfl⟩⟩; refine ⟨_, rfl, ?_⟩) | ((with_reducible refine gate_callee (f := 51) rfl ?_); refine goesL_ (some 26) rfl rfl Try.func51 (by kernel_rfl) rfl #[.int .i64 t156] rfl (by (try simp only [List.map_toArray, List.map_cons, List.map_nil]); first | done | rfl | (simp only [List.length_drop, List.length_take]; rfl)) ?_; (with_reducible refine (versalref2_Clip.calls t156 t157 _ A15.out).mono ?_); rintro e w18 ⟨rfl, hb⟩; refine ⟨_, rfl, ?_⟩; have n0_ := Aside0.mk (below_step (by repeat (first | (with_reducible first | exact HB.out | apply below_alloc | apply pw_below_drewN | apply below_drew1) | exact HB.out)) hb); clear HB; have HB := n0_; clear n0_; (try clear hb); (try clear hb2); (try clear hk); (try clear hi)))
      go_ret
      exact ⟨by first | rfl | (simp [errW_none, errW_some] <;> rfl) | (simp [*, errW_none, errW_some] <;> rfl), by repeat (first | (with_reducible first | exact HB.out | apply below_alloc | apply pw_below_drewN | apply below_drew1) | exact HB.out)⟩

/-! ### versalref2_Root: function 59 -/
def versalref2_Root.l0 : Nat → Int → Int → Int → Option (Int)
  | 0, _, _, _ => none
  | k + 1, x0, x3, x4 => if x4 ≥ 0 then (if 0 ≤ (IntKind.u64.wrap (x4)) then (if (wrap64 (x3 + (shl .i64 1 (IntKind.u64.wrap (x4))))) ≤ 3037000499 then (if (wrap64 ((wrap64 (x3 + (shl .i64 1 (IntKind.u64.wrap (x4))))) * (wrap64 (x3 + (shl .i64 1 (IntKind.u64.wrap (x4))))))) ≤ x0 then (versalref2_Root.l0 k x0 (wrap64 (x3 + (shl .i64 1 (IntKind.u64.wrap (x4))))) (wrap64 (x4 - 1))) else (versalref2_Root.l0 k x0 x3 (wrap64 (x4 - 1)))) else (versalref2_Root.l0 k x0 x3 (wrap64 (x4 - 1)))) else (none)) else (some x3)
def versalref2_Root.f (k : Nat) (a0 : Int) : Option (Int) := versalref2_Root.l0 k a0 0 31
theorem versalref2_Root.mono_l : ∀ k, (∀ y0 y1 y2, LeO (versalref2_Root.l0 k y0 y1 y2) (versalref2_Root.l0 (k + 1) y0 y1 y2))
  | 0 => fun _ _ _ r h => by simp [versalref2_Root.l0] at h
  | k + 1 => by
    have ih0 := versalref2_Root.mono_l k
    · intro y0 y1 y2
      unfold versalref2_Root.l0
      repeat' first
      | (with_reducible exact ih0 _ _ _)
      | (with_reducible exact LeO.refl _)
      | (with_reducible exact LeO.none _)
      | (with_reducible refine LeO.ite ?_ ?_)
      | (with_reducible refine LeO.bind ?_ (fun _ => ?_))
      | exact ih0 _ _ _
      | exact LeO.none _
      | refine LeO.ite ?_ ?_
      | refine LeO.bind ?_ (fun _ => ?_)
theorem versalref2_Root.mono : ∀ a0 k, LeO (versalref2_Root.f k a0) (versalref2_Root.f (k + 1) a0) := by
  intro a0 k
  have ih0 := versalref2_Root.mono_l k
  unfold versalref2_Root.f
  repeat' first
      | (with_reducible exact ih0 _ _ _)
      | (with_reducible exact LeO.refl _)
      | (with_reducible exact LeO.none _)
      | (with_reducible refine LeO.ite ?_ ?_)
      | (with_reducible refine LeO.bind ?_ (fun _ => ?_))
      | exact ih0 _ _ _
      | exact LeO.none _
      | refine LeO.ite ?_ ?_
      | refine LeO.bind ?_ (fun _ => ?_)
set_option maxHeartbeats 8000000 in
set_option maxRecDepth 100000 in
theorem versalref2_Root.calls (k : Nat) (a0 : Int) (r : Int) (w : World) (h : versalref2_Root.f k a0 = some r) :
    Calls Try.prog 59 #[.int .i64 a0] w fun e w' => e = .returned (.int .i64 r) ∧ Drawn0 w w' := by
  have H : (versalref2_Root.l0 k a0 0 31) = some r := h
  clear h
  have H' := Aside0.mk H
  clear H
  go_enter Try.func59, Try.ntmps59
  go_wp2
  go_loopg [3, 4] k (fun kq v3 v4 w' => ∃ (x3_1 : Int) (x4_1 : Int), v3 = .int .i64 x3_1 ∧ v4 = .int .i64 x4_1 ∧ Aside0 (versalref2_Root.l0 kq a0 x3_1 x4_1 = some r) ∧ Aside0 (kq ≤ k) ∧ Drawn0 w w')
  case atStart => exact ⟨(0), (31), (by first | rfl | (simp; done) | (simp [*]; done)), (by first | rfl | (simp; done) | (simp [*]; done)), H', ⟨Nat.le_refl _⟩, by repeat (first | exact Drawn0.refl _ | apply Drawn0.step)⟩
  case round =>
    clear H'
    obtain ⟨x3_1, x4_1, rfl, rfl, HA, HK1, ⟨m1, rfl⟩⟩ := hrel
    cases gk with
    | zero => exact absurd HA.out (by simp [versalref2_Root.l0])
    | succ k1 =>
      have H := HA.out
      clear HA
      simp only [versalref2_Root.l0] at H
      by_cases c2 : x4_1 ≥ 0
      · rw [if_pos c2] at H
        have c2b0 : decide (0 ≤ x4_1) = true := decide_eq_true c2
        clear c2
        obtain ⟨ji3, hji3⟩ : ∃ j_ : Int, (IntKind.u64.wrap (x4_1)) = j_ := ⟨_, rfl⟩
        replace H : (if 0 ≤ (ji3) then (if (wrap64 (x3_1 + (shl .i64 1 (ji3)))) ≤ 3037000499 then (if (wrap64 ((wrap64 (x3_1 + (shl .i64 1 (ji3)))) * (wrap64 (x3_1 + (shl .i64 1 (ji3)))))) ≤ a0 then (versalref2_Root.l0 k1 a0 (wrap64 (x3_1 + (shl .i64 1 (ji3)))) (wrap64 (x4_1 - 1))) else (versalref2_Root.l0 k1 a0 x3_1 (wrap64 (x4_1 - 1)))) else (versalref2_Root.l0 k1 a0 x3_1 (wrap64 (x4_1 - 1)))) else (none)) = some r := by first | (rw [hji3] at H; exact H) | (simp only [hji3] at H ⊢; exact H)
        by_cases c4 : 0 ≤ (ji3)
        · rw [if_pos c4] at H
          have c4b0 := eq_true c4
          have c4b1 : decide (0 ≤ (ji3)) = true := decide_eq_true c4
          clear c4
          obtain ⟨ji5, hji5⟩ : ∃ j_ : Int, (shl .i64 1 (ji3)) = j_ := ⟨_, rfl⟩
          replace H : (if (wrap64 (x3_1 + (ji5))) ≤ 3037000499 then (if (wrap64 ((wrap64 (x3_1 + (ji5))) * (wrap64 (x3_1 + (ji5))))) ≤ a0 then (versalref2_Root.l0 k1 a0 (wrap64 (x3_1 + (ji5))) (wrap64 (x4_1 - 1))) else (versalref2_Root.l0 k1 a0 x3_1 (wrap64 (x4_1 - 1)))) else (versalref2_Root.l0 k1 a0 x3_1 (wrap64 (x4_1 - 1)))) = some r := by first | (rw [hji5] at H; exact H) | (simp only [hji5] at H ⊢; exact H)
          have hji5_ : (IntKind.i64.wrap (1 * 2 ^ min (ji3).toNat 64)) = ji5 := hji5
          have hji5z : (ji3) ≤ 64 → (IntKind.i64.wrap (1 * 2 ^ (ji3).toNat)) = ji5 := shl_small hji5
          have hji5u : (IntKind.i64.wrap (2 ^ min (ji3).toNat 64)) = ji5 := by have h_ := hji5_; rw [Int.one_mul] at h_; exact h_
          have hji5v : (ji3) ≤ 64 → (IntKind.i64.wrap (2 ^ (ji3).toNat)) = ji5 := fun hle_ => by have h_ := hji5z hle_; rw [Int.one_mul] at h_; exact h_
          have hji5y : (wrap64 (1 * 2 ^ min (ji3).toNat 64)) = ji5 := (i64_w _).symm.trans hji5_
          have hji5x : (ji3) ≤ 64 → (wrap64 (1 * 2 ^ (ji3).toNat)) = ji5 := fun h_ => (i64_w _).symm.trans (hji5z h_)
          by_cases c6 : (wrap64 (x3_1 + (ji5))) ≤ 3037000499
          · rw [if_pos c6] at H
            have c6b0 : decide ((wrap64 (x3_1 + (ji5))) ≤ 3037000499) = true := decide_eq_true c6
            clear c6
            by_cases c7 : (wrap64 ((wrap64 (x3_1 + (ji5))) * (wrap64 (x3_1 + (ji5))))) ≤ a0
            · rw [if_pos c7] at H
              have c7b0 : decide ((wrap64 ((wrap64 (x3_1 + (ji5))) * (wrap64 (x3_1 + (ji5))))) ≤ a0) = true := decide_eq_true c7
              clear c7
              have H' := Aside0.mk H
              clear H
              go_wp2
              go_roundg k1
              case measure => have := HK1.out; omega
              case rel => exact ⟨(wrap64 (x3_1 + (ji5))), (wrap64 (x4_1 - 1)), (by first | rfl | (simp; done) | (simp only [← hji5] <;> (first | rfl | simp)) | (simp [*]; done)), (by first | rfl | (simp; done) | (simp [*]; done)), H', ⟨by have := HK1.out; omega⟩, by repeat (first | exact Drawn0.refl _ | apply Drawn0.step)⟩
            · rw [if_neg c7] at H
              have c7b0 : decide ((wrap64 ((wrap64 (x3_1 + (ji5))) * (wrap64 (x3_1 + (ji5))))) ≤ a0) = false := decide_eq_false c7
              clear c7
              have H' := Aside0.mk H
              clear H
              go_wp2
              go_roundg k1
              case measure => have := HK1.out; omega
              case rel => exact ⟨(x3_1), (wrap64 (x4_1 - 1)), (by first | rfl | (simp; done) | (simp [*]; done)), (by first | rfl | (simp; done) | (simp [*]; done)), H', ⟨by have := HK1.out; omega⟩, by repeat (first | exact Drawn0.refl _ | apply Drawn0.step)⟩
          · rw [if_neg c6] at H
            have c6b0 : decide ((wrap64 (x3_1 + (ji5))) ≤ 3037000499) = false := decide_eq_false c6
            clear c6
            have H' := Aside0.mk H
            clear H
            go_wp2
            go_roundg k1
            case measure => have := HK1.out; omega
            case rel => exact ⟨(x3_1), (wrap64 (x4_1 - 1)), (by first | rfl | (simp; done) | (simp [*]; done)), (by first | rfl | (simp; done) | (simp [*]; done)), H', ⟨by have := HK1.out; omega⟩, by repeat (first | exact Drawn0.refl _ | apply Drawn0.step)⟩
        · rw [if_neg c4] at H
          exact absurd H (by simp)
      · rw [if_neg c2] at H
        have c2b0 : decide (0 ≤ x4_1) = false := decide_eq_false c2
        clear c2
        obtain rfl := Option.some.inj H
        go_wp2
        go_ret
        exact ⟨by first | rfl | (simp; done) | (simp [*]; done), by repeat (first | exact Drawn0.refl _ | apply Drawn0.step)⟩

end Go.Proofs.Ytkeacdpphmdodaa.FixRef
