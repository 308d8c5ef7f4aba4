-- PRINTED BY print.sh 35421559b90ae4d0a3588c463048766b98c2df88dd9212a6774a882060cdf62d: not written by this session
import Derived.Test.YtaohkdieigbccaaPAngleTellsx0
import Derived.Test.YtaohkdieigbccaaPAngleTellsx1
namespace Go.Proofs.Ytaohkdieigbccaa.PAngleTells
open Go.RowKit Go.Proofs.YtaohkdieigbccaaW.PrintWords Go.Proofs.YtaohkdieigbccaaW.PrintLast Go.Proofs.YtaohkdieigbccaaW.PrintMore
attribute [local go_sem] max2_int min2_int max_two min_two max_three min_three max_four min_four   -- for this text's walks alone
set_option linter.unusedVariables false
set_option linter.unusedSimpArgs false

/-! ### versalref2_Within: function 38 -/
def versalref2_Within.f (a0 : Int) (a1 : Int) (a2 : Int) : Option (Int) := some (mx a1 (mn a2 a0))
set_option maxHeartbeats 8000000 in
set_option maxRecDepth 100000 in
theorem versalref2_Within.calls (a0 : Int) (a1 : Int) (a2 : Int) (r : Int) (w : World) (h : versalref2_Within.f a0 a1 a2 = some r) :
    Calls Try.prog 38 #[.int .i64 a0, .int .i64 a1, .int .i64 a2] w fun e w' => e = .returned (.int .i64 r) ∧ Below w.heap.size w w' := by
  have HB := Aside0.mk (Below.refl w.heap.size w)
  have H : (some (mx a1 (mn a2 a0))) = some r := h
  clear h
  obtain ⟨ji4, hji4⟩ : ∃ j_ : Int, (mn a2 a0) = j_ := ⟨_, rfl⟩
  replace H : (some (mx a1 (ji4))) = some r := by first | (rw [hji4] at H; exact H) | (simp only [hji4] at H ⊢; exact H)
  have hji4_ : (if a0 < a2 then a0 else a2) = ji4 := hji4
  obtain ⟨ji5, hji5⟩ : ∃ j_ : Int, (mx a1 (ji4)) = j_ := ⟨_, rfl⟩
  replace H : (some ji5) = some r := by first | (rw [hji5] at H; exact H) | (simp only [hji5] at H ⊢; exact H)
  have hji5_ : (if a1 < (ji4) then (ji4) else a1) = ji5 := hji5
  obtain rfl := Option.some.inj H
  go_enter Try.func38, Try.ntmps38
  go_wp2
  go_ret
  exact ⟨by first | rfl | (simp [errW_none, errW_some] <;> rfl) | (simp only [← hji4, ← hji5]; first | rfl | (simp [errW_none, errW_some] <;> rfl)) | (simp [*, errW_none, errW_some] <;> rfl), by repeat (first | (with_reducible first | exact HB.out | apply below_alloc | apply pw_below_drewN | apply below_drew1) | exact HB.out)⟩

/-! ### versalref2_Clip: function 44 -/
def versalref2_Clip.f (a0 : Int) : Option (Int) := (versalref2_Within.f a0 (-2147483647) 2147483647).bind fun t136 => (some t136)
set_option maxHeartbeats 8000000 in
set_option maxRecDepth 100000 in
theorem versalref2_Clip.calls (a0 : Int) (r : Int) (w : World) (h : versalref2_Clip.f a0 = some r) :
    Calls Try.prog 44 #[.int .i64 a0] w fun e w' => e = .returned (.int .i64 r) ∧ Below w.heap.size w w' := by
  have HB := Aside0.mk (Below.refl w.heap.size w)
  have H : ((versalref2_Within.f a0 (-2147483647) 2147483647).bind fun t136 => (some t136)) = some r := h
  clear h
  replace H := Option.bind_eq_some_iff.mp H
  obtain ⟨t136, A20, H⟩ := H
  replace H : (some t136) = some r := H
  have A2 := Aside0.mk A20
  clear A20
  obtain rfl := Option.some.inj H
  go_enter Try.func44, Try.ntmps44
  go_wp2_with (first | ((with_reducible refine gate_callee (f := 38) rfl ?_); refine goesL_ (some 4) rfl rfl Try.func38 (by kernel_rfl) rfl #[.int .i64 a0, .int .i64 (-2147483647), .int .i64 2147483647] rfl (by (try simp only [List.map_toArray, List.map_cons, List.map_nil]); first | done | rfl | (simp only [List.length_drop, List.length_take]; rfl)) ?_; (with_reducible refine (versalref2_Within.calls a0 (-2147483647) 2147483647 t136 _ A2.out).mono ?_); rintro e w3 ⟨rfl, hb⟩; refine ⟨_, rfl, ?_⟩; have n0_ := Aside0.mk (below_step (by repeat (first | (with_reducible first | exact HB.out | apply below_alloc | apply pw_below_drewN | apply below_drew1) | exact HB.out)) hb); clear HB; have HB := n0_; clear n0_; (try clear hb); (try clear hb2); (try clear hk); (try clear hi)))
  go_ret
  exact ⟨by first | rfl | (simp [errW_none, errW_some] <;> rfl) | (simp [*, errW_none, errW_some] <;> rfl), by repeat (first | (with_reducible first | exact HB.out | apply below_alloc | apply pw_below_drewN | apply below_drew1) | exact HB.out)⟩

/-! ### versalref2_Div: function 43 -/
mutual
def versalref2_Div.j0 : Nat → Int → Int → Bool → Option (Int)
  | 0, _, _, _ => none
  | k + 1, x0, x1, x9 => if x9 = true then (some 2147483647) else (if x1 = 0 then (versalref2_Div.j1 k x0 x1 (decide (x0 < 0))) else (versalref2_Div.j1 k x0 x1 false))
def versalref2_Div.j1 : Nat → Int → Int → Bool → Option (Int)
  | 0, _, _, _ => none
  | k + 1, x0, x1, x16 => if x16 = true then (some (-2147483647)) else (if x1 = 0 then (some 0) else (if x1 < 0 then ((versalref2_Floor.f (wrap64 ((wrap64 (-x0)) * 65536)) (wrap64 (-x1))).bind fun t139 => ((versalref2_Clip.f t139).bind fun t140 => (some t140))) else ((versalref2_Floor.f (wrap64 (x0 * 65536)) x1).bind fun t141 => ((versalref2_Clip.f t141).bind fun t142 => (some t142)))))
end
def versalref2_Div.f (k : Nat) (a0 : Int) (a1 : Int) : Option (Int) := (versalref2_Clip.f a0).bind fun t137 => ((versalref2_Clip.f a1).bind fun t138 => (if t138 = 0 then (versalref2_Div.j0 k t137 t138 (decide (t137 > 0))) else (versalref2_Div.j0 k t137 t138 false)))
theorem versalref2_Div.mono_l : ∀ k, (∀ y0 y1 y2, LeO (versalref2_Div.j0 k y0 y1 y2) (versalref2_Div.j0 (k + 1) y0 y1 y2)) ∧ (∀ y0 y1 y2, LeO (versalref2_Div.j1 k y0 y1 y2) (versalref2_Div.j1 (k + 1) y0 y1 y2))
  | 0 => ⟨fun _ _ _ r h => by simp [versalref2_Div.j0] at h, fun _ _ _ r h => by simp [versalref2_Div.j1] at h⟩
  | k + 1 => by
    obtain ⟨ih0, ih1⟩ := versalref2_Div.mono_l k
    refine ⟨?_, ?_⟩
    · intro y0 y1 y2
      unfold versalref2_Div.j0
      repeat' first
      | (with_reducible exact ih0 _ _ _)
      | (with_reducible exact ih1 _ _ _)
      | (with_reducible exact LeO.refl _)
      | (with_reducible exact LeO.none _)
      | (with_reducible refine LeO.ite ?_ ?_)
      | (with_reducible refine LeO.bind ?_ (fun _ => ?_))
      | exact ih0 _ _ _
      | exact ih1 _ _ _
      | exact LeO.none _
      | refine LeO.ite ?_ ?_
      | refine LeO.bind ?_ (fun _ => ?_)
    · intro y0 y1 y2
      unfold versalref2_Div.j1
      repeat' first
      | (with_reducible exact ih0 _ _ _)
      | (with_reducible exact ih1 _ _ _)
      | (with_reducible exact LeO.refl _)
      | (with_reducible exact LeO.none _)
      | (with_reducible refine LeO.ite ?_ ?_)
      | (with_reducible refine LeO.bind ?_ (fun _ => ?_))
      | exact ih0 _ _ _
      | exact ih1 _ _ _
      | exact LeO.none _
      | refine LeO.ite ?_ ?_
      | refine LeO.bind ?_ (fun _ => ?_)
theorem versalref2_Div.mono : ∀ a0 a1 k, LeO (versalref2_Div.f k a0 a1) (versalref2_Div.f (k + 1) a0 a1) := by
  intro a0 a1 k
  obtain ⟨ih0, ih1⟩ := versalref2_Div.mono_l k
  unfold versalref2_Div.f
  repeat' first
      | (with_reducible exact ih0 _ _ _)
      | (with_reducible exact ih1 _ _ _)
      | (with_reducible exact LeO.refl _)
      | (with_reducible exact LeO.none _)
      | (with_reducible refine LeO.ite ?_ ?_)
      | (with_reducible refine LeO.bind ?_ (fun _ => ?_))
      | exact ih0 _ _ _
      | exact ih1 _ _ _
      | exact LeO.none _
      | refine LeO.ite ?_ ?_
      | refine LeO.bind ?_ (fun _ => ?_)
set_option maxHeartbeats 8000000 in
set_option maxRecDepth 100000 in
theorem versalref2_Div.calls (k : Nat) (a0 : Int) (a1 : Int) (r : Int) (w : World) (h : versalref2_Div.f k a0 a1 = some r) :
    Calls Try.prog 43 #[.int .i64 a0, .int .i64 a1] w fun e w' => e = .returned (.int .i64 r) ∧ Below w.heap.size w w' := by
  have HB := Aside0.mk (Below.refl w.heap.size w)
  have H : ((versalref2_Clip.f a0).bind fun t137 => ((versalref2_Clip.f a1).bind fun t138 => (if t138 = 0 then (versalref2_Div.j0 k t137 t138 (decide (t137 > 0))) else (versalref2_Div.j0 k t137 t138 false)))) = some r := h
  clear h
  replace H := Option.bind_eq_some_iff.mp H
  obtain ⟨t137, A30, H⟩ := H
  replace H : ((versalref2_Clip.f a1).bind fun t138 => (if t138 = 0 then (versalref2_Div.j0 k t137 t138 (decide (t137 > 0))) else (versalref2_Div.j0 k t137 t138 false))) = some r := H
  have A3 := Aside0.mk A30
  clear A30
  replace H := Option.bind_eq_some_iff.mp H
  obtain ⟨t138, A40, H⟩ := H
  replace H : (if t138 = 0 then (versalref2_Div.j0 k t137 t138 (decide (t137 > 0))) else (versalref2_Div.j0 k t137 t138 false)) = some r := H
  have A4 := Aside0.mk A40
  clear A40
  have HC5 := Aside0.mk H
  clear H
  go_enter Try.func43, Try.ntmps43
  go_upto_region 3 with (first | ((with_reducible refine gate_callee (f := 44) rfl ?_); refine goesL_ (some 6) rfl rfl Try.func44 (by kernel_rfl) rfl #[.int .i64 a0] rfl (by (try simp only [List.map_toArray, List.map_cons, List.map_nil]); first | done | rfl | (simp only [List.length_drop, List.length_take]; rfl)) ?_; (with_reducible refine (versalref2_Clip.calls a0 t137 _ A3.out).mono ?_); rintro e w6 ⟨rfl, hb⟩; refine ⟨_, rfl, ?_⟩; have n0_ := Aside0.mk (below_step (by repeat (first | (with_reducible first | exact HB.out | apply below_alloc | apply pw_below_drewN | apply below_drew1) | exact HB.out)) hb); clear HB; have HB := n0_; clear n0_; (try clear hb); (try clear hb2); (try clear hk); (try clear hi)) | ((with_reducible refine gate_callee (f := 44) rfl ?_); refine goesL_ (some 8) rfl rfl Try.func44 (by kernel_rfl) rfl #[.int .i64 a1] rfl (by (try simp only [List.map_toArray, List.map_cons, List.map_nil]); first | done | rfl | (simp only [List.length_drop, List.length_take]; rfl)) ?_; (with_reducible refine (versalref2_Clip.calls a1 t138 _ A4.out).mono ?_); rintro e w7 ⟨rfl, hb⟩; refine ⟨_, rfl, ?_⟩; have n0_ := Aside0.mk (below_step (by repeat (first | (with_reducible first | exact HB.out | apply below_alloc | apply pw_below_drewN | apply below_drew1) | exact HB.out)) hb); clear HB; have HB := n0_; clear n0_; (try clear hb); (try clear hb2); (try clear hk); (try clear hi)))
  (try simp only [Act.put, List.setIfInBounds_toArray, List.set_cons_zero, List.set_cons_succ])
  go_cut [9] (fun v9 wc => ∃ (kq : Nat) (x9_4 : Bool), v9 = .bool x9_4 ∧ Aside0 (versalref2_Div.j0 kq t137 t138 x9_4 = some r) ∧ Aside0 (kq ≤ k) ∧ Aside0 (Below w.heap.size w wc))
  case first =>
    have H := HC5.out
    clear HC5
    by_cases c8 : t138 = 0
    · rw [if_pos c8] at H
      have c8b0 : (t138 == 0) = true := beq_iff_eq.mpr c8
      have c8b1 : (t138 != 0) = false := bne_eq_false_iff_eq.mpr c8
      clear c8
      (first | rw [c8b0] | (simp only [i64_w, i32_w]; rw [c8b0]) | skip)
      have H' := Aside0.mk H
      clear H
      go_wp2
      go_meet
      case rel => exact ⟨_, (decide (t137 > 0)), (by first | rfl | (simp; done) | (simp [*]; done)), H', ⟨by first | omega | exact Nat.le_refl _⟩, ⟨by repeat (first | (with_reducible first | exact HB.out | apply below_alloc | apply pw_below_drewN | apply below_drew1) | exact HB.out)⟩⟩
    · rw [if_neg c8] at H
      have c8b0 : (t138 == 0) = false := beq_eq_false_iff_ne.mpr c8
      have c8b1 : (t138 != 0) = true := bne_iff_ne.mpr c8
      (first | rw [c8b0] | (simp only [i64_w, i32_w]; rw [c8b0]) | skip)
      have H' := Aside0.mk H
      clear H
      go_wp2
      go_meet
      case rel => exact ⟨_, (false), (by first | rfl | (simp; done) | (simp [*]; done)), H', ⟨by first | omega | exact Nat.le_refl _⟩, ⟨by repeat (first | (with_reducible first | exact HB.out | apply below_alloc | apply pw_below_drewN | apply below_drew1) | exact HB.out)⟩⟩
  case rest =>
    clear HC5
    try clear p2
    try clear c4
    try clear c8
    try clear c8b0
    try clear c8b1
    obtain ⟨kq, x9_4, rfl, HA, HJ4, HB⟩ := hcut
    cases kq with
    | zero => exact absurd HA.out (by simp [versalref2_Div.j0])
    | succ kj4 =>
      have H := HA.out
      clear HA
      simp only [versalref2_Div.j0] at H
      by_cases c9 : x9_4 = true
      · subst c9
        have H1 : (some 2147483647) = some r := by rw [if_pos rfl] at H; exact H
        clear H
        have H := H1
        clear H1
        obtain rfl := Option.some.inj H
        go_wp2
        go_ret
        exact ⟨by first | rfl | (simp [errW_none, errW_some] <;> rfl) | (simp [*, errW_none, errW_some] <;> rfl), by repeat (first | (with_reducible first | exact HB.out | apply below_alloc | apply pw_below_drewN | apply below_drew1) | exact HB.out)⟩
      · replace c9 := Bool.eq_false_iff.mpr c9
        subst c9
        have H1 : (if t138 = 0 then (versalref2_Div.j1 kj4 t137 t138 (decide (t137 < 0))) else (versalref2_Div.j1 kj4 t137 t138 false)) = some r := by rw [if_neg (show ¬ (false = true) by decide)] at H; exact H
        clear H
        have H := H1
        clear H1
        have HC10 := Aside0.mk H
        clear H
        go_upto_region 5 with (fail)
        go_cut [16] (fun v16 wc => ∃ (kq : Nat) (x16_9 : Bool), v16 = .bool x16_9 ∧ Aside0 (versalref2_Div.j1 kq t137 t138 x16_9 = some r) ∧ Aside0 (kq ≤ kj4) ∧ Aside0 (Below w.heap.size w wc))
        case first =>
          have H := HC10.out
          clear HC10
          by_cases c11 : t138 = 0
          · rw [if_pos c11] at H
            have c11b0 : (t138 == 0) = true := beq_iff_eq.mpr c11
            have c11b1 : (t138 != 0) = false := bne_eq_false_iff_eq.mpr c11
            clear c11
            (first | rw [c11b0] | (simp only [i64_w, i32_w]; rw [c11b0]) | skip)
            have H' := Aside0.mk H
            clear H
            go_wp2
            go_meet
            case rel => exact ⟨_, (decide (t137 < 0)), (by first | rfl | (simp; done) | (simp [*]; done)), H', ⟨by have := HJ4.out; first | omega | exact Nat.le_refl _⟩, ⟨by repeat (first | (with_reducible first | exact HB.out | apply below_alloc | apply pw_below_drewN | apply below_drew1) | exact HB.out)⟩⟩
          · rw [if_neg c11] at H
            have c11b0 : (t138 == 0) = false := beq_eq_false_iff_ne.mpr c11
            have c11b1 : (t138 != 0) = true := bne_iff_ne.mpr c11
            (first | rw [c11b0] | (simp only [i64_w, i32_w]; rw [c11b0]) | skip)
            have H' := Aside0.mk H
            clear H
            go_wp2
            go_meet
            case rel => exact ⟨_, (false), (by first | rfl | (simp; done) | (simp [*]; done)), H', ⟨by have := HJ4.out; first | omega | exact Nat.le_refl _⟩, ⟨by repeat (first | (with_reducible first | exact HB.out | apply below_alloc | apply pw_below_drewN | apply below_drew1) | exact HB.out)⟩⟩
        case rest =>
          clear HC10
          try clear c1
          try clear p2
          try clear c4
          try clear c8
          try clear c8b0
          try clear c8b1
          try clear c9
          try clear c11
          try clear c11b0
          try clear c11b1
          try clear p2
          obtain ⟨kq, x16_9, rfl, HA, HJ9, HB⟩ := hcut
          cases kq with
          | zero => exact absurd HA.out (by simp [versalref2_Div.j1])
          | succ kj9 =>
            have H := HA.out
            clear HA
            simp only [versalref2_Div.j1] at H
            by_cases c12 : x16_9 = true
            · subst c12
              have H1 : (some (-2147483647)) = some r := by rw [if_pos rfl] at H; exact H
              clear H
              have H := H1
              clear H1
              obtain rfl := Option.some.inj H
              go_wp2
              go_ret
              exact ⟨by first | rfl | (simp [errW_none, errW_some] <;> rfl) | (simp [*, errW_none, errW_some] <;> rfl), by repeat (first | (with_reducible first | exact HB.out | apply below_alloc | apply pw_below_drewN | apply below_drew1) | exact HB.out)⟩
            · replace c12 := Bool.eq_false_iff.mpr c12
              subst c12
              have H1 : (if t138 = 0 then (some 0) else (if t138 < 0 then ((versalref2_Floor.f (wrap64 ((wrap64 (-t137)) * 65536)) (wrap64 (-t138))).bind fun t139 => ((versalref2_Clip.f t139).bind fun t140 => (some t140))) else ((versalref2_Floor.f (wrap64 (t137 * 65536)) t138).bind fun t141 => ((versalref2_Clip.f t141).bind fun t142 => (some t142))))) = some r := by rw [if_neg (show ¬ (false = true) by decide)] at H; exact H
              clear H
              have H := H1
              clear H1
              by_cases c13 : t138 = 0
              · rw [if_pos c13] at H
                have c13b0 : (t138 == 0) = true := beq_iff_eq.mpr c13
                have c13b1 : (t138 != 0) = false := bne_eq_false_iff_eq.mpr c13
                clear c13
                obtain rfl := Option.some.inj H
                go_wp2
                go_ret
                exact ⟨by first | rfl | (simp [errW_none, errW_some] <;> rfl) | (simp [*, errW_none, errW_some] <;> rfl), by repeat (first | (with_reducible first | exact HB.out | apply below_alloc | apply pw_below_drewN | apply below_drew1) | exact HB.out)⟩
              · rw [if_neg c13] at H
                have c13b0 : (t138 == 0) = false := beq_eq_false_iff_ne.mpr c13
                have c13b1 : (t138 != 0) = true := bne_iff_ne.mpr c13
                by_cases c14 : t138 < 0
                · rw [if_pos c14] at H
                  have c14b0 : decide (t138 < 0) = true := decide_eq_true c14
                  clear c14
                  replace H := Option.bind_eq_some_iff.mp H
                  obtain ⟨t139, A150, H⟩ := H
                  replace H : ((versalref2_Clip.f t139).bind fun t140 => (some t140)) = some r := H
                  have A15 := Aside0.mk A150
                  clear A150
                  replace H := Option.bind_eq_some_iff.mp H
                  obtain ⟨t140, A160, H⟩ := H
                  replace H : (some t140) = some r := H
                  have A16 := Aside0.mk A160
                  clear A160
                  obtain rfl := Option.some.inj H
                  go_wp2_with (first | ((with_reducible refine gate_callee (f := 42) rfl ?_); refine goesL_ (some 34) rfl rfl Try.func42 (by kernel_rfl) rfl #[.int .i64 (wrap64 ((wrap64 (-t137)) * 65536)), .int .i64 (wrap64 (-t138))] rfl (by (try simp only [List.map_toArray, List.map_cons, List.map_nil]); first | done | rfl | (simp only [List.length_drop, List.length_take]; rfl)) ?_; (with_reducible refine (versalref2_Floor.calls (wrap64 ((wrap64 (-t137)) * 65536)) (wrap64 (-t138)) t139 _ A15.out).mono ?_); rintro e w' ⟨rfl, ⟨nd, rfl⟩⟩; refine ⟨_, rfl, ?_⟩) | ((with_reducible refine gate_callee (f := 44) rfl ?_); refine goesL_ (some 35) rfl rfl Try.func44 (by kernel_rfl) rfl #[.int .i64 t139] rfl (by (try simp only [List.map_toArray, List.map_cons, List.map_nil]); first | done | rfl | (simp only [List.length_drop, List.length_take]; rfl)) ?_; (with_reducible refine (versalref2_Clip.calls t139 t140 _ A16.out).mono ?_); rintro e w17 ⟨rfl, hb⟩; refine ⟨_, rfl, ?_⟩; have n0_ := Aside0.mk (below_step (by repeat (first | (with_reducible first | exact HB.out | apply below_alloc | apply pw_below_drewN | apply below_drew1) | exact HB.out)) hb); clear HB; have HB := n0_; clear n0_; (try clear hb); (try clear hb2); (try clear hk); (try clear hi)))
                  go_ret
                  exact ⟨by first | rfl | (simp [errW_none, errW_some] <;> rfl) | (simp [*, errW_none, errW_some] <;> rfl), by repeat (first | (with_reducible first | exact HB.out | apply below_alloc | apply pw_below_drewN | apply below_drew1) | exact HB.out)⟩
                · rw [if_neg c14] at H
                  have c14b0 : decide (t138 < 0) = false := decide_eq_false c14
                  clear c14
                  replace H := Option.bind_eq_some_iff.mp H
                  obtain ⟨t141, A180, H⟩ := H
                  replace H : ((versalref2_Clip.f t141).bind fun t142 => (some t142)) = some r := H
                  have A18 := Aside0.mk A180
                  clear A180
                  replace H := Option.bind_eq_some_iff.mp H
                  obtain ⟨t142, A190, H⟩ := H
                  replace H : (some t142) = some r := H
                  have A19 := Aside0.mk A190
                  clear A190
                  obtain rfl := Option.some.inj H
                  go_wp2_with (first | ((with_reducible refine gate_callee (f := 42) rfl ?_); refine goesL_ (some 39) rfl rfl Try.func42 (by kernel_rfl) rfl #[.int .i64 (wrap64 (t137 * 65536)), .int .i64 t138] rfl (by (try simp only [List.map_toArray, List.map_cons, List.map_nil]); first | done | rfl | (simp only [List.length_drop, List.length_take]; rfl)) ?_; (with_reducible refine (versalref2_Floor.calls (wrap64 (t137 * 65536)) t138 t141 _ A18.out).mono ?_); rintro e w' ⟨rfl, ⟨nd, rfl⟩⟩; refine ⟨_, rfl, ?_⟩) | ((with_reducible refine gate_callee (f := 44) rfl ?_); refine goesL_ (some 40) rfl rfl Try.func44 (by kernel_rfl) rfl #[.int .i64 t141] rfl (by (try simp only [List.map_toArray, List.map_cons, List.map_nil]); first | done | rfl | (simp only [List.length_drop, List.length_take]; rfl)) ?_; (with_reducible refine (versalref2_Clip.calls t141 t142 _ A19.out).mono ?_); rintro e w20 ⟨rfl, hb⟩; refine ⟨_, rfl, ?_⟩; have n0_ := Aside0.mk (below_step (by repeat (first | (with_reducible first | exact HB.out | apply below_alloc | apply pw_below_drewN | apply below_drew1) | exact HB.out)) hb); clear HB; have HB := n0_; clear n0_; (try clear hb); (try clear hb2); (try clear hk); (try clear hi)))
                  go_ret
                  exact ⟨by first | rfl | (simp [errW_none, errW_some] <;> rfl) | (simp [*, errW_none, errW_some] <;> rfl), by repeat (first | (with_reducible first | exact HB.out | apply below_alloc | apply pw_below_drewN | apply below_drew1) | exact HB.out)⟩

/-! ### versalref2_Tan: function 28 -/
def versalref2_Tan.f (k : Nat) (a0 : Int) : Option (Int) := (versalref2_Sin.f k a0).bind fun t143 => ((versalref2_Cos.f k a0).bind fun t144 => ((versalref2_Div.f k t143 t144).bind fun t145 => (some t145)))
theorem versalref2_Tan.mono : ∀ a0 k, LeO (versalref2_Tan.f k a0) (versalref2_Tan.f (k + 1) a0) := by
  intro a0 k
  unfold versalref2_Tan.f
  repeat' first
      | (with_reducible exact versalref2_Cos.mono _ _)
      | (with_reducible exact versalref2_Div.mono _ _ _)
      | (with_reducible exact versalref2_Sin.mono _ _)
      | (with_reducible exact LeO.refl _)
      | (with_reducible exact LeO.none _)
      | (with_reducible refine LeO.ite ?_ ?_)
      | (with_reducible refine LeO.bind ?_ (fun _ => ?_))
      | exact versalref2_Cos.mono _ _
      | exact versalref2_Div.mono _ _ _
      | exact versalref2_Sin.mono _ _
      | exact LeO.none _
      | refine LeO.ite ?_ ?_
      | refine LeO.bind ?_ (fun _ => ?_)
set_option maxHeartbeats 8000000 in
set_option maxRecDepth 100000 in
theorem versalref2_Tan.calls (k : Nat) (a0 : Int) (r : Int) (w : World) (h : versalref2_Tan.f k a0 = some r) :
    Calls Try.prog 28 #[.int .i64 a0] w fun e w' => e = .returned (.int .i64 r) ∧ Below w.heap.size w w' := by
  have HB := Aside0.mk (Below.refl w.heap.size w)
  have H : ((versalref2_Sin.f k a0).bind fun t143 => ((versalref2_Cos.f k a0).bind fun t144 => ((versalref2_Div.f k t143 t144).bind fun t145 => (some t145)))) = some r := h
  clear h
  replace H := Option.bind_eq_some_iff.mp H
  obtain ⟨t143, A20, H⟩ := H
  replace H : ((versalref2_Cos.f k a0).bind fun t144 => ((versalref2_Div.f k t143 t144).bind fun t145 => (some t145))) = some r := H
  have A2 := Aside0.mk A20
  clear A20
  replace H := Option.bind_eq_some_iff.mp H
  obtain ⟨t144, A30, H⟩ := H
  replace H : ((versalref2_Div.f k t143 t144).bind fun t145 => (some t145)) = some r := H
  have A3 := Aside0.mk A30
  clear A30
  replace H := Option.bind_eq_some_iff.mp H
  obtain ⟨t145, A40, H⟩ := H
  replace H : (some t145) = some r := H
  have A4 := Aside0.mk A40
  clear A40
  obtain rfl := Option.some.inj H
  go_enter Try.func28, Try.ntmps28
  go_wp2_with (first | ((with_reducible refine gate_callee (f := 26) rfl ?_); refine goesL_ (some 4) rfl rfl Try.func26 (by kernel_rfl) rfl #[.int .i64 a0] rfl (by (try simp only [List.map_toArray, List.map_cons, List.map_nil]); first | done | rfl | (simp only [List.length_drop, List.length_take]; rfl)) ?_; (with_reducible refine (versalref2_Sin.calls k a0 t143 _ A2.out).mono ?_); rintro e w' ⟨rfl, ⟨nd, rfl⟩⟩; refine ⟨_, rfl, ?_⟩) | ((with_reducible refine gate_callee (f := 27) rfl ?_); refine goesL_ (some 6) rfl rfl Try.func27 (by kernel_rfl) rfl #[.int .i64 a0] rfl (by (try simp only [List.map_toArray, List.map_cons, List.map_nil]); first | done | rfl | (simp only [List.length_drop, List.length_take]; rfl)) ?_; (with_reducible refine (versalref2_Cos.calls k a0 t144 _ A3.out).mono ?_); rintro e w' ⟨rfl, ⟨nd, rfl⟩⟩; refine ⟨_, rfl, ?_⟩) | ((with_reducible refine gate_callee (f := 43) rfl ?_); refine goesL_ (some 7) rfl rfl Try.func43 (by kernel_rfl) rfl #[.int .i64 t143, .int .i64 t144] rfl (by (try simp only [List.map_toArray, List.map_cons, List.map_nil]); first | done | rfl | (simp only [List.length_drop, List.length_take]; rfl)) ?_; (with_reducible refine (versalref2_Div.calls k t143 t144 t145 _ A4.out).mono ?_); rintro e w5 ⟨rfl, hb⟩; refine ⟨_, rfl, ?_⟩; have n0_ := Aside0.mk (below_step (by repeat (first | (with_reducible first | exact HB.out | apply below_alloc | apply pw_below_drewN | apply below_drew1) | exact HB.out)) hb); clear HB; have HB := n0_; clear n0_; (try clear hb); (try clear hb2); (try clear hk); (try clear hi)))
  go_ret
  exact ⟨by first | rfl | (simp [errW_none, errW_some] <;> rfl) | (simp [*, errW_none, errW_some] <;> rfl), by repeat (first | (with_reducible first | exact HB.out | apply below_alloc | apply pw_below_drewN | apply below_drew1) | exact HB.out)⟩

/-! ### versalref2_abs: function 45 -/
def versalref2_abs.f (a0 : Int) : Option (Int) := some (mx a0 (wrap64 (-a0)))
set_option maxHeartbeats 8000000 in
set_option maxRecDepth 100000 in
theorem versalref2_abs.calls (a0 : Int) (r : Int) (w : World) (h : versalref2_abs.f a0 = some r) :
    Calls Try.prog 45 #[.int .i64 a0] w fun e w' => e = .returned (.int .i64 r) ∧ Below w.heap.size w w' := by
  have HB := Aside0.mk (Below.refl w.heap.size w)
  have H : (some (mx a0 (wrap64 (-a0)))) = some r := h
  clear h
  obtain ⟨ji2, hji2⟩ : ∃ j_ : Int, (mx a0 (wrap64 (-a0))) = j_ := ⟨_, rfl⟩
  replace H : (some ji2) = some r := by first | (rw [hji2] at H; exact H) | (simp only [hji2] at H ⊢; exact H)
  have hji2_ : (if a0 < (wrap64 (-a0)) then (wrap64 (-a0)) else a0) = ji2 := hji2
  obtain rfl := Option.some.inj H
  go_enter Try.func45, Try.ntmps45
  go_wp2
  go_ret
  exact ⟨by first | rfl | (simp [errW_none, errW_some] <;> rfl) | (simp only [← hji2]; first | rfl | (simp [errW_none, errW_some] <;> rfl)) | (simp [*, errW_none, errW_some] <;> rfl), by repeat (first | (with_reducible first | exact HB.out | apply below_alloc | apply pw_below_drewN | apply below_drew1) | exact HB.out)⟩

/-! ### versalref2_Atan: function 29 -/
mutual
def versalref2_Atan.j0 : Nat → Int → Int → Bool → Option (Int)
  | 0, _, _, _ => none
  | k + 1, x0, x1, x18 => if x18 = true then (some 0) else ((versalref2_abs.f x1).bind fun t148 => ((versalref2_abs.f x0).bind fun t149 => ((versalref2_abs.f x1).bind fun t150 => ((versalref2_abs.f x0).bind fun t151 => (if (mx t148 t149) = 0 then (none) else ((versalref2_abs.f x0).bind fun t152 => ((versalref2_abs.f x1).bind fun t153 => (if t152 > t153 then (versalref2_Atan.j1 k x0 x1 (wrap64 (16384 - (wrap64 (Int.tdiv (wrap64 ((wrap64 ((wrap64 (8192 * (wrap64 (Int.tdiv (wrap64 ((mn t150 t151) * 65536)) (mx t148 t149))))) * 65536)) + (wrap64 ((wrap64 (2847 * (wrap64 (Int.tdiv (wrap64 ((mn t150 t151) * 65536)) (mx t148 t149))))) * (wrap64 (65536 - (wrap64 (Int.tdiv (wrap64 ((mn t150 t151) * 65536)) (mx t148 t149))))))))) 4294967296))))) else (versalref2_Atan.j1 k x0 x1 (wrap64 (Int.tdiv (wrap64 ((wrap64 ((wrap64 (8192 * (wrap64 (Int.tdiv (wrap64 ((mn t150 t151) * 65536)) (mx t148 t149))))) * 65536)) + (wrap64 ((wrap64 (2847 * (wrap64 (Int.tdiv (wrap64 ((mn t150 t151) * 65536)) (mx t148 t149))))) * (wrap64 (65536 - (wrap64 (Int.tdiv (wrap64 ((mn t150 t151) * 65536)) (mx t148 t149))))))))) 4294967296)))))))))))
def versalref2_Atan.j1 : Nat → Int → Int → Int → Option (Int)
  | 0, _, _, _ => none
  | k + 1, x0, x1, x8 => if x1 < 0 then (if x0 < 0 then ((versalref2_Norm.f (wrap64 (-(wrap64 (32768 - x8))))).bind fun t154 => (some t154)) else (some (wrap64 (32768 - x8)))) else (if x0 < 0 then ((versalref2_Norm.f (wrap64 (-x8))).bind fun t155 => (some t155)) else (some x8))
end
def versalref2_Atan.f (k : Nat) (a0 : Int) (a1 : Int) : Option (Int) := (versalref2_Clip.f a0).bind fun t146 => ((versalref2_Clip.f a1).bind fun t147 => (if t147 = 0 then (versalref2_Atan.j0 k t146 t147 (t146 == 0)) else (versalref2_Atan.j0 k t146 t147 false)))
theorem versalref2_Atan.mono_l : ∀ k, (∀ y0 y1 y2, LeO (versalref2_Atan.j0 k y0 y1 y2) (versalref2_Atan.j0 (k + 1) y0 y1 y2)) ∧ (∀ y0 y1 y2, LeO (versalref2_Atan.j1 k y0 y1 y2) (versalref2_Atan.j1 (k + 1) y0 y1 y2))
  | 0 => ⟨fun _ _ _ r h => by simp [versalref2_Atan.j0] at h, fun _ _ _ r h => by simp [versalref2_Atan.j1] at h⟩
  | k + 1 => by
    obtain ⟨ih0, ih1⟩ := versalref2_Atan.mono_l k
    refine ⟨?_, ?_⟩
    · intro y0 y1 y2
      unfold versalref2_Atan.j0
      repeat' first
      | (with_reducible exact ih0 _ _ _)
      | (with_reducible exact ih1 _ _ _)
      | (with_reducible exact LeO.refl _)
      | (with_reducible exact LeO.none _)
      | (with_reducible refine LeO.ite ?_ ?_)
      | (with_reducible refine LeO.bind ?_ (fun _ => ?_))
      | exact ih0 _ _ _
      | exact ih1 _ _ _
      | exact LeO.none _
      | refine LeO.ite ?_ ?_
      | refine LeO.bind ?_ (fun _ => ?_)
    · intro y0 y1 y2
      unfold versalref2_Atan.j1
      repeat' first
      | (with_reducible exact ih0 _ _ _)
      | (with_reducible exact ih1 _ _ _)
      | (with_reducible exact LeO.refl _)
      | (with_reducible exact LeO.none _)
      | (with_reducible refine LeO.ite ?_ ?_)
      | (with_reducible refine LeO.bind ?_ (fun _ => ?_))
      | exact ih0 _ _ _
      | exact ih1 _ _ _
      | exact LeO.none _
      | refine LeO.ite ?_ ?_
      | refine LeO.bind ?_ (fun _ => ?_)
theorem versalref2_Atan.mono : ∀ a0 a1 k, LeO (versalref2_Atan.f k a0 a1) (versalref2_Atan.f (k + 1) a0 a1) := by
  intro a0 a1 k
  obtain ⟨ih0, ih1⟩ := versalref2_Atan.mono_l k
  unfold versalref2_Atan.f
  repeat' first
      | (with_reducible exact ih0 _ _ _)
      | (with_reducible exact ih1 _ _ _)
      | (with_reducible exact LeO.refl _)
      | (with_reducible exact LeO.none _)
      | (with_reducible refine LeO.ite ?_ ?_)
      | (with_reducible refine LeO.bind ?_ (fun _ => ?_))
      | exact ih0 _ _ _
      | exact ih1 _ _ _
      | exact LeO.none _
      | refine LeO.ite ?_ ?_
      | refine LeO.bind ?_ (fun _ => ?_)
set_option maxHeartbeats 8000000 in
set_option maxRecDepth 100000 in
theorem versalref2_Atan.calls (k : Nat) (a0 : Int) (a1 : Int) (r : Int) (w : World) (h : versalref2_Atan.f k a0 a1 = some r) :
    Calls Try.prog 29 #[.int .i64 a0, .int .i64 a1] w fun e w' => e = .returned (.int .i64 r) ∧ Below w.heap.size w w' := by
  have HB := Aside0.mk (Below.refl w.heap.size w)
  have H : ((versalref2_Clip.f a0).bind fun t146 => ((versalref2_Clip.f a1).bind fun t147 => (if t147 = 0 then (versalref2_Atan.j0 k t146 t147 (t146 == 0)) else (versalref2_Atan.j0 k t146 t147 false)))) = some r := h
  clear h
  replace H := Option.bind_eq_some_iff.mp H
  obtain ⟨t146, A30, H⟩ := H
  replace H : ((versalref2_Clip.f a1).bind fun t147 => (if t147 = 0 then (versalref2_Atan.j0 k t146 t147 (t146 == 0)) else (versalref2_Atan.j0 k t146 t147 false))) = some r := H
  have A3 := Aside0.mk A30
  clear A30
  replace H := Option.bind_eq_some_iff.mp H
  obtain ⟨t147, A40, H⟩ := H
  replace H : (if t147 = 0 then (versalref2_Atan.j0 k t146 t147 (t146 == 0)) else (versalref2_Atan.j0 k t146 t147 false)) = some r := H
  have A4 := Aside0.mk A40
  clear A40
  have HC5 := Aside0.mk H
  clear H
  go_enter Try.func29, Try.ntmps29
  go_upto_region 3 with (first | ((with_reducible refine gate_callee (f := 44) rfl ?_); refine goesL_ (some 10) rfl rfl Try.func44 (by kernel_rfl) rfl #[.int .i64 a0] rfl (by (try simp only [List.map_toArray, List.map_cons, List.map_nil]); first | done | rfl | (simp only [List.length_drop, List.length_take]; rfl)) ?_; (with_reducible refine (versalref2_Clip.calls a0 t146 _ A3.out).mono ?_); rintro e w6 ⟨rfl, hb⟩; refine ⟨_, rfl, ?_⟩; have n0_ := Aside0.mk (below_step (by repeat (first | (with_reducible first | exact HB.out | apply below_alloc | apply pw_below_drewN | apply below_drew1) | exact HB.out)) hb); clear HB; have HB := n0_; clear n0_; (try clear hb); (try clear hb2); (try clear hk); (try clear hi)) | ((with_reducible refine gate_callee (f := 44) rfl ?_); refine goesL_ (some 12) rfl rfl Try.func44 (by kernel_rfl) rfl #[.int .i64 a1] rfl (by (try simp only [List.map_toArray, List.map_cons, List.map_nil]); first | done | rfl | (simp only [List.length_drop, List.length_take]; rfl)) ?_; (with_reducible refine (versalref2_Clip.calls a1 t147 _ A4.out).mono ?_); rintro e w7 ⟨rfl, hb⟩; refine ⟨_, rfl, ?_⟩; have n0_ := Aside0.mk (below_step (by repeat (first | (with_reducible first | exact HB.out | apply below_alloc | apply pw_below_drewN | apply below_drew1) | exact HB.out)) hb); clear HB; have HB := n0_; clear n0_; (try clear hb); (try clear hb2); (try clear hk); (try clear hi)))
  (try simp only [Act.put, List.setIfInBounds_toArray, List.set_cons_zero, List.set_cons_succ])
  go_cut [18] (fun v18 wc => ∃ (kq : Nat) (x18_4 : Bool), v18 = .bool x18_4 ∧ Aside0 (versalref2_Atan.j0 kq t146 t147 x18_4 = some r) ∧ Aside0 (kq ≤ k) ∧ Aside0 (Below w.heap.size w wc))
  case first =>
    have H := HC5.out
    clear HC5
    by_cases c8 : t147 = 0
    · rw [if_pos c8] at H
      have c8b0 : (t147 == 0) = true := beq_iff_eq.mpr c8
      have c8b1 : (t147 != 0) = false := bne_eq_false_iff_eq.mpr c8
      clear c8
      (first | rw [c8b0] | (simp only [i64_w, i32_w]; rw [c8b0]) | skip)
      have H' := Aside0.mk H
      clear H
      go_wp2
      go_meet
      case rel => exact ⟨_, ((t146 == 0)), (by first | rfl | (simp; done) | (simp [*]; done)), H', ⟨by first | omega | exact Nat.le_refl _⟩, ⟨by repeat (first | (with_reducible first | exact HB.out | apply below_alloc | apply pw_below_drewN | apply below_drew1) | exact HB.out)⟩⟩
    · rw [if_neg c8] at H
      have c8b0 : (t147 == 0) = false := beq_eq_false_iff_ne.mpr c8
      have c8b1 : (t147 != 0) = true := bne_iff_ne.mpr c8
      (first | rw [c8b0] | (simp only [i64_w, i32_w]; rw [c8b0]) | skip)
      have H' := Aside0.mk H
      clear H
      go_wp2
      go_meet
      case rel => exact ⟨_, (false), (by first | rfl | (simp; done) | (simp [*]; done)), H', ⟨by first | omega | exact Nat.le_refl _⟩, ⟨by repeat (first | (with_reducible first | exact HB.out | apply below_alloc | apply pw_below_drewN | apply below_drew1) | exact HB.out)⟩⟩
  case rest =>
    clear HC5
    try clear c2
    try clear p2
    try clear c4
    try clear c8
    try clear c8b0
    try clear c8b1
    obtain ⟨kq, x18_4, rfl, HA, HJ4, HB⟩ := hcut
    cases kq with
    | zero => exact absurd HA.out (by simp [versalref2_Atan.j0])
    | succ kj4 =>
      have H := HA.out
      clear HA
      simp only [versalref2_Atan.j0] at H
      by_cases c9 : x18_4 = true
      · subst c9
        have H1 : (some 0) = some r := by rw [if_pos rfl] at H; exact H
        clear H
        have H := H1
        clear H1
        obtain rfl := Option.some.inj H
        go_wp2
        go_ret
        exact ⟨by first | rfl | (simp [errW_none, errW_some] <;> rfl) | (simp [*, errW_none, errW_some] <;> rfl), by repeat (first | (with_reducible first | exact HB.out | apply below_alloc | apply pw_below_drewN | apply below_drew1) | exact HB.out)⟩
      · replace c9 := Bool.eq_false_iff.mpr c9
        subst c9
        have H1 : ((versalref2_abs.f t147).bind fun t148 => ((versalref2_abs.f t146).bind fun t149 => ((versalref2_abs.f t147).bind fun t150 => ((versalref2_abs.f t146).bind fun t151 => (if (mx t148 t149) = 0 then (none) else ((versalref2_abs.f t146).bind fun t152 => ((versalref2_abs.f t147).bind fun t153 => (if t152 > t153 then (versalref2_Atan.j1 kj4 t146 t147 (wrap64 (16384 - (wrap64 (Int.tdiv (wrap64 ((wrap64 ((wrap64 (8192 * (wrap64 (Int.tdiv (wrap64 ((mn t150 t151) * 65536)) (mx t148 t149))))) * 65536)) + (wrap64 ((wrap64 (2847 * (wrap64 (Int.tdiv (wrap64 ((mn t150 t151) * 65536)) (mx t148 t149))))) * (wrap64 (65536 - (wrap64 (Int.tdiv (wrap64 ((mn t150 t151) * 65536)) (mx t148 t149))))))))) 4294967296))))) else (versalref2_Atan.j1 kj4 t146 t147 (wrap64 (Int.tdiv (wrap64 ((wrap64 ((wrap64 (8192 * (wrap64 (Int.tdiv (wrap64 ((mn t150 t151) * 65536)) (mx t148 t149))))) * 65536)) + (wrap64 ((wrap64 (2847 * (wrap64 (Int.tdiv (wrap64 ((mn t150 t151) * 65536)) (mx t148 t149))))) * (wrap64 (65536 - (wrap64 (Int.tdiv (wrap64 ((mn t150 t151) * 65536)) (mx t148 t149))))))))) 4294967296))))))))))) = some r := by rw [if_neg (show ¬ (false = true) by decide)] at H; exact H
        clear H
        have H := H1
        clear H1
        replace H := Option.bind_eq_some_iff.mp H
        obtain ⟨t148, A100, H⟩ := H
        replace H : ((versalref2_abs.f t146).bind fun t149 => ((versalref2_abs.f t147).bind fun t150 => ((versalref2_abs.f t146).bind fun t151 => (if (mx t148 t149) = 0 then (none) else ((versalref2_abs.f t146).bind fun t152 => ((versalref2_abs.f t147).bind fun t153 => (if t152 > t153 then (versalref2_Atan.j1 kj4 t146 t147 (wrap64 (16384 - (wrap64 (Int.tdiv (wrap64 ((wrap64 ((wrap64 (8192 * (wrap64 (Int.tdiv (wrap64 ((mn t150 t151) * 65536)) (mx t148 t149))))) * 65536)) + (wrap64 ((wrap64 (2847 * (wrap64 (Int.tdiv (wrap64 ((mn t150 t151) * 65536)) (mx t148 t149))))) * (wrap64 (65536 - (wrap64 (Int.tdiv (wrap64 ((mn t150 t151) * 65536)) (mx t148 t149))))))))) 4294967296))))) else (versalref2_Atan.j1 kj4 t146 t147 (wrap64 (Int.tdiv (wrap64 ((wrap64 ((wrap64 (8192 * (wrap64 (Int.tdiv (wrap64 ((mn t150 t151) * 65536)) (mx t148 t149))))) * 65536)) + (wrap64 ((wrap64 (2847 * (wrap64 (Int.tdiv (wrap64 ((mn t150 t151) * 65536)) (mx t148 t149))))) * (wrap64 (65536 - (wrap64 (Int.tdiv (wrap64 ((mn t150 t151) * 65536)) (mx t148 t149))))))))) 4294967296)))))))))) = some r := H
        have A10 := Aside0.mk A100
        clear A100
        replace H := Option.bind_eq_some_iff.mp H
        obtain ⟨t149, A110, H⟩ := H
        replace H : ((versalref2_abs.f t147).bind fun t150 => ((versalref2_abs.f t146).bind fun t151 => (if (mx t148 t149) = 0 then (none) else ((versalref2_abs.f t146).bind fun t152 => ((versalref2_abs.f t147).bind fun t153 => (if t152 > t153 then (versalref2_Atan.j1 kj4 t146 t147 (wrap64 (16384 - (wrap64 (Int.tdiv (wrap64 ((wrap64 ((wrap64 (8192 * (wrap64 (Int.tdiv (wrap64 ((mn t150 t151) * 65536)) (mx t148 t149))))) * 65536)) + (wrap64 ((wrap64 (2847 * (wrap64 (Int.tdiv (wrap64 ((mn t150 t151) * 65536)) (mx t148 t149))))) * (wrap64 (65536 - (wrap64 (Int.tdiv (wrap64 ((mn t150 t151) * 65536)) (mx t148 t149))))))))) 4294967296))))) else (versalref2_Atan.j1 kj4 t146 t147 (wrap64 (Int.tdiv (wrap64 ((wrap64 ((wrap64 (8192 * (wrap64 (Int.tdiv (wrap64 ((mn t150 t151) * 65536)) (mx t148 t149))))) * 65536)) + (wrap64 ((wrap64 (2847 * (wrap64 (Int.tdiv (wrap64 ((mn t150 t151) * 65536)) (mx t148 t149))))) * (wrap64 (65536 - (wrap64 (Int.tdiv (wrap64 ((mn t150 t151) * 65536)) (mx t148 t149))))))))) 4294967296))))))))) = some r := H
        have A11 := Aside0.mk A110
        clear A110
        obtain ⟨ji12, hji12⟩ : ∃ j_ : Int, (mx t148 t149) = j_ := ⟨_, rfl⟩
        replace H : ((versalref2_abs.f t147).bind fun t150 => ((versalref2_abs.f t146).bind fun t151 => (if (ji12) = 0 then (none) else ((versalref2_abs.f t146).bind fun t152 => ((versalref2_abs.f t147).bind fun t153 => (if t152 > t153 then (versalref2_Atan.j1 kj4 t146 t147 (wrap64 (16384 - (wrap64 (Int.tdiv (wrap64 ((wrap64 ((wrap64 (8192 * (wrap64 (Int.tdiv (wrap64 ((mn t150 t151) * 65536)) (ji12))))) * 65536)) + (wrap64 ((wrap64 (2847 * (wrap64 (Int.tdiv (wrap64 ((mn t150 t151) * 65536)) (ji12))))) * (wrap64 (65536 - (wrap64 (Int.tdiv (wrap64 ((mn t150 t151) * 65536)) (ji12))))))))) 4294967296))))) else (versalref2_Atan.j1 kj4 t146 t147 (wrap64 (Int.tdiv (wrap64 ((wrap64 ((wrap64 (8192 * (wrap64 (Int.tdiv (wrap64 ((mn t150 t151) * 65536)) (ji12))))) * 65536)) + (wrap64 ((wrap64 (2847 * (wrap64 (Int.tdiv (wrap64 ((mn t150 t151) * 65536)) (ji12))))) * (wrap64 (65536 - (wrap64 (Int.tdiv (wrap64 ((mn t150 t151) * 65536)) (ji12))))))))) 4294967296))))))))) = some r := by first | (rw [hji12] at H; exact H) | (simp only [hji12] at H ⊢; exact H)
        (try rw [hji12] at A10)
        (try rw [hji12] at A11)
        have hji12_ : (if t148 < t149 then t149 else t148) = ji12 := hji12
        replace H := Option.bind_eq_some_iff.mp H
        obtain ⟨t150, A130, H⟩ := H
        replace H : ((versalref2_abs.f t146).bind fun t151 => (if (ji12) = 0 then (none) else ((versalref2_abs.f t146).bind fun t152 => ((versalref2_abs.f t147).bind fun t153 => (if t152 > t153 then (versalref2_Atan.j1 kj4 t146 t147 (wrap64 (16384 - (wrap64 (Int.tdiv (wrap64 ((wrap64 ((wrap64 (8192 * (wrap64 (Int.tdiv (wrap64 ((mn t150 t151) * 65536)) (ji12))))) * 65536)) + (wrap64 ((wrap64 (2847 * (wrap64 (Int.tdiv (wrap64 ((mn t150 t151) * 65536)) (ji12))))) * (wrap64 (65536 - (wrap64 (Int.tdiv (wrap64 ((mn t150 t151) * 65536)) (ji12))))))))) 4294967296))))) else (versalref2_Atan.j1 kj4 t146 t147 (wrap64 (Int.tdiv (wrap64 ((wrap64 ((wrap64 (8192 * (wrap64 (Int.tdiv (wrap64 ((mn t150 t151) * 65536)) (ji12))))) * 65536)) + (wrap64 ((wrap64 (2847 * (wrap64 (Int.tdiv (wrap64 ((mn t150 t151) * 65536)) (ji12))))) * (wrap64 (65536 - (wrap64 (Int.tdiv (wrap64 ((mn t150 t151) * 65536)) (ji12))))))))) 4294967296)))))))) = some r := H
        have A13 := Aside0.mk A130
        clear A130
        replace H := Option.bind_eq_some_iff.mp H
        obtain ⟨t151, A140, H⟩ := H
        replace H : (if (ji12) = 0 then (none) else ((versalref2_abs.f t146).bind fun t152 => ((versalref2_abs.f t147).bind fun t153 => (if t152 > t153 then (versalref2_Atan.j1 kj4 t146 t147 (wrap64 (16384 - (wrap64 (Int.tdiv (wrap64 ((wrap64 ((wrap64 (8192 * (wrap64 (Int.tdiv (wrap64 ((mn t150 t151) * 65536)) (ji12))))) * 65536)) + (wrap64 ((wrap64 (2847 * (wrap64 (Int.tdiv (wrap64 ((mn t150 t151) * 65536)) (ji12))))) * (wrap64 (65536 - (wrap64 (Int.tdiv (wrap64 ((mn t150 t151) * 65536)) (ji12))))))))) 4294967296))))) else (versalref2_Atan.j1 kj4 t146 t147 (wrap64 (Int.tdiv (wrap64 ((wrap64 ((wrap64 (8192 * (wrap64 (Int.tdiv (wrap64 ((mn t150 t151) * 65536)) (ji12))))) * 65536)) + (wrap64 ((wrap64 (2847 * (wrap64 (Int.tdiv (wrap64 ((mn t150 t151) * 65536)) (ji12))))) * (wrap64 (65536 - (wrap64 (Int.tdiv (wrap64 ((mn t150 t151) * 65536)) (ji12))))))))) 4294967296))))))) = some r := H
        have A14 := Aside0.mk A140
        clear A140
        obtain ⟨ji15, hji15⟩ : ∃ j_ : Int, (mn t150 t151) = j_ := ⟨_, rfl⟩
        replace H : (if (ji12) = 0 then (none) else ((versalref2_abs.f t146).bind fun t152 => ((versalref2_abs.f t147).bind fun t153 => (if t152 > t153 then (versalref2_Atan.j1 kj4 t146 t147 (wrap64 (16384 - (wrap64 (Int.tdiv (wrap64 ((wrap64 ((wrap64 (8192 * (wrap64 (Int.tdiv (wrap64 ((ji15) * 65536)) (ji12))))) * 65536)) + (wrap64 ((wrap64 (2847 * (wrap64 (Int.tdiv (wrap64 ((ji15) * 65536)) (ji12))))) * (wrap64 (65536 - (wrap64 (Int.tdiv (wrap64 ((ji15) * 65536)) (ji12))))))))) 4294967296))))) else (versalref2_Atan.j1 kj4 t146 t147 (wrap64 (Int.tdiv (wrap64 ((wrap64 ((wrap64 (8192 * (wrap64 (Int.tdiv (wrap64 ((ji15) * 65536)) (ji12))))) * 65536)) + (wrap64 ((wrap64 (2847 * (wrap64 (Int.tdiv (wrap64 ((ji15) * 65536)) (ji12))))) * (wrap64 (65536 - (wrap64 (Int.tdiv (wrap64 ((ji15) * 65536)) (ji12))))))))) 4294967296))))))) = some r := by first | (rw [hji15] at H; exact H) | (simp only [hji15] at H ⊢; exact H)
        (try rw [hji15] at A10)
        (try rw [hji15] at A11)
        (try rw [hji15] at A13)
        (try rw [hji15] at A14)
        have hji15_ : (if t151 < t150 then t151 else t150) = ji15 := hji15
        by_cases c16 : (ji12) = 0
        · rw [if_pos c16] at H
          exact absurd H (by simp)
        · rw [if_neg c16] at H
          have c16b0 : ((ji12) == 0) = false := beq_eq_false_iff_ne.mpr c16
          have c16b1 : ((ji12) != 0) = true := bne_iff_ne.mpr c16
          replace H := Option.bind_eq_some_iff.mp H
          obtain ⟨t152, A170, H⟩ := H
          replace H : ((versalref2_abs.f t147).bind fun t153 => (if t152 > t153 then (versalref2_Atan.j1 kj4 t146 t147 (wrap64 (16384 - (wrap64 (Int.tdiv (wrap64 ((wrap64 ((wrap64 (8192 * (wrap64 (Int.tdiv (wrap64 ((ji15) * 65536)) (ji12))))) * 65536)) + (wrap64 ((wrap64 (2847 * (wrap64 (Int.tdiv (wrap64 ((ji15) * 65536)) (ji12))))) * (wrap64 (65536 - (wrap64 (Int.tdiv (wrap64 ((ji15) * 65536)) (ji12))))))))) 4294967296))))) else (versalref2_Atan.j1 kj4 t146 t147 (wrap64 (Int.tdiv (wrap64 ((wrap64 ((wrap64 (8192 * (wrap64 (Int.tdiv (wrap64 ((ji15) * 65536)) (ji12))))) * 65536)) + (wrap64 ((wrap64 (2847 * (wrap64 (Int.tdiv (wrap64 ((ji15) * 65536)) (ji12))))) * (wrap64 (65536 - (wrap64 (Int.tdiv (wrap64 ((ji15) * 65536)) (ji12))))))))) 4294967296))))) = some r := H
          have A17 := Aside0.mk A170
          clear A170
          replace H := Option.bind_eq_some_iff.mp H
          obtain ⟨t153, A180, H⟩ := H
          replace H : (if t152 > t153 then (versalref2_Atan.j1 kj4 t146 t147 (wrap64 (16384 - (wrap64 (Int.tdiv (wrap64 ((wrap64 ((wrap64 (8192 * (wrap64 (Int.tdiv (wrap64 ((ji15) * 65536)) (ji12))))) * 65536)) + (wrap64 ((wrap64 (2847 * (wrap64 (Int.tdiv (wrap64 ((ji15) * 65536)) (ji12))))) * (wrap64 (65536 - (wrap64 (Int.tdiv (wrap64 ((ji15) * 65536)) (ji12))))))))) 4294967296))))) else (versalref2_Atan.j1 kj4 t146 t147 (wrap64 (Int.tdiv (wrap64 ((wrap64 ((wrap64 (8192 * (wrap64 (Int.tdiv (wrap64 ((ji15) * 65536)) (ji12))))) * 65536)) + (wrap64 ((wrap64 (2847 * (wrap64 (Int.tdiv (wrap64 ((ji15) * 65536)) (ji12))))) * (wrap64 (65536 - (wrap64 (Int.tdiv (wrap64 ((ji15) * 65536)) (ji12))))))))) 4294967296)))) = some r := H
          have A18 := Aside0.mk A180
          clear A180
          have HC19 := Aside0.mk H
          clear H
          go_upto_if 47 with (first | ((with_reducible refine gate_callee (f := 45) rfl ?_); refine goesL_ (some 20) rfl rfl Try.func45 (by kernel_rfl) rfl #[.int .i64 t147] rfl (by (try simp only [List.map_toArray, List.map_cons, List.map_nil]); first | done | rfl | (simp only [List.length_drop, List.length_take]; rfl)) ?_; (with_reducible refine (versalref2_abs.calls t147 t148 _ A10.out).mono ?_); rintro e w20 ⟨rfl, hb⟩; refine ⟨_, rfl, ?_⟩; have n0_ := Aside0.mk (below_step (by repeat (first | (with_reducible first | exact HB.out | apply below_alloc | apply pw_below_drewN | apply below_drew1) | exact HB.out)) hb); clear HB; have HB := n0_; clear n0_; (try clear hb); (try clear hb2); (try clear hk); (try clear hi)) | ((with_reducible refine gate_callee (f := 45) rfl ?_); refine goesL_ (some 22) rfl rfl Try.func45 (by kernel_rfl) rfl #[.int .i64 t146] rfl (by (try simp only [List.map_toArray, List.map_cons, List.map_nil]); first | done | rfl | (simp only [List.length_drop, List.length_take]; rfl)) ?_; (with_reducible refine (versalref2_abs.calls t146 t149 _ A11.out).mono ?_); rintro e w21 ⟨rfl, hb⟩; refine ⟨_, rfl, ?_⟩; have n0_ := Aside0.mk (below_step (by repeat (first | (with_reducible first | exact HB.out | apply below_alloc | apply pw_below_drewN | apply below_drew1) | exact HB.out)) hb); clear HB; have HB := n0_; clear n0_; (try clear hb); (try clear hb2); (try clear hk); (try clear hi)) | ((with_reducible refine gate_callee (f := 45) rfl ?_); refine goesL_ (some 25) rfl rfl Try.func45 (by kernel_rfl) rfl #[.int .i64 t147] rfl (by (try simp only [List.map_toArray, List.map_cons, List.map_nil]); first | done | rfl | (simp only [List.length_drop, List.length_take]; rfl)) ?_; (with_reducible refine (versalref2_abs.calls t147 t150 _ A13.out).mono ?_); rintro e w22 ⟨rfl, hb⟩; refine ⟨_, rfl, ?_⟩; have n0_ := Aside0.mk (below_step (by repeat (first | (with_reducible first | exact HB.out | apply below_alloc | apply pw_below_drewN | apply below_drew1) | exact HB.out)) hb); clear HB; have HB := n0_; clear n0_; (try clear hb); (try clear hb2); (try clear hk); (try clear hi)) | ((with_reducible refine gate_callee (f := 45) rfl ?_); refine goesL_ (some 27) rfl rfl Try.func45 (by kernel_rfl) rfl #[.int .i64 t146] rfl (by (try simp only [List.map_toArray, List.map_cons, List.map_nil]); first | done | rfl | (simp only [List.length_drop, List.length_take]; rfl)) ?_; (with_reducible refine (versalref2_abs.calls t146 t151 _ A14.out).mono ?_); rintro e w23 ⟨rfl, hb⟩; refine ⟨_, rfl, ?_⟩; have n0_ := Aside0.mk (below_step (by repeat (first | (with_reducible first | exact HB.out | apply below_alloc | apply pw_below_drewN | apply below_drew1) | exact HB.out)) hb); clear HB; have HB := n0_; clear n0_; (try clear hb); (try clear hb2); (try clear hk); (try clear hi)) | ((with_reducible refine gate_callee (f := 45) rfl ?_); refine goesL_ (some 44) rfl rfl Try.func45 (by kernel_rfl) rfl #[.int .i64 t146] rfl (by (try simp only [List.map_toArray, List.map_cons, List.map_nil]); first | done | rfl | (simp only [List.length_drop, List.length_take]; rfl)) ?_; (with_reducible refine (versalref2_abs.calls t146 t152 _ A17.out).mono ?_); rintro e w24 ⟨rfl, hb⟩; refine ⟨_, rfl, ?_⟩; have n0_ := Aside0.mk (below_step (by repeat (first | (with_reducible first | exact HB.out | apply below_alloc | apply pw_below_drewN | apply below_drew1) | exact HB.out)) hb); clear HB; have HB := n0_; clear n0_; (try clear hb); (try clear hb2); (try clear hk); (try clear hi)) | ((with_reducible refine gate_callee (f := 45) rfl ?_); refine goesL_ (some 46) rfl rfl Try.func45 (by kernel_rfl) rfl #[.int .i64 t147] rfl (by (try simp only [List.map_toArray, List.map_cons, List.map_nil]); first | done | rfl | (simp only [List.length_drop, List.length_take]; rfl)) ?_; (with_reducible refine (versalref2_abs.calls t147 t153 _ A18.out).mono ?_); rintro e w25 ⟨rfl, hb⟩; refine ⟨_, rfl, ?_⟩; have n0_ := Aside0.mk (below_step (by repeat (first | (with_reducible first | exact HB.out | apply below_alloc | apply pw_below_drewN | apply below_drew1) | exact HB.out)) hb); clear HB; have HB := n0_; clear n0_; (try clear hb); (try clear hb2); (try clear hk); (try clear hi)))
          (try simp only [Act.put, List.setIfInBounds_toArray, List.set_cons_zero, List.set_cons_succ])
          go_cut [8] (fun v8 wc => ∃ (kq : Nat) (x8_18 : Int), v8 = .int .i64 x8_18 ∧ Aside0 (versalref2_Atan.j1 kq t146 t147 x8_18 = some r) ∧ Aside0 (kq ≤ kj4) ∧ Aside0 (Below w.heap.size w wc))
          case first =>
            have H := HC19.out
            clear HC19
            by_cases c26 : t152 > t153
            · rw [if_pos c26] at H
              have c26b0 : decide (t153 < t152) = true := decide_eq_true c26
              clear c26
              (first | rw [c26b0] | (simp only [i64_w, i32_w]; rw [c26b0]) | skip)
              have H' := Aside0.mk H
              clear H
              go_wp2
              go_meet
              case rel => exact ⟨_, (wrap64 (16384 - (wrap64 (Int.tdiv (wrap64 ((wrap64 ((wrap64 (8192 * (wrap64 (Int.tdiv (wrap64 ((ji15) * 65536)) (ji12))))) * 65536)) + (wrap64 ((wrap64 (2847 * (wrap64 (Int.tdiv (wrap64 ((ji15) * 65536)) (ji12))))) * (wrap64 (65536 - (wrap64 (Int.tdiv (wrap64 ((ji15) * 65536)) (ji12))))))))) 4294967296)))), (by first | rfl | (simp; done) | (simp only [← hji12, ← hji15] <;> (first | rfl | simp)) | (simp [*]; done)), H', ⟨by have := HJ4.out; first | omega | exact Nat.le_refl _⟩, ⟨by repeat (first | (with_reducible first | exact HB.out | apply below_alloc | apply pw_below_drewN | apply below_drew1) | exact HB.out)⟩⟩
            · rw [if_neg c26] at H
              have c26b0 : decide (t153 < t152) = false := decide_eq_false c26
              clear c26
              (first | rw [c26b0] | (simp only [i64_w, i32_w]; rw [c26b0]) | skip)
              have H' := Aside0.mk H
              clear H
              go_wp2
              go_meet
              case rel => exact ⟨_, (wrap64 (Int.tdiv (wrap64 ((wrap64 ((wrap64 (8192 * (wrap64 (Int.tdiv (wrap64 ((ji15) * 65536)) (ji12))))) * 65536)) + (wrap64 ((wrap64 (2847 * (wrap64 (Int.tdiv (wrap64 ((ji15) * 65536)) (ji12))))) * (wrap64 (65536 - (wrap64 (Int.tdiv (wrap64 ((ji15) * 65536)) (ji12))))))))) 4294967296)), (by first | rfl | (simp; done) | (simp only [← hji12, ← hji15] <;> (first | rfl | simp)) | (simp [*]; done)), H', ⟨by have := HJ4.out; first | omega | exact Nat.le_refl _⟩, ⟨by repeat (first | (with_reducible first | exact HB.out | apply below_alloc | apply pw_below_drewN | apply below_drew1) | exact HB.out)⟩⟩
          case rest =>
            clear HC19
            try clear c1
            try clear c2
            try clear p2
            try clear c4
            try clear p6
            try clear c8
            try clear c8b0
            try clear c8b1
            try clear c9
            try clear c16
            try clear c16b0
            try clear c16b1
            try clear c26
            try clear c26b0
            try clear p2
            obtain ⟨kq, x8_18, rfl, HA, HJ18, HB⟩ := hcut
            cases kq with
            | zero => exact absurd HA.out (by simp [versalref2_Atan.j1])
            | succ kj18 =>
              have H := HA.out
              clear HA
              simp only [versalref2_Atan.j1] at H
              by_cases c27 : t147 < 0
              · rw [if_pos c27] at H
                have c27b0 : decide (t147 < 0) = true := decide_eq_true c27
                clear c27
                by_cases c28 : t146 < 0
                · rw [if_pos c28] at H
                  have c28b0 : decide (t146 < 0) = true := decide_eq_true c28
                  clear c28
                  replace H := Option.bind_eq_some_iff.mp H
                  obtain ⟨t154, A290, H⟩ := H
                  replace H : (some t154) = some r := H
                  have A29 := Aside0.mk A290
                  clear A290
                  obtain rfl := Option.some.inj H
                  go_wp2_with (first | ((with_reducible refine gate_callee (f := 25) rfl ?_); refine goesL_ (some 58) rfl rfl Try.func25 (by kernel_rfl) rfl #[.int .i64 (wrap64 (-(wrap64 (32768 - x8_18))))] rfl (by (try simp only [List.map_toArray, List.map_cons, List.map_nil]); first | done | rfl | (simp only [List.length_drop, List.length_take]; rfl)) ?_; (with_reducible refine (versalref2_Norm.calls (wrap64 (-(wrap64 (32768 - x8_18)))) t154 _ A29.out).mono ?_); rintro e w' ⟨rfl, ⟨nd, rfl⟩⟩; refine ⟨_, rfl, ?_⟩))
                  go_ret
                  exact ⟨by first | rfl | (simp [errW_none, errW_some] <;> rfl) | (simp only [← hji12, ← hji15]; first | rfl | (simp [errW_none, errW_some] <;> rfl)) | (simp [*, errW_none, errW_some] <;> rfl), by repeat (first | (with_reducible first | exact HB.out | apply below_alloc | apply pw_below_drewN | apply below_drew1) | exact HB.out)⟩
                · rw [if_neg c28] at H
                  have c28b0 : decide (t146 < 0) = false := decide_eq_false c28
                  clear c28
                  obtain rfl := Option.some.inj H
                  go_wp2
                  go_ret
                  exact ⟨by first | rfl | (simp [errW_none, errW_some] <;> rfl) | (simp only [← hji12, ← hji15]; first | rfl | (simp [errW_none, errW_some] <;> rfl)) | (simp [*, errW_none, errW_some] <;> rfl), by repeat (first | (with_reducible first | exact HB.out | apply below_alloc | apply pw_below_drewN | apply below_drew1) | exact HB.out)⟩
              · rw [if_neg c27] at H
                have c27b0 : decide (t147 < 0) = false := decide_eq_false c27
                clear c27
                by_cases c30 : t146 < 0
                · rw [if_pos c30] at H
                  have c30b0 : decide (t146 < 0) = true := decide_eq_true c30
                  clear c30
                  replace H := Option.bind_eq_some_iff.mp H
                  obtain ⟨t155, A310, H⟩ := H
                  replace H : (some t155) = some r := H
                  have A31 := Aside0.mk A310
                  clear A310
                  obtain rfl := Option.some.inj H
                  go_wp2_with (first | ((with_reducible refine gate_callee (f := 25) rfl ?_); refine goesL_ (some 58) rfl rfl Try.func25 (by kernel_rfl) rfl #[.int .i64 (wrap64 (-x8_18))] rfl (by (try simp only [List.map_toArray, List.map_cons, List.map_nil]); first | done | rfl | (simp only [List.length_drop, List.length_take]; rfl)) ?_; (with_reducible refine (versalref2_Norm.calls (wrap64 (-x8_18)) t155 _ A31.out).mono ?_); rintro e w' ⟨rfl, ⟨nd, rfl⟩⟩; refine ⟨_, rfl, ?_⟩))
                  go_ret
                  exact ⟨by first | rfl | (simp [errW_none, errW_some] <;> rfl) | (simp only [← hji12, ← hji15]; first | rfl | (simp [errW_none, errW_some] <;> rfl)) | (simp [*, errW_none, errW_some] <;> rfl), by repeat (first | (with_reducible first | exact HB.out | apply below_alloc | apply pw_below_drewN | apply below_drew1) | exact HB.out)⟩
                · rw [if_neg c30] at H
                  have c30b0 : decide (t146 < 0) = false := decide_eq_false c30
                  clear c30
                  obtain rfl := Option.some.inj H
                  go_wp2
                  go_ret
                  exact ⟨by first | rfl | (simp [errW_none, errW_some] <;> rfl) | (simp only [← hji12, ← hji15]; first | rfl | (simp [errW_none, errW_some] <;> rfl)) | (simp [*, errW_none, errW_some] <;> rfl), by repeat (first | (with_reducible first | exact HB.out | apply below_alloc | apply pw_below_drewN | apply below_drew1) | exact HB.out)⟩

/-! ### versallaw4_AngleTells: function 9 -/
def versallaw4_AngleTells.j0 : Nat → Int → Int → Int → Option (Bool)
  | 0, _, _, _ => none
  | k + 1, x0, x1, x2 => (versallaw4_known.f k).bind fun t158 => (if t158 = true then ((angle_Norm.f x0).bind fun t159 => ((versalref2_Norm.f x0).bind fun t160 => (if t159 = t160 then ((angle_Sin.f k x0).bind fun t161 => ((versalref2_Sin.f k x0).bind fun t162 => (if t161 = t162 then ((angle_Cos.f k x0).bind fun t163 => ((versalref2_Cos.f k x0).bind fun t164 => (if t163 = t164 then ((angle_Tan.f k x0).bind fun t165 => ((versalref2_Tan.f k x0).bind fun t166 => (if t165 = t166 then ((angle_Atan.f k x1 x2).bind fun t167 => ((versalref2_Atan.f k x1 x2).bind fun t168 => (some (t167 == t168)))) else (some false)))) else (some false)))) else (some false)))) else (some false)))) else (some false))
def versallaw4_AngleTells.f (k : Nat) (a0 : Int) (a1 : Int) (a2 : Int) (a3 : Bool) : Option (Bool) := if a3 = true then (versallaw4_AngleTells.j0 k a0 a1 a2) else ((versalhand_Num.f a1).bind fun t156 => ((versalhand_Num.f a2).bind fun t157 => (versallaw4_AngleTells.j0 k a0 t156 t157)))
theorem versallaw4_AngleTells.mono_l : ∀ k, (∀ y0 y1 y2, LeO (versallaw4_AngleTells.j0 k y0 y1 y2) (versallaw4_AngleTells.j0 (k + 1) y0 y1 y2))
  | 0 => fun _ _ _ r h => by simp [versallaw4_AngleTells.j0] at h
  | k + 1 => by
    have ih0 := versallaw4_AngleTells.mono_l k
    · intro y0 y1 y2
      unfold versallaw4_AngleTells.j0
      repeat' first
      | (with_reducible exact ih0 _ _ _)
      | (with_reducible exact angle_Atan.mono _ _ _)
      | (with_reducible exact angle_Cos.mono _ _)
      | (with_reducible exact angle_Sin.mono _ _)
      | (with_reducible exact angle_Tan.mono _ _)
      | (with_reducible exact versallaw4_known.mono _)
      | (with_reducible exact versalref2_Atan.mono _ _ _)
      | (with_reducible exact versalref2_Cos.mono _ _)
      | (with_reducible exact versalref2_Sin.mono _ _)
      | (with_reducible exact versalref2_Tan.mono _ _)
      | (with_reducible exact LeO.refl _)
      | (with_reducible exact LeO.none _)
      | (with_reducible refine LeO.ite ?_ ?_)
      | (with_reducible refine LeO.bind ?_ (fun _ => ?_))
      | exact ih0 _ _ _
      | exact angle_Atan.mono _ _ _
      | exact angle_Cos.mono _ _
      | exact angle_Sin.mono _ _
      | exact angle_Tan.mono _ _
      | exact versallaw4_known.mono _
      | exact versalref2_Atan.mono _ _ _
      | exact versalref2_Cos.mono _ _
      | exact versalref2_Sin.mono _ _
      | exact versalref2_Tan.mono _ _
      | exact LeO.none _
      | refine LeO.ite ?_ ?_
      | refine LeO.bind ?_ (fun _ => ?_)
theorem versallaw4_AngleTells.mono : ∀ a0 a1 a2 a3 k, LeO (versallaw4_AngleTells.f k a0 a1 a2 a3) (versallaw4_AngleTells.f (k + 1) a0 a1 a2 a3) := by
  intro a0 a1 a2 a3 k
  have ih0 := versallaw4_AngleTells.mono_l k
  unfold versallaw4_AngleTells.f
  repeat' first
      | (with_reducible exact ih0 _ _ _)
      | (with_reducible exact angle_Atan.mono _ _ _)
      | (with_reducible exact angle_Cos.mono _ _)
      | (with_reducible exact angle_Sin.mono _ _)
      | (with_reducible exact angle_Tan.mono _ _)
      | (with_reducible exact versallaw4_known.mono _)
      | (with_reducible exact versalref2_Atan.mono _ _ _)
      | (with_reducible exact versalref2_Cos.mono _ _)
      | (with_reducible exact versalref2_Sin.mono _ _)
      | (with_reducible exact versalref2_Tan.mono _ _)
      | (with_reducible exact LeO.refl _)
      | (with_reducible exact LeO.none _)
      | (with_reducible refine LeO.ite ?_ ?_)
      | (with_reducible refine LeO.bind ?_ (fun _ => ?_))
      | exact ih0 _ _ _
      | exact angle_Atan.mono _ _ _
      | exact angle_Cos.mono _ _
      | exact angle_Sin.mono _ _
      | exact angle_Tan.mono _ _
      | exact versallaw4_known.mono _
      | exact versalref2_Atan.mono _ _ _
      | exact versalref2_Cos.mono _ _
      | exact versalref2_Sin.mono _ _
      | exact versalref2_Tan.mono _ _
      | exact LeO.none _
      | refine LeO.ite ?_ ?_
      | refine LeO.bind ?_ (fun _ => ?_)
set_option maxHeartbeats 8000000 in
set_option maxRecDepth 100000 in
theorem versallaw4_AngleTells.calls (k : Nat) (a0 : Int) (a1 : Int) (a2 : Int) (a3 : Bool) (r : Bool) (w : World) (h : versallaw4_AngleTells.f k a0 a1 a2 a3 = some r) :
    Calls Try.prog 9 #[.int .i64 a0, .int .i64 a1, .int .i64 a2, .bool a3] w fun e w' => e = .returned (.bool r) ∧ Below w.heap.size w w' := by
  have HB := Aside0.mk (Below.refl w.heap.size w)
  have H : (if a3 = true then (versallaw4_AngleTells.j0 k a0 a1 a2) else ((versalhand_Num.f a1).bind fun t156 => ((versalhand_Num.f a2).bind fun t157 => (versallaw4_AngleTells.j0 k a0 t156 t157)))) = some r := h
  clear h
  have HC5 := Aside0.mk H
  clear H
  go_enter Try.func9, Try.ntmps9
  go_upto_if 10 with (fail)
  go_cut [1, 2] (fun v1 v2 wc => ∃ (kq : Nat) (x1_4 : Int) (x2_4 : Int), v1 = .int .i64 x1_4 ∧ v2 = .int .i64 x2_4 ∧ Aside0 (versallaw4_AngleTells.j0 kq a0 x1_4 x2_4 = some r) ∧ Aside0 (kq ≤ k) ∧ Aside0 (Below w.heap.size w wc))
  case first =>
    have H := HC5.out
    clear HC5
    by_cases c6 : a3 = true
    · subst c6
      have H1 : (versallaw4_AngleTells.j0 k a0 a1 a2) = some r := by rw [if_pos rfl] at H; exact H
      clear H
      have H := H1
      clear H1
      have H' := Aside0.mk H
      clear H
      go_wp2
      go_meet
      case rel => exact ⟨_, (a1), (a2), (by first | rfl | (simp; done) | (simp [*]; done)), (by first | rfl | (simp; done) | (simp [*]; done)), H', ⟨by first | omega | exact Nat.le_refl _⟩, ⟨by repeat (first | (with_reducible first | exact HB.out | apply below_alloc | apply pw_below_drewN | apply below_drew1) | exact HB.out)⟩⟩
    · replace c6 := Bool.eq_false_iff.mpr c6
      subst c6
      have H1 : ((versalhand_Num.f a1).bind fun t156 => ((versalhand_Num.f a2).bind fun t157 => (versallaw4_AngleTells.j0 k a0 t156 t157))) = some r := by rw [if_neg (show ¬ (false = true) by decide)] at H; exact H
      clear H
      have H := H1
      clear H1
      replace H := Option.bind_eq_some_iff.mp H
      obtain ⟨t156, A70, H⟩ := H
      replace H : ((versalhand_Num.f a2).bind fun t157 => (versallaw4_AngleTells.j0 k a0 t156 t157)) = some r := H
      have A7 := Aside0.mk A70
      clear A70
      replace H := Option.bind_eq_some_iff.mp H
      obtain ⟨t157, A80, H⟩ := H
      replace H : (versallaw4_AngleTells.j0 k a0 t156 t157) = some r := H
      have A8 := Aside0.mk A80
      clear A80
      have H' := Aside0.mk H
      clear H
      go_wp2_with (first | ((with_reducible refine gate_callee (f := 18) rfl ?_); refine goesL_ (some 12) rfl rfl Try.func18 (by kernel_rfl) rfl #[.int .i64 a1] rfl (by (try simp only [List.map_toArray, List.map_cons, List.map_nil]); first | done | rfl | (simp only [List.length_drop, List.length_take]; rfl)) ?_; (with_reducible refine (versalhand_Num.calls a1 t156 _ A7.out).mono ?_); rintro e w' ⟨rfl, ⟨nd, rfl⟩⟩; refine ⟨_, rfl, ?_⟩) | ((with_reducible refine gate_callee (f := 18) rfl ?_); refine goesL_ (some 14) rfl rfl Try.func18 (by kernel_rfl) rfl #[.int .i64 a2] rfl (by (try simp only [List.map_toArray, List.map_cons, List.map_nil]); first | done | rfl | (simp only [List.length_drop, List.length_take]; rfl)) ?_; (with_reducible refine (versalhand_Num.calls a2 t157 _ A8.out).mono ?_); rintro e w' ⟨rfl, ⟨nd, rfl⟩⟩; refine ⟨_, rfl, ?_⟩))
      go_meet
      case rel => exact ⟨_, (t156), (t157), (by first | rfl | (simp; done) | (simp [*]; done)), (by first | rfl | (simp; done) | (simp [*]; done)), H', ⟨by first | omega | exact Nat.le_refl _⟩, ⟨by repeat (first | (with_reducible first | exact HB.out | apply below_alloc | apply pw_below_drewN | apply below_drew1) | exact HB.out)⟩⟩
  case rest =>
    clear HC5
    try clear c1
    try clear p2
    try clear c6
    obtain ⟨kq, x1_4, x2_4, rfl, rfl, HA, HJ4, HB⟩ := hcut
    cases kq with
    | zero => exact absurd HA.out (by simp [versallaw4_AngleTells.j0])
    | succ kj4 =>
      have H := HA.out
      clear HA
      simp only [versallaw4_AngleTells.j0] at H
      replace H := Option.bind_eq_some_iff.mp H
      obtain ⟨t158, A90, H⟩ := H
      replace H : (if t158 = true then ((angle_Norm.f a0).bind fun t159 => ((versalref2_Norm.f a0).bind fun t160 => (if t159 = t160 then ((angle_Sin.f kj4 a0).bind fun t161 => ((versalref2_Sin.f kj4 a0).bind fun t162 => (if t161 = t162 then ((angle_Cos.f kj4 a0).bind fun t163 => ((versalref2_Cos.f kj4 a0).bind fun t164 => (if t163 = t164 then ((angle_Tan.f kj4 a0).bind fun t165 => ((versalref2_Tan.f kj4 a0).bind fun t166 => (if t165 = t166 then ((angle_Atan.f kj4 x1_4 x2_4).bind fun t167 => ((versalref2_Atan.f kj4 x1_4 x2_4).bind fun t168 => (some (t167 == t168)))) else (some false)))) else (some false)))) else (some false)))) else (some false)))) else (some false)) = some r := H
      have A9 := Aside0.mk A90
      clear A90
      by_cases c10 : t158 = true
      · subst c10
        have H1 : ((angle_Norm.f a0).bind fun t159 => ((versalref2_Norm.f a0).bind fun t160 => (if t159 = t160 then ((angle_Sin.f kj4 a0).bind fun t161 => ((versalref2_Sin.f kj4 a0).bind fun t162 => (if t161 = t162 then ((angle_Cos.f kj4 a0).bind fun t163 => ((versalref2_Cos.f kj4 a0).bind fun t164 => (if t163 = t164 then ((angle_Tan.f kj4 a0).bind fun t165 => ((versalref2_Tan.f kj4 a0).bind fun t166 => (if t165 = t166 then ((angle_Atan.f kj4 x1_4 x2_4).bind fun t167 => ((versalref2_Atan.f kj4 x1_4 x2_4).bind fun t168 => (some (t167 == t168)))) else (some false)))) else (some false)))) else (some false)))) else (some false)))) = some r := by rw [if_pos rfl] at H; exact H
        clear H
        have H := H1
        clear H1
        replace H := Option.bind_eq_some_iff.mp H
        obtain ⟨t159, A110, H⟩ := H
        replace H : ((versalref2_Norm.f a0).bind fun t160 => (if t159 = t160 then ((angle_Sin.f kj4 a0).bind fun t161 => ((versalref2_Sin.f kj4 a0).bind fun t162 => (if t161 = t162 then ((angle_Cos.f kj4 a0).bind fun t163 => ((versalref2_Cos.f kj4 a0).bind fun t164 => (if t163 = t164 then ((angle_Tan.f kj4 a0).bind fun t165 => ((versalref2_Tan.f kj4 a0).bind fun t166 => (if t165 = t166 then ((angle_Atan.f kj4 x1_4 x2_4).bind fun t167 => ((versalref2_Atan.f kj4 x1_4 x2_4).bind fun t168 => (some (t167 == t168)))) else (some false)))) else (some false)))) else (some false)))) else (some false))) = some r := H
        have A11 := Aside0.mk A110
        clear A110
        replace H := Option.bind_eq_some_iff.mp H
        obtain ⟨t160, A120, H⟩ := H
        replace H : (if t159 = t160 then ((angle_Sin.f kj4 a0).bind fun t161 => ((versalref2_Sin.f kj4 a0).bind fun t162 => (if t161 = t162 then ((angle_Cos.f kj4 a0).bind fun t163 => ((versalref2_Cos.f kj4 a0).bind fun t164 => (if t163 = t164 then ((angle_Tan.f kj4 a0).bind fun t165 => ((versalref2_Tan.f kj4 a0).bind fun t166 => (if t165 = t166 then ((angle_Atan.f kj4 x1_4 x2_4).bind fun t167 => ((versalref2_Atan.f kj4 x1_4 x2_4).bind fun t168 => (some (t167 == t168)))) else (some false)))) else (some false)))) else (some false)))) else (some false)) = some r := H
        have A12 := Aside0.mk A120
        clear A120
        by_cases c13 : t159 = t160
        · rw [if_pos c13] at H
          have c13b0 : (t159 == t160) = true := beq_iff_eq.mpr c13
          have c13b1 : (t159 != t160) = false := bne_eq_false_iff_eq.mpr c13
          clear c13
          replace H := Option.bind_eq_some_iff.mp H
          obtain ⟨t161, A140, H⟩ := H
          replace H : ((versalref2_Sin.f kj4 a0).bind fun t162 => (if t161 = t162 then ((angle_Cos.f kj4 a0).bind fun t163 => ((versalref2_Cos.f kj4 a0).bind fun t164 => (if t163 = t164 then ((angle_Tan.f kj4 a0).bind fun t165 => ((versalref2_Tan.f kj4 a0).bind fun t166 => (if t165 = t166 then ((angle_Atan.f kj4 x1_4 x2_4).bind fun t167 => ((versalref2_Atan.f kj4 x1_4 x2_4).bind fun t168 => (some (t167 == t168)))) else (some false)))) else (some false)))) else (some false))) = some r := H
          have A14 := Aside0.mk A140
          clear A140
          replace H := Option.bind_eq_some_iff.mp H
          obtain ⟨t162, A150, H⟩ := H
          replace H : (if t161 = t162 then ((angle_Cos.f kj4 a0).bind fun t163 => ((versalref2_Cos.f kj4 a0).bind fun t164 => (if t163 = t164 then ((angle_Tan.f kj4 a0).bind fun t165 => ((versalref2_Tan.f kj4 a0).bind fun t166 => (if t165 = t166 then ((angle_Atan.f kj4 x1_4 x2_4).bind fun t167 => ((versalref2_Atan.f kj4 x1_4 x2_4).bind fun t168 => (some (t167 == t168)))) else (some false)))) else (some false)))) else (some false)) = some r := H
          have A15 := Aside0.mk A150
          clear A150
          by_cases c16 : t161 = t162
          · rw [if_pos c16] at H
            have c16b0 : (t161 == t162) = true := beq_iff_eq.mpr c16
            have c16b1 : (t161 != t162) = false := bne_eq_false_iff_eq.mpr c16
            clear c16
            replace H := Option.bind_eq_some_iff.mp H
            obtain ⟨t163, A170, H⟩ := H
            replace H : ((versalref2_Cos.f kj4 a0).bind fun t164 => (if t163 = t164 then ((angle_Tan.f kj4 a0).bind fun t165 => ((versalref2_Tan.f kj4 a0).bind fun t166 => (if t165 = t166 then ((angle_Atan.f kj4 x1_4 x2_4).bind fun t167 => ((versalref2_Atan.f kj4 x1_4 x2_4).bind fun t168 => (some (t167 == t168)))) else (some false)))) else (some false))) = some r := H
            have A17 := Aside0.mk A170
            clear A170
            replace H := Option.bind_eq_some_iff.mp H
            obtain ⟨t164, A180, H⟩ := H
            replace H : (if t163 = t164 then ((angle_Tan.f kj4 a0).bind fun t165 => ((versalref2_Tan.f kj4 a0).bind fun t166 => (if t165 = t166 then ((angle_Atan.f kj4 x1_4 x2_4).bind fun t167 => ((versalref2_Atan.f kj4 x1_4 x2_4).bind fun t168 => (some (t167 == t168)))) else (some false)))) else (some false)) = some r := H
            have A18 := Aside0.mk A180
            clear A180
            by_cases c19 : t163 = t164
            · rw [if_pos c19] at H
              have c19b0 : (t163 == t164) = true := beq_iff_eq.mpr c19
              have c19b1 : (t163 != t164) = false := bne_eq_false_iff_eq.mpr c19
              clear c19
              replace H := Option.bind_eq_some_iff.mp H
              obtain ⟨t165, A200, H⟩ := H
              replace H : ((versalref2_Tan.f kj4 a0).bind fun t166 => (if t165 = t166 then ((angle_Atan.f kj4 x1_4 x2_4).bind fun t167 => ((versalref2_Atan.f kj4 x1_4 x2_4).bind fun t168 => (some (t167 == t168)))) else (some false))) = some r := H
              have A20 := Aside0.mk A200
              clear A200
              replace H := Option.bind_eq_some_iff.mp H
              obtain ⟨t166, A210, H⟩ := H
              replace H : (if t165 = t166 then ((angle_Atan.f kj4 x1_4 x2_4).bind fun t167 => ((versalref2_Atan.f kj4 x1_4 x2_4).bind fun t168 => (some (t167 == t168)))) else (some false)) = some r := H
              have A21 := Aside0.mk A210
              clear A210
              by_cases c22 : t165 = t166
              · rw [if_pos c22] at H
                have c22b0 : (t165 == t166) = true := beq_iff_eq.mpr c22
                have c22b1 : (t165 != t166) = false := bne_eq_false_iff_eq.mpr c22
                clear c22
                replace H := Option.bind_eq_some_iff.mp H
                obtain ⟨t167, A230, H⟩ := H
                replace H : ((versalref2_Atan.f kj4 x1_4 x2_4).bind fun t168 => (some (t167 == t168))) = some r := H
                have A23 := Aside0.mk A230
                clear A230
                replace H := Option.bind_eq_some_iff.mp H
                obtain ⟨t168, A240, H⟩ := H
                replace H : (some (t167 == t168)) = some r := H
                have A24 := Aside0.mk A240
                clear A240
                obtain rfl := Option.some.inj H
                go_wp2_with (first | ((with_reducible refine gate_callee (f := 16) rfl ?_); refine goesL_ (some 15) rfl rfl Try.func16 (by kernel_rfl) rfl #[] rfl (by (try simp only [List.map_toArray, List.map_cons, List.map_nil]); first | done | rfl | (simp only [List.length_drop, List.length_take]; rfl)) ?_; (with_reducible refine (versallaw4_known.calls kj4  true _ A9.out).mono ?_); rintro e w25 ⟨rfl, hb⟩; refine ⟨_, rfl, ?_⟩; have n0_ := Aside0.mk (below_step (by repeat (first | (with_reducible first | exact HB.out | apply below_alloc | apply pw_below_drewN | apply below_drew1) | exact HB.out)) hb); clear HB; have HB := n0_; clear n0_; (try clear hb); (try clear hb2); (try clear hk); (try clear hi)) | (go_at_call 15; (with_reducible refine (angle_Norm.calls a0 t159 _ A11.out).mono ?_); rintro e w' ⟨rfl, ⟨nd, rfl⟩⟩) | (go_at_call 25; (with_reducible refine (versalref2_Norm.calls a0 t160 _ A12.out).mono ?_); rintro e w' ⟨rfl, ⟨nd, rfl⟩⟩) | (go_at_call 14; (with_reducible refine (angle_Sin.calls kj4 a0 t161 _ A14.out).mono ?_); rintro e w' ⟨rfl, ⟨nd, rfl⟩⟩) | (go_at_call 26; (with_reducible refine (versalref2_Sin.calls kj4 a0 t162 _ A15.out).mono ?_); rintro e w' ⟨rfl, ⟨nd, rfl⟩⟩) | (go_at_call 17; (with_reducible refine (angle_Cos.calls kj4 a0 t163 _ A17.out).mono ?_); rintro e w' ⟨rfl, ⟨nd, rfl⟩⟩) | (go_at_call 27; (with_reducible refine (versalref2_Cos.calls kj4 a0 t164 _ A18.out).mono ?_); rintro e w' ⟨rfl, ⟨nd, rfl⟩⟩) | (go_at_call 24; (with_reducible refine (angle_Tan.calls kj4 a0 t165 _ A20.out).mono ?_); rintro e w26 ⟨rfl, hb⟩; have n0_ := Aside0.mk (below_step (by repeat (first | (with_reducible first | exact HB.out | apply below_alloc | apply pw_below_drewN | apply below_drew1) | exact HB.out)) hb); clear HB; have HB := n0_; clear n0_; (try clear hb); (try clear hb2); (try clear hk); (try clear hi)) | (go_at_call 28; (with_reducible refine (versalref2_Tan.calls kj4 a0 t166 _ A21.out).mono ?_); rintro e w27 ⟨rfl, hb⟩; have n0_ := Aside0.mk (below_step (by repeat (first | (with_reducible first | exact HB.out | apply below_alloc | apply pw_below_drewN | apply below_drew1) | exact HB.out)) hb); clear HB; have HB := n0_; clear n0_; (try clear hb); (try clear hb2); (try clear hk); (try clear hi)) | (go_at_call 19; (with_reducible refine (angle_Atan.calls kj4 x1_4 x2_4 t167 _ A23.out).mono ?_); rintro e w28 ⟨rfl, hb⟩; have n0_ := Aside0.mk (below_step (by repeat (first | (with_reducible first | exact HB.out | apply below_alloc | apply pw_below_drewN | apply below_drew1) | exact HB.out)) hb); clear HB; have HB := n0_; clear n0_; (try clear hb); (try clear hb2); (try clear hk); (try clear hi)) | (go_at_call 29; (with_reducible refine (versalref2_Atan.calls kj4 x1_4 x2_4 t168 _ A24.out).mono ?_); rintro e w29 ⟨rfl, hb⟩; have n0_ := Aside0.mk (below_step (by repeat (first | (with_reducible first | exact HB.out | apply below_alloc | apply pw_below_drewN | apply below_drew1) | exact HB.out)) hb); clear HB; have HB := n0_; clear n0_; (try clear hb); (try clear hb2); (try clear hk); (try clear hi)))
                go_ret
                exact ⟨by first | rfl | (simp [errW_none, errW_some] <;> rfl) | (simp [*, errW_none, errW_some] <;> rfl), by repeat (first | (with_reducible first | exact HB.out | apply below_alloc | apply pw_below_drewN | apply below_drew1) | exact HB.out)⟩
              · rw [if_neg c22] at H
                have c22b0 : (t165 == t166) = false := beq_eq_false_iff_ne.mpr c22
                have c22b1 : (t165 != t166) = true := bne_iff_ne.mpr c22
                obtain rfl := Option.some.inj H
                go_wp2_with (first | ((with_reducible refine gate_callee (f := 16) rfl ?_); refine goesL_ (some 15) rfl rfl Try.func16 (by kernel_rfl) rfl #[] rfl (by (try simp only [List.map_toArray, List.map_cons, List.map_nil]); first | done | rfl | (simp only [List.length_drop, List.length_take]; rfl)) ?_; (with_reducible refine (versallaw4_known.calls kj4  true _ A9.out).mono ?_); rintro e w30 ⟨rfl, hb⟩; refine ⟨_, rfl, ?_⟩; have n0_ := Aside0.mk (below_step (by repeat (first | (with_reducible first | exact HB.out | apply below_alloc | apply pw_below_drewN | apply below_drew1) | exact HB.out)) hb); clear HB; have HB := n0_; clear n0_; (try clear hb); (try clear hb2); (try clear hk); (try clear hi)) | (go_at_call 15; (with_reducible refine (angle_Norm.calls a0 t159 _ A11.out).mono ?_); rintro e w' ⟨rfl, ⟨nd, rfl⟩⟩) | (go_at_call 25; (with_reducible refine (versalref2_Norm.calls a0 t160 _ A12.out).mono ?_); rintro e w' ⟨rfl, ⟨nd, rfl⟩⟩) | (go_at_call 14; (with_reducible refine (angle_Sin.calls kj4 a0 t161 _ A14.out).mono ?_); rintro e w' ⟨rfl, ⟨nd, rfl⟩⟩) | (go_at_call 26; (with_reducible refine (versalref2_Sin.calls kj4 a0 t162 _ A15.out).mono ?_); rintro e w' ⟨rfl, ⟨nd, rfl⟩⟩) | (go_at_call 17; (with_reducible refine (angle_Cos.calls kj4 a0 t163 _ A17.out).mono ?_); rintro e w' ⟨rfl, ⟨nd, rfl⟩⟩) | (go_at_call 27; (with_reducible refine (versalref2_Cos.calls kj4 a0 t164 _ A18.out).mono ?_); rintro e w' ⟨rfl, ⟨nd, rfl⟩⟩) | (go_at_call 24; (with_reducible refine (angle_Tan.calls kj4 a0 t165 _ A20.out).mono ?_); rintro e w31 ⟨rfl, hb⟩; have n0_ := Aside0.mk (below_step (by repeat (first | (with_reducible first | exact HB.out | apply below_alloc | apply pw_below_drewN | apply below_drew1) | exact HB.out)) hb); clear HB; have HB := n0_; clear n0_; (try clear hb); (try clear hb2); (try clear hk); (try clear hi)) | (go_at_call 28; (with_reducible refine (versalref2_Tan.calls kj4 a0 t166 _ A21.out).mono ?_); rintro e w32 ⟨rfl, hb⟩; have n0_ := Aside0.mk (below_step (by repeat (first | (with_reducible first | exact HB.out | apply below_alloc | apply pw_below_drewN | apply below_drew1) | exact HB.out)) hb); clear HB; have HB := n0_; clear n0_; (try clear hb); (try clear hb2); (try clear hk); (try clear hi)))
                go_ret
                exact ⟨by first | rfl | (simp [errW_none, errW_some] <;> rfl) | (simp [*, errW_none, errW_some] <;> rfl), by repeat (first | (with_reducible first | exact HB.out | apply below_alloc | apply pw_below_drewN | apply below_drew1) | exact HB.out)⟩
            · rw [if_neg c19] at H
              have c19b0 : (t163 == t164) = false := beq_eq_false_iff_ne.mpr c19
              have c19b1 : (t163 != t164) = true := bne_iff_ne.mpr c19
              obtain rfl := Option.some.inj H
              go_wp2_with (first | ((with_reducible refine gate_callee (f := 16) rfl ?_); refine goesL_ (some 15) rfl rfl Try.func16 (by kernel_rfl) rfl #[] rfl (by (try simp only [List.map_toArray, List.map_cons, List.map_nil]); first | done | rfl | (simp only [List.length_drop, List.length_take]; rfl)) ?_; (with_reducible refine (versallaw4_known.calls kj4  true _ A9.out).mono ?_); rintro e w33 ⟨rfl, hb⟩; refine ⟨_, rfl, ?_⟩; have n0_ := Aside0.mk (below_step (by repeat (first | (with_reducible first | exact HB.out | apply below_alloc | apply pw_below_drewN | apply below_drew1) | exact HB.out)) hb); clear HB; have HB := n0_; clear n0_; (try clear hb); (try clear hb2); (try clear hk); (try clear hi)) | (go_at_call 15; (with_reducible refine (angle_Norm.calls a0 t159 _ A11.out).mono ?_); rintro e w' ⟨rfl, ⟨nd, rfl⟩⟩) | (go_at_call 25; (with_reducible refine (versalref2_Norm.calls a0 t160 _ A12.out).mono ?_); rintro e w' ⟨rfl, ⟨nd, rfl⟩⟩) | (go_at_call 14; (with_reducible refine (angle_Sin.calls kj4 a0 t161 _ A14.out).mono ?_); rintro e w' ⟨rfl, ⟨nd, rfl⟩⟩) | (go_at_call 26; (with_reducible refine (versalref2_Sin.calls kj4 a0 t162 _ A15.out).mono ?_); rintro e w' ⟨rfl, ⟨nd, rfl⟩⟩) | (go_at_call 17; (with_reducible refine (angle_Cos.calls kj4 a0 t163 _ A17.out).mono ?_); rintro e w' ⟨rfl, ⟨nd, rfl⟩⟩) | (go_at_call 27; (with_reducible refine (versalref2_Cos.calls kj4 a0 t164 _ A18.out).mono ?_); rintro e w' ⟨rfl, ⟨nd, rfl⟩⟩))
              go_ret
              exact ⟨by first | rfl | (simp [errW_none, errW_some] <;> rfl) | (simp [*, errW_none, errW_some] <;> rfl), by repeat (first | (with_reducible first | exact HB.out | apply below_alloc | apply pw_below_drewN | apply below_drew1) | exact HB.out)⟩
          · rw [if_neg c16] at H
            have c16b0 : (t161 == t162) = false := beq_eq_false_iff_ne.mpr c16
            have c16b1 : (t161 != t162) = true := bne_iff_ne.mpr c16
            obtain rfl := Option.some.inj H
            go_wp2_with (first | ((with_reducible refine gate_callee (f := 16) rfl ?_); refine goesL_ (some 15) rfl rfl Try.func16 (by kernel_rfl) rfl #[] rfl (by (try simp only [List.map_toArray, List.map_cons, List.map_nil]); first | done | rfl | (simp only [List.length_drop, List.length_take]; rfl)) ?_; (with_reducible refine (versallaw4_known.calls kj4  true _ A9.out).mono ?_); rintro e w34 ⟨rfl, hb⟩; refine ⟨_, rfl, ?_⟩; have n0_ := Aside0.mk (below_step (by repeat (first | (with_reducible first | exact HB.out | apply below_alloc | apply pw_below_drewN | apply below_drew1) | exact HB.out)) hb); clear HB; have HB := n0_; clear n0_; (try clear hb); (try clear hb2); (try clear hk); (try clear hi)) | (go_at_call 15; (with_reducible refine (angle_Norm.calls a0 t159 _ A11.out).mono ?_); rintro e w' ⟨rfl, ⟨nd, rfl⟩⟩) | (go_at_call 25; (with_reducible refine (versalref2_Norm.calls a0 t160 _ A12.out).mono ?_); rintro e w' ⟨rfl, ⟨nd, rfl⟩⟩) | (go_at_call 14; (with_reducible refine (angle_Sin.calls kj4 a0 t161 _ A14.out).mono ?_); rintro e w' ⟨rfl, ⟨nd, rfl⟩⟩) | (go_at_call 26; (with_reducible refine (versalref2_Sin.calls kj4 a0 t162 _ A15.out).mono ?_); rintro e w' ⟨rfl, ⟨nd, rfl⟩⟩))
            go_ret
            exact ⟨by first | rfl | (simp [errW_none, errW_some] <;> rfl) | (simp [*, errW_none, errW_some] <;> rfl), by repeat (first | (with_reducible first | exact HB.out | apply below_alloc | apply pw_below_drewN | apply below_drew1) | exact HB.out)⟩
        · rw [if_neg c13] at H
          have c13b0 : (t159 == t160) = false := beq_eq_false_iff_ne.mpr c13
          have c13b1 : (t159 != t160) = true := bne_iff_ne.mpr c13
          obtain rfl := Option.some.inj H
          go_wp2_with (first | ((with_reducible refine gate_callee (f := 16) rfl ?_); refine goesL_ (some 15) rfl rfl Try.func16 (by kernel_rfl) rfl #[] rfl (by (try simp only [List.map_toArray, List.map_cons, List.map_nil]); first | done | rfl | (simp only [List.length_drop, List.length_take]; rfl)) ?_; (with_reducible refine (versallaw4_known.calls kj4  true _ A9.out).mono ?_); rintro e w35 ⟨rfl, hb⟩; refine ⟨_, rfl, ?_⟩; have n0_ := Aside0.mk (below_step (by repeat (first | (with_reducible first | exact HB.out | apply below_alloc | apply pw_below_drewN | apply below_drew1) | exact HB.out)) hb); clear HB; have HB := n0_; clear n0_; (try clear hb); (try clear hb2); (try clear hk); (try clear hi)) | (go_at_call 15; (with_reducible refine (angle_Norm.calls a0 t159 _ A11.out).mono ?_); rintro e w' ⟨rfl, ⟨nd, rfl⟩⟩) | (go_at_call 25; (with_reducible refine (versalref2_Norm.calls a0 t160 _ A12.out).mono ?_); rintro e w' ⟨rfl, ⟨nd, rfl⟩⟩))
          go_ret
          exact ⟨by first | rfl | (simp [errW_none, errW_some] <;> rfl) | (simp [*, errW_none, errW_some] <;> rfl), by repeat (first | (with_reducible first | exact HB.out | apply below_alloc | apply pw_below_drewN | apply below_drew1) | exact HB.out)⟩
      · replace c10 := Bool.eq_false_iff.mpr c10
        subst c10
        have H1 : (some false) = some r := by rw [if_neg (show ¬ (false = true) by decide)] at H; exact H
        clear H
        have H := H1
        clear H1
        obtain rfl := Option.some.inj H
        go_wp2_with (first | ((with_reducible refine gate_callee (f := 16) rfl ?_); refine goesL_ (some 15) rfl rfl Try.func16 (by kernel_rfl) rfl #[] rfl (by (try simp only [List.map_toArray, List.map_cons, List.map_nil]); first | done | rfl | (simp only [List.length_drop, List.length_take]; rfl)) ?_; (with_reducible refine (versallaw4_known.calls kj4  false _ A9.out).mono ?_); rintro e w36 ⟨rfl, hb⟩; refine ⟨_, rfl, ?_⟩; have n0_ := Aside0.mk (below_step (by repeat (first | (with_reducible first | exact HB.out | apply below_alloc | apply pw_below_drewN | apply below_drew1) | exact HB.out)) hb); clear HB; have HB := n0_; clear n0_; (try clear hb); (try clear hb2); (try clear hk); (try clear hi)))
        go_ret
        exact ⟨by first | rfl | (simp [errW_none, errW_some] <;> rfl) | (simp [*, errW_none, errW_some] <;> rfl), by repeat (first | (with_reducible first | exact HB.out | apply below_alloc | apply pw_below_drewN | apply below_drew1) | exact HB.out)⟩

/-- THE ONE PURE STATEMENT of versallaw4_AngleTells: yours. -/
def versallaw4_AngleTells.Pure : Prop := ∀ (a0 : Int) (a1 : Int) (a2 : Int) (a3 : Bool), (Lit.int .i64 a0).wf = true → (Lit.int .i64 a1).wf = true → (Lit.int .i64 a2).wf = true → ∃ k, versallaw4_AngleTells.f k a0 a1 a2 a3 = some true
theorem versallaw4_AngleTells.walk (P : versallaw4_AngleTells.Pure) (a0 : Int) (a1 : Int) (a2 : Int) (a3 : Bool) (w : World) (w0 : (Lit.int .i64 a0).wf = true) (w1 : (Lit.int .i64 a1).wf = true) (w2 : (Lit.int .i64 a2).wf = true) :
    Calls Try.prog 9 #[.int .i64 a0, .int .i64 a1, .int .i64 a2, .bool a3] w fun e w' => e = .returned (.bool true) ∧ Below w.heap.size w w' := by
  obtain ⟨k, h⟩ := P a0 a1 a2 a3 w0 w1 w2
  refine (versallaw4_AngleTells.calls k a0 a1 a2 a3 true w h).mono ?_
  rintro e w' ⟨rfl, hd⟩
  exact ⟨rfl, hd⟩

end Go.Proofs.Ytaohkdieigbccaa.PAngleTells
