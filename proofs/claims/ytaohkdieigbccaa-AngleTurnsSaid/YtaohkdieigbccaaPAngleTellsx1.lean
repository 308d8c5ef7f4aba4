-- PRINTED BY print.sh 35421559b90ae4d0a3588c463048766b98c2df88dd9212a6774a882060cdf62d: not written by this session
import Derived.Test.YtaohkdieigbccaaPAngleTellsx0
namespace Go.Proofs.Ytaohkdieigbccaa.PAngleTells
open Go.RowKit Go.Proofs.YtaohkdieigbccaaW.PrintWords Go.Proofs.YtaohkdieigbccaaW.PrintLast Go.Proofs.YtaohkdieigbccaaW.PrintMore
attribute [local go_sem] max2_int min2_int max_two min_two max_three min_three max_four min_four   -- for this text's walks alone
set_option linter.unusedVariables false
set_option linter.unusedSimpArgs false

/-! ### angle_Norm: function 15 -/
def angle_Norm.f (a0 : Int) : Option (Int) := some (Int.tmod (wrap64 ((Int.tmod a0 65536) + 65536)) 65536)
set_option maxHeartbeats 8000000 in
set_option maxRecDepth 100000 in
theorem angle_Norm.calls (a0 : Int) (r : Int) (w : World) (h : angle_Norm.f a0 = some r) :
    Calls Try.prog 15 #[.int .i64 a0] w fun e w' => e = .returned (.int .i64 r) ∧ Drawn0 w w' := by
  have H : (some (Int.tmod (wrap64 ((Int.tmod a0 65536) + 65536)) 65536)) = some r := h
  clear h
  obtain rfl := Option.some.inj H
  go_enter Try.func15, Try.ntmps15
  go_wp2
  go_ret
  exact ⟨by first | rfl | (simp; done) | (simp [*]; done), by repeat (first | exact Drawn0.refl _ | apply Drawn0.step)⟩

/-! ### angle_Sin: function 14 -/
def angle_Sin.f : Nat → Int → Option (Int)
  | 0, _ => none
  | k + 1, a0 => (angle_Norm.f a0).bind fun t101 => (if t101 ≥ 32768 then ((angle_Sin.f k (wrap64 (t101 - 32768))).bind fun t102 => (some (wrap64 (-t102)))) else (if (wrap64 (5368709120 - (wrap64 (4 * (wrap64 (t101 * (wrap64 (32768 - t101)))))))) = 0 then (none) else (some (wrap64 (Int.tdiv (wrap64 ((wrap64 (16 * (wrap64 (t101 * (wrap64 (32768 - t101)))))) * 65536)) (wrap64 (5368709120 - (wrap64 (4 * (wrap64 (t101 * (wrap64 (32768 - t101)))))))))))))
theorem angle_Sin.mono_l : ∀ k, (∀ y0, LeO (angle_Sin.f k y0) (angle_Sin.f (k + 1) y0))
  | 0 => fun _ r h => by simp [angle_Sin.f] at h
  | k + 1 => by
    have ih0 := angle_Sin.mono_l k
    · intro y0
      unfold angle_Sin.f
      repeat' first
      | (with_reducible exact ih0 _)
      | (with_reducible exact LeO.refl _)
      | (with_reducible exact LeO.none _)
      | (with_reducible refine LeO.ite ?_ ?_)
      | (with_reducible refine LeO.bind ?_ (fun _ => ?_))
      | exact ih0 _
      | exact LeO.none _
      | refine LeO.ite ?_ ?_
      | refine LeO.bind ?_ (fun _ => ?_)
theorem angle_Sin.mono : ∀ a0 k, LeO (angle_Sin.f k a0) (angle_Sin.f (k + 1) a0) := by
  intro a0 k
  have ih0 := angle_Sin.mono_l k
  exact ih0 a0
set_option maxHeartbeats 8000000 in
set_option maxRecDepth 100000 in
theorem angle_Sin.calls (k : Nat) : ∀ (a0 : Int) (r : Int) (w : World) (h : angle_Sin.f k a0 = some r),
    Calls Try.prog 14 #[.int .i64 a0] w fun e w' => e = .returned (.int .i64 r) ∧ Drawn0 w w' := by
  induction k using Nat.strongRecOn with
  | _ k ih =>
  intro a0 r w h
  cases k with
  | zero => exact absurd h (by simp [angle_Sin.f])
  | succ k =>
  simp only [angle_Sin.f] at h
  have H : ((angle_Norm.f a0).bind fun t101 => (if t101 ≥ 32768 then ((angle_Sin.f k (wrap64 (t101 - 32768))).bind fun t102 => (some (wrap64 (-t102)))) else (if (wrap64 (5368709120 - (wrap64 (4 * (wrap64 (t101 * (wrap64 (32768 - t101)))))))) = 0 then (none) else (some (wrap64 (Int.tdiv (wrap64 ((wrap64 (16 * (wrap64 (t101 * (wrap64 (32768 - t101)))))) * 65536)) (wrap64 (5368709120 - (wrap64 (4 * (wrap64 (t101 * (wrap64 (32768 - t101)))))))))))))) = some r := h
  clear h
  replace H := Option.bind_eq_some_iff.mp H
  obtain ⟨t101, A20, H⟩ := H
  replace H : (if t101 ≥ 32768 then ((angle_Sin.f k (wrap64 (t101 - 32768))).bind fun t102 => (some (wrap64 (-t102)))) else (if (wrap64 (5368709120 - (wrap64 (4 * (wrap64 (t101 * (wrap64 (32768 - t101)))))))) = 0 then (none) else (some (wrap64 (Int.tdiv (wrap64 ((wrap64 (16 * (wrap64 (t101 * (wrap64 (32768 - t101)))))) * 65536)) (wrap64 (5368709120 - (wrap64 (4 * (wrap64 (t101 * (wrap64 (32768 - t101))))))))))))) = some r := H
  have A2 := Aside0.mk A20
  clear A20
  by_cases c3 : t101 ≥ 32768
  · rw [if_pos c3] at H
    have c3b0 : decide (32768 ≤ t101) = true := decide_eq_true c3
    clear c3
    replace H := Option.bind_eq_some_iff.mp H
    obtain ⟨t102, A40, H⟩ := H
    replace H : (some (wrap64 (-t102))) = some r := H
    have A4 := Aside0.mk A40
    clear A40
    obtain rfl := Option.some.inj H
    go_enter Try.func14, Try.ntmps14
    go_wp2_with (first | ((with_reducible refine gate_callee (f := 15) rfl ?_); refine goesL_ (some 6) rfl rfl Try.func15 (by kernel_rfl) rfl #[.int .i64 a0] rfl (by (try simp only [List.map_toArray, List.map_cons, List.map_nil]); first | done | rfl | (simp only [List.length_drop, List.length_take]; rfl)) ?_; (with_reducible refine (angle_Norm.calls a0 t101 _ A2.out).mono ?_); rintro e w' ⟨rfl, ⟨nd, rfl⟩⟩; refine ⟨_, rfl, ?_⟩) | ((with_reducible refine gate_callee (f := 14) rfl ?_); refine goesL_ (some 11) rfl rfl Try.func14 (by kernel_rfl) rfl #[.int .i64 (wrap64 (t101 - 32768))] rfl (by (try simp only [List.map_toArray, List.map_cons, List.map_nil]); first | done | rfl | (simp only [List.length_drop, List.length_take]; rfl)) ?_; (with_reducible refine (ih k (by omega) (wrap64 (t101 - 32768)) t102 _ A4.out).mono ?_); rintro e w' ⟨rfl, ⟨nd, rfl⟩⟩; refine ⟨_, rfl, ?_⟩))
    go_ret
    exact ⟨by first | rfl | (simp; done) | (simp [*]; done), by repeat (first | exact Drawn0.refl _ | apply Drawn0.step)⟩
  · rw [if_neg c3] at H
    have c3b0 : decide (32768 ≤ t101) = false := decide_eq_false c3
    clear c3
    by_cases c5 : (wrap64 (5368709120 - (wrap64 (4 * (wrap64 (t101 * (wrap64 (32768 - t101)))))))) = 0
    · rw [if_pos c5] at H
      exact absurd H (by simp)
    · rw [if_neg c5] at H
      have c5b0 : ((wrap64 (5368709120 - (wrap64 (4 * (wrap64 (t101 * (wrap64 (32768 - t101)))))))) == 0) = false := beq_eq_false_iff_ne.mpr c5
      have c5b1 : ((wrap64 (5368709120 - (wrap64 (4 * (wrap64 (t101 * (wrap64 (32768 - t101)))))))) != 0) = true := bne_iff_ne.mpr c5
      obtain rfl := Option.some.inj H
      go_enter Try.func14, Try.ntmps14
      go_wp2_with (first | ((with_reducible refine gate_callee (f := 15) rfl ?_); refine goesL_ (some 6) rfl rfl Try.func15 (by kernel_rfl) rfl #[.int .i64 a0] rfl (by (try simp only [List.map_toArray, List.map_cons, List.map_nil]); first | done | rfl | (simp only [List.length_drop, List.length_take]; rfl)) ?_; (with_reducible refine (angle_Norm.calls a0 t101 _ A2.out).mono ?_); rintro e w' ⟨rfl, ⟨nd, rfl⟩⟩; refine ⟨_, rfl, ?_⟩))
      go_ret
      exact ⟨by first | rfl | (simp; done) | (simp [*]; done), by repeat (first | exact Drawn0.refl _ | apply Drawn0.step)⟩

/-! ### angle_Cos: function 17 -/
def angle_Cos.f (k : Nat) (a0 : Int) : Option (Int) := (angle_Norm.f a0).bind fun t103 => ((angle_Sin.f k (wrap64 (t103 + 16384))).bind fun t104 => (some t104))
theorem angle_Cos.mono : ∀ a0 k, LeO (angle_Cos.f k a0) (angle_Cos.f (k + 1) a0) := by
  intro a0 k
  unfold angle_Cos.f
  repeat' first
      | (with_reducible exact angle_Sin.mono _ _)
      | (with_reducible exact LeO.refl _)
      | (with_reducible exact LeO.none _)
      | (with_reducible refine LeO.ite ?_ ?_)
      | (with_reducible refine LeO.bind ?_ (fun _ => ?_))
      | exact angle_Sin.mono _ _
      | exact LeO.none _
      | refine LeO.ite ?_ ?_
      | refine LeO.bind ?_ (fun _ => ?_)
set_option maxHeartbeats 8000000 in
set_option maxRecDepth 100000 in
theorem angle_Cos.calls (k : Nat) (a0 : Int) (r : Int) (w : World) (h : angle_Cos.f k a0 = some r) :
    Calls Try.prog 17 #[.int .i64 a0] w fun e w' => e = .returned (.int .i64 r) ∧ Drawn0 w w' := by
  have H : ((angle_Norm.f a0).bind fun t103 => ((angle_Sin.f k (wrap64 (t103 + 16384))).bind fun t104 => (some t104))) = some r := h
  clear h
  replace H := Option.bind_eq_some_iff.mp H
  obtain ⟨t103, A20, H⟩ := H
  replace H : ((angle_Sin.f k (wrap64 (t103 + 16384))).bind fun t104 => (some t104)) = some r := H
  have A2 := Aside0.mk A20
  clear A20
  replace H := Option.bind_eq_some_iff.mp H
  obtain ⟨t104, A30, H⟩ := H
  replace H : (some t104) = some r := H
  have A3 := Aside0.mk A30
  clear A30
  obtain rfl := Option.some.inj H
  go_enter Try.func17, Try.ntmps17
  go_wp2_with (first | ((with_reducible refine gate_callee (f := 15) rfl ?_); refine goesL_ (some 4) rfl rfl Try.func15 (by kernel_rfl) rfl #[.int .i64 a0] rfl (by (try simp only [List.map_toArray, List.map_cons, List.map_nil]); first | done | rfl | (simp only [List.length_drop, List.length_take]; rfl)) ?_; (with_reducible refine (angle_Norm.calls a0 t103 _ A2.out).mono ?_); rintro e w' ⟨rfl, ⟨nd, rfl⟩⟩; refine ⟨_, rfl, ?_⟩) | ((with_reducible refine gate_callee (f := 14) rfl ?_); refine goesL_ (some 6) rfl rfl Try.func14 (by kernel_rfl) rfl #[.int .i64 (wrap64 (t103 + 16384))] rfl (by (try simp only [List.map_toArray, List.map_cons, List.map_nil]); first | done | rfl | (simp only [List.length_drop, List.length_take]; rfl)) ?_; (with_reducible refine (angle_Sin.calls k (wrap64 (t103 + 16384)) t104 _ A3.out).mono ?_); rintro e w' ⟨rfl, ⟨nd, rfl⟩⟩; refine ⟨_, rfl, ?_⟩))
  go_ret
  exact ⟨by first | rfl | (simp; done) | (simp [*]; done), by repeat (first | exact Drawn0.refl _ | apply Drawn0.step)⟩

/-! ### fixed_brought: function 52 -/
def fixed_brought.f (a0 : Int) (a1 : Int) (a2 : Int) : Option (Int) := some (mx a1 (mn a0 a2))
set_option maxHeartbeats 8000000 in
set_option maxRecDepth 100000 in
theorem fixed_brought.calls (a0 : Int) (a1 : Int) (a2 : Int) (r : Int) (w : World) (h : fixed_brought.f a0 a1 a2 = some r) :
    Calls Try.prog 52 #[.int .i64 a0, .int .i64 a1, .int .i64 a2] w fun e w' => e = .returned (.int .i64 r) ∧ Below w.heap.size w w' := by
  have HB := Aside0.mk (Below.refl w.heap.size w)
  have H : (some (mx a1 (mn a0 a2))) = some r := h
  clear h
  obtain ⟨ji4, hji4⟩ : ∃ j_ : Int, (mn a0 a2) = j_ := ⟨_, rfl⟩
  replace H : (some (mx a1 (ji4))) = some r := by first | (rw [hji4] at H; exact H) | (simp only [hji4] at H ⊢; exact H)
  have hji4_ : (if a2 < a0 then a2 else a0) = ji4 := hji4
  obtain ⟨ji5, hji5⟩ : ∃ j_ : Int, (mx a1 (ji4)) = j_ := ⟨_, rfl⟩
  replace H : (some ji5) = some r := by first | (rw [hji5] at H; exact H) | (simp only [hji5] at H ⊢; exact H)
  have hji5_ : (if a1 < (ji4) then (ji4) else a1) = ji5 := hji5
  obtain rfl := Option.some.inj H
  go_enter Try.func52, Try.ntmps52
  go_wp2
  go_ret
  exact ⟨by first | rfl | (simp [errW_none, errW_some] <;> rfl) | (simp only [← hji4, ← hji5]; first | rfl | (simp [errW_none, errW_some] <;> rfl)) | (simp [*, errW_none, errW_some] <;> rfl), by repeat (first | (with_reducible first | exact HB.out | apply below_alloc | apply pw_below_drewN | apply below_drew1) | exact HB.out)⟩

/-! ### fixed_Clip: function 35 -/
def fixed_Clip.f (a0 : Int) : Option (Int) := (fixed_brought.f a0 (-2147483647) 2147483647).bind fun t105 => (some t105)
set_option maxHeartbeats 8000000 in
set_option maxRecDepth 100000 in
theorem fixed_Clip.calls (a0 : Int) (r : Int) (w : World) (h : fixed_Clip.f a0 = some r) :
    Calls Try.prog 35 #[.int .i64 a0] w fun e w' => e = .returned (.int .i64 r) ∧ Below w.heap.size w w' := by
  have HB := Aside0.mk (Below.refl w.heap.size w)
  have H : ((fixed_brought.f a0 (-2147483647) 2147483647).bind fun t105 => (some t105)) = some r := h
  clear h
  replace H := Option.bind_eq_some_iff.mp H
  obtain ⟨t105, A20, H⟩ := H
  replace H : (some t105) = some r := H
  have A2 := Aside0.mk A20
  clear A20
  obtain rfl := Option.some.inj H
  go_enter Try.func35, Try.ntmps35
  go_wp2_with (first | ((with_reducible refine gate_callee (f := 52) rfl ?_); refine goesL_ (some 4) rfl rfl Try.func52 (by kernel_rfl) rfl #[.int .i64 a0, .int .i64 (-2147483647), .int .i64 2147483647] rfl (by (try simp only [List.map_toArray, List.map_cons, List.map_nil]); first | done | rfl | (simp only [List.length_drop, List.length_take]; rfl)) ?_; (with_reducible refine (fixed_brought.calls a0 (-2147483647) 2147483647 t105 _ A2.out).mono ?_); rintro e w3 ⟨rfl, hb⟩; refine ⟨_, rfl, ?_⟩; have n0_ := Aside0.mk (below_step (by repeat (first | (with_reducible first | exact HB.out | apply below_alloc | apply pw_below_drewN | apply below_drew1) | exact HB.out)) hb); clear HB; have HB := n0_; clear n0_; (try clear hb); (try clear hb2); (try clear hk); (try clear hi)))
  go_ret
  exact ⟨by first | rfl | (simp [errW_none, errW_some] <;> rfl) | (simp [*, errW_none, errW_some] <;> rfl), by repeat (first | (with_reducible first | exact HB.out | apply below_alloc | apply pw_below_drewN | apply below_drew1) | exact HB.out)⟩

/-! ### angle_away: function 36 -/
def angle_away.f (a0 : Int) : Option (Int) := some (mx a0 (wrap64 (-a0)))
set_option maxHeartbeats 8000000 in
set_option maxRecDepth 100000 in
theorem angle_away.calls (a0 : Int) (r : Int) (w : World) (h : angle_away.f a0 = some r) :
    Calls Try.prog 36 #[.int .i64 a0] w fun e w' => e = .returned (.int .i64 r) ∧ Below w.heap.size w w' := by
  have HB := Aside0.mk (Below.refl w.heap.size w)
  have H : (some (mx a0 (wrap64 (-a0)))) = some r := h
  clear h
  obtain ⟨ji2, hji2⟩ : ∃ j_ : Int, (mx a0 (wrap64 (-a0))) = j_ := ⟨_, rfl⟩
  replace H : (some ji2) = some r := by first | (rw [hji2] at H; exact H) | (simp only [hji2] at H ⊢; exact H)
  have hji2_ : (if a0 < (wrap64 (-a0)) then (wrap64 (-a0)) else a0) = ji2 := hji2
  obtain rfl := Option.some.inj H
  go_enter Try.func36, Try.ntmps36
  go_wp2
  go_ret
  exact ⟨by first | rfl | (simp [errW_none, errW_some] <;> rfl) | (simp only [← hji2]; first | rfl | (simp [errW_none, errW_some] <;> rfl)) | (simp [*, errW_none, errW_some] <;> rfl), by repeat (first | (with_reducible first | exact HB.out | apply below_alloc | apply pw_below_drewN | apply below_drew1) | exact HB.out)⟩

/-! ### angle_Atan: function 19 -/
def angle_Atan.j0 : Nat → Int → Int → Int → Option (Int)
  | 0, _, _, _ => none
  | k + 1, x0, x1, x8 => if x1 < 0 then (if x0 < 0 then ((angle_Norm.f (wrap64 (-(wrap64 (32768 - x8))))).bind fun t114 => (some t114)) else (some (wrap64 (32768 - x8)))) else (if x0 < 0 then ((angle_Norm.f (wrap64 (-x8))).bind fun t115 => (some t115)) else (some x8))
def angle_Atan.f (k : Nat) (a0 : Int) (a1 : Int) : Option (Int) := (fixed_Clip.f a1).bind fun t106 => ((fixed_Clip.f a0).bind fun t107 => ((angle_away.f t106).bind fun t108 => ((angle_away.f t107).bind fun t109 => ((angle_away.f t106).bind fun t110 => ((angle_away.f t107).bind fun t111 => (if (mx t108 t109) = 0 then (some 0) else ((angle_away.f t107).bind fun t112 => ((angle_away.f t106).bind fun t113 => (if t112 > t113 then (angle_Atan.j0 k t107 t106 (wrap64 (16384 - ((wrap64 ((wrap64 ((wrap64 (8192 * (wrap64 (Int.tdiv (wrap64 ((mn t110 t111) * 65536)) (mx t108 t109))))) * 65536)) + (wrap64 ((wrap64 (2847 * (wrap64 (Int.tdiv (wrap64 ((mn t110 t111) * 65536)) (mx t108 t109))))) * (wrap64 (65536 - (wrap64 (Int.tdiv (wrap64 ((mn t110 t111) * 65536)) (mx t108 t109))))))))) / 4294967296)))) else (angle_Atan.j0 k t107 t106 ((wrap64 ((wrap64 ((wrap64 (8192 * (wrap64 (Int.tdiv (wrap64 ((mn t110 t111) * 65536)) (mx t108 t109))))) * 65536)) + (wrap64 ((wrap64 (2847 * (wrap64 (Int.tdiv (wrap64 ((mn t110 t111) * 65536)) (mx t108 t109))))) * (wrap64 (65536 - (wrap64 (Int.tdiv (wrap64 ((mn t110 t111) * 65536)) (mx t108 t109))))))))) / 4294967296)))))))))))
theorem angle_Atan.mono_l : ∀ k, (∀ y0 y1 y2, LeO (angle_Atan.j0 k y0 y1 y2) (angle_Atan.j0 (k + 1) y0 y1 y2))
  | 0 => fun _ _ _ r h => by simp [angle_Atan.j0] at h
  | k + 1 => by
    have ih0 := angle_Atan.mono_l k
    · intro y0 y1 y2
      unfold angle_Atan.j0
      repeat' first
      | (with_reducible exact ih0 _ _ _)
      | (with_reducible exact LeO.refl _)
      | (with_reducible exact LeO.none _)
      | (with_reducible refine LeO.ite ?_ ?_)
      | (with_reducible refine LeO.bind ?_ (fun _ => ?_))
      | exact ih0 _ _ _
      | exact LeO.none _
      | refine LeO.ite ?_ ?_
      | refine LeO.bind ?_ (fun _ => ?_)
theorem angle_Atan.mono : ∀ a0 a1 k, LeO (angle_Atan.f k a0 a1) (angle_Atan.f (k + 1) a0 a1) := by
  intro a0 a1 k
  have ih0 := angle_Atan.mono_l k
  unfold angle_Atan.f
  repeat' first
      | (with_reducible exact ih0 _ _ _)
      | (with_reducible exact LeO.refl _)
      | (with_reducible exact LeO.none _)
      | (with_reducible refine LeO.ite ?_ ?_)
      | (with_reducible refine LeO.bind ?_ (fun _ => ?_))
      | exact ih0 _ _ _
      | exact LeO.none _
      | refine LeO.ite ?_ ?_
      | refine LeO.bind ?_ (fun _ => ?_)
set_option maxHeartbeats 8000000 in
set_option maxRecDepth 100000 in
theorem angle_Atan.calls (k : Nat) (a0 : Int) (a1 : Int) (r : Int) (w : World) (h : angle_Atan.f k a0 a1 = some r) :
    Calls Try.prog 19 #[.int .i64 a0, .int .i64 a1] w fun e w' => e = .returned (.int .i64 r) ∧ Below w.heap.size w w' := by
  have HB := Aside0.mk (Below.refl w.heap.size w)
  have H : ((fixed_Clip.f a1).bind fun t106 => ((fixed_Clip.f a0).bind fun t107 => ((angle_away.f t106).bind fun t108 => ((angle_away.f t107).bind fun t109 => ((angle_away.f t106).bind fun t110 => ((angle_away.f t107).bind fun t111 => (if (mx t108 t109) = 0 then (some 0) else ((angle_away.f t107).bind fun t112 => ((angle_away.f t106).bind fun t113 => (if t112 > t113 then (angle_Atan.j0 k t107 t106 (wrap64 (16384 - ((wrap64 ((wrap64 ((wrap64 (8192 * (wrap64 (Int.tdiv (wrap64 ((mn t110 t111) * 65536)) (mx t108 t109))))) * 65536)) + (wrap64 ((wrap64 (2847 * (wrap64 (Int.tdiv (wrap64 ((mn t110 t111) * 65536)) (mx t108 t109))))) * (wrap64 (65536 - (wrap64 (Int.tdiv (wrap64 ((mn t110 t111) * 65536)) (mx t108 t109))))))))) / 4294967296)))) else (angle_Atan.j0 k t107 t106 ((wrap64 ((wrap64 ((wrap64 (8192 * (wrap64 (Int.tdiv (wrap64 ((mn t110 t111) * 65536)) (mx t108 t109))))) * 65536)) + (wrap64 ((wrap64 (2847 * (wrap64 (Int.tdiv (wrap64 ((mn t110 t111) * 65536)) (mx t108 t109))))) * (wrap64 (65536 - (wrap64 (Int.tdiv (wrap64 ((mn t110 t111) * 65536)) (mx t108 t109))))))))) / 4294967296)))))))))))) = some r := h
  clear h
  replace H := Option.bind_eq_some_iff.mp H
  obtain ⟨t106, A30, H⟩ := H
  replace H : ((fixed_Clip.f a0).bind fun t107 => ((angle_away.f t106).bind fun t108 => ((angle_away.f t107).bind fun t109 => ((angle_away.f t106).bind fun t110 => ((angle_away.f t107).bind fun t111 => (if (mx t108 t109) = 0 then (some 0) else ((angle_away.f t107).bind fun t112 => ((angle_away.f t106).bind fun t113 => (if t112 > t113 then (angle_Atan.j0 k t107 t106 (wrap64 (16384 - ((wrap64 ((wrap64 ((wrap64 (8192 * (wrap64 (Int.tdiv (wrap64 ((mn t110 t111) * 65536)) (mx t108 t109))))) * 65536)) + (wrap64 ((wrap64 (2847 * (wrap64 (Int.tdiv (wrap64 ((mn t110 t111) * 65536)) (mx t108 t109))))) * (wrap64 (65536 - (wrap64 (Int.tdiv (wrap64 ((mn t110 t111) * 65536)) (mx t108 t109))))))))) / 4294967296)))) else (angle_Atan.j0 k t107 t106 ((wrap64 ((wrap64 ((wrap64 (8192 * (wrap64 (Int.tdiv (wrap64 ((mn t110 t111) * 65536)) (mx t108 t109))))) * 65536)) + (wrap64 ((wrap64 (2847 * (wrap64 (Int.tdiv (wrap64 ((mn t110 t111) * 65536)) (mx t108 t109))))) * (wrap64 (65536 - (wrap64 (Int.tdiv (wrap64 ((mn t110 t111) * 65536)) (mx t108 t109))))))))) / 4294967296))))))))))) = some r := H
  have A3 := Aside0.mk A30
  clear A30
  replace H := Option.bind_eq_some_iff.mp H
  obtain ⟨t107, A40, H⟩ := H
  replace H : ((angle_away.f t106).bind fun t108 => ((angle_away.f t107).bind fun t109 => ((angle_away.f t106).bind fun t110 => ((angle_away.f t107).bind fun t111 => (if (mx t108 t109) = 0 then (some 0) else ((angle_away.f t107).bind fun t112 => ((angle_away.f t106).bind fun t113 => (if t112 > t113 then (angle_Atan.j0 k t107 t106 (wrap64 (16384 - ((wrap64 ((wrap64 ((wrap64 (8192 * (wrap64 (Int.tdiv (wrap64 ((mn t110 t111) * 65536)) (mx t108 t109))))) * 65536)) + (wrap64 ((wrap64 (2847 * (wrap64 (Int.tdiv (wrap64 ((mn t110 t111) * 65536)) (mx t108 t109))))) * (wrap64 (65536 - (wrap64 (Int.tdiv (wrap64 ((mn t110 t111) * 65536)) (mx t108 t109))))))))) / 4294967296)))) else (angle_Atan.j0 k t107 t106 ((wrap64 ((wrap64 ((wrap64 (8192 * (wrap64 (Int.tdiv (wrap64 ((mn t110 t111) * 65536)) (mx t108 t109))))) * 65536)) + (wrap64 ((wrap64 (2847 * (wrap64 (Int.tdiv (wrap64 ((mn t110 t111) * 65536)) (mx t108 t109))))) * (wrap64 (65536 - (wrap64 (Int.tdiv (wrap64 ((mn t110 t111) * 65536)) (mx t108 t109))))))))) / 4294967296)))))))))) = some r := H
  have A4 := Aside0.mk A40
  clear A40
  replace H := Option.bind_eq_some_iff.mp H
  obtain ⟨t108, A50, H⟩ := H
  replace H : ((angle_away.f t107).bind fun t109 => ((angle_away.f t106).bind fun t110 => ((angle_away.f t107).bind fun t111 => (if (mx t108 t109) = 0 then (some 0) else ((angle_away.f t107).bind fun t112 => ((angle_away.f t106).bind fun t113 => (if t112 > t113 then (angle_Atan.j0 k t107 t106 (wrap64 (16384 - ((wrap64 ((wrap64 ((wrap64 (8192 * (wrap64 (Int.tdiv (wrap64 ((mn t110 t111) * 65536)) (mx t108 t109))))) * 65536)) + (wrap64 ((wrap64 (2847 * (wrap64 (Int.tdiv (wrap64 ((mn t110 t111) * 65536)) (mx t108 t109))))) * (wrap64 (65536 - (wrap64 (Int.tdiv (wrap64 ((mn t110 t111) * 65536)) (mx t108 t109))))))))) / 4294967296)))) else (angle_Atan.j0 k t107 t106 ((wrap64 ((wrap64 ((wrap64 (8192 * (wrap64 (Int.tdiv (wrap64 ((mn t110 t111) * 65536)) (mx t108 t109))))) * 65536)) + (wrap64 ((wrap64 (2847 * (wrap64 (Int.tdiv (wrap64 ((mn t110 t111) * 65536)) (mx t108 t109))))) * (wrap64 (65536 - (wrap64 (Int.tdiv (wrap64 ((mn t110 t111) * 65536)) (mx t108 t109))))))))) / 4294967296))))))))) = some r := H
  have A5 := Aside0.mk A50
  clear A50
  replace H := Option.bind_eq_some_iff.mp H
  obtain ⟨t109, A60, H⟩ := H
  replace H : ((angle_away.f t106).bind fun t110 => ((angle_away.f t107).bind fun t111 => (if (mx t108 t109) = 0 then (some 0) else ((angle_away.f t107).bind fun t112 => ((angle_away.f t106).bind fun t113 => (if t112 > t113 then (angle_Atan.j0 k t107 t106 (wrap64 (16384 - ((wrap64 ((wrap64 ((wrap64 (8192 * (wrap64 (Int.tdiv (wrap64 ((mn t110 t111) * 65536)) (mx t108 t109))))) * 65536)) + (wrap64 ((wrap64 (2847 * (wrap64 (Int.tdiv (wrap64 ((mn t110 t111) * 65536)) (mx t108 t109))))) * (wrap64 (65536 - (wrap64 (Int.tdiv (wrap64 ((mn t110 t111) * 65536)) (mx t108 t109))))))))) / 4294967296)))) else (angle_Atan.j0 k t107 t106 ((wrap64 ((wrap64 ((wrap64 (8192 * (wrap64 (Int.tdiv (wrap64 ((mn t110 t111) * 65536)) (mx t108 t109))))) * 65536)) + (wrap64 ((wrap64 (2847 * (wrap64 (Int.tdiv (wrap64 ((mn t110 t111) * 65536)) (mx t108 t109))))) * (wrap64 (65536 - (wrap64 (Int.tdiv (wrap64 ((mn t110 t111) * 65536)) (mx t108 t109))))))))) / 4294967296)))))))) = some r := H
  have A6 := Aside0.mk A60
  clear A60
  obtain ⟨ji7, hji7⟩ : ∃ j_ : Int, (mx t108 t109) = j_ := ⟨_, rfl⟩
  replace H : ((angle_away.f t106).bind fun t110 => ((angle_away.f t107).bind fun t111 => (if (ji7) = 0 then (some 0) else ((angle_away.f t107).bind fun t112 => ((angle_away.f t106).bind fun t113 => (if t112 > t113 then (angle_Atan.j0 k t107 t106 (wrap64 (16384 - ((wrap64 ((wrap64 ((wrap64 (8192 * (wrap64 (Int.tdiv (wrap64 ((mn t110 t111) * 65536)) (ji7))))) * 65536)) + (wrap64 ((wrap64 (2847 * (wrap64 (Int.tdiv (wrap64 ((mn t110 t111) * 65536)) (ji7))))) * (wrap64 (65536 - (wrap64 (Int.tdiv (wrap64 ((mn t110 t111) * 65536)) (ji7))))))))) / 4294967296)))) else (angle_Atan.j0 k t107 t106 ((wrap64 ((wrap64 ((wrap64 (8192 * (wrap64 (Int.tdiv (wrap64 ((mn t110 t111) * 65536)) (ji7))))) * 65536)) + (wrap64 ((wrap64 (2847 * (wrap64 (Int.tdiv (wrap64 ((mn t110 t111) * 65536)) (ji7))))) * (wrap64 (65536 - (wrap64 (Int.tdiv (wrap64 ((mn t110 t111) * 65536)) (ji7))))))))) / 4294967296)))))))) = some r := by first | (rw [hji7] at H; exact H) | (simp only [hji7] at H ⊢; exact H)
  (try rw [hji7] at A3)
  (try rw [hji7] at A4)
  (try rw [hji7] at A5)
  (try rw [hji7] at A6)
  have hji7_ : (if t108 < t109 then t109 else t108) = ji7 := hji7
  replace H := Option.bind_eq_some_iff.mp H
  obtain ⟨t110, A80, H⟩ := H
  replace H : ((angle_away.f t107).bind fun t111 => (if (ji7) = 0 then (some 0) else ((angle_away.f t107).bind fun t112 => ((angle_away.f t106).bind fun t113 => (if t112 > t113 then (angle_Atan.j0 k t107 t106 (wrap64 (16384 - ((wrap64 ((wrap64 ((wrap64 (8192 * (wrap64 (Int.tdiv (wrap64 ((mn t110 t111) * 65536)) (ji7))))) * 65536)) + (wrap64 ((wrap64 (2847 * (wrap64 (Int.tdiv (wrap64 ((mn t110 t111) * 65536)) (ji7))))) * (wrap64 (65536 - (wrap64 (Int.tdiv (wrap64 ((mn t110 t111) * 65536)) (ji7))))))))) / 4294967296)))) else (angle_Atan.j0 k t107 t106 ((wrap64 ((wrap64 ((wrap64 (8192 * (wrap64 (Int.tdiv (wrap64 ((mn t110 t111) * 65536)) (ji7))))) * 65536)) + (wrap64 ((wrap64 (2847 * (wrap64 (Int.tdiv (wrap64 ((mn t110 t111) * 65536)) (ji7))))) * (wrap64 (65536 - (wrap64 (Int.tdiv (wrap64 ((mn t110 t111) * 65536)) (ji7))))))))) / 4294967296))))))) = some r := H
  have A8 := Aside0.mk A80
  clear A80
  replace H := Option.bind_eq_some_iff.mp H
  obtain ⟨t111, A90, H⟩ := H
  replace H : (if (ji7) = 0 then (some 0) else ((angle_away.f t107).bind fun t112 => ((angle_away.f t106).bind fun t113 => (if t112 > t113 then (angle_Atan.j0 k t107 t106 (wrap64 (16384 - ((wrap64 ((wrap64 ((wrap64 (8192 * (wrap64 (Int.tdiv (wrap64 ((mn t110 t111) * 65536)) (ji7))))) * 65536)) + (wrap64 ((wrap64 (2847 * (wrap64 (Int.tdiv (wrap64 ((mn t110 t111) * 65536)) (ji7))))) * (wrap64 (65536 - (wrap64 (Int.tdiv (wrap64 ((mn t110 t111) * 65536)) (ji7))))))))) / 4294967296)))) else (angle_Atan.j0 k t107 t106 ((wrap64 ((wrap64 ((wrap64 (8192 * (wrap64 (Int.tdiv (wrap64 ((mn t110 t111) * 65536)) (ji7))))) * 65536)) + (wrap64 ((wrap64 (2847 * (wrap64 (Int.tdiv (wrap64 ((mn t110 t111) * 65536)) (ji7))))) * (wrap64 (65536 - (wrap64 (Int.tdiv (wrap64 ((mn t110 t111) * 65536)) (ji7))))))))) / 4294967296)))))) = some r := H
  have A9 := Aside0.mk A90
  clear A90
  obtain ⟨ji10, hji10⟩ : ∃ j_ : Int, (mn t110 t111) = j_ := ⟨_, rfl⟩
  replace H : (if (ji7) = 0 then (some 0) else ((angle_away.f t107).bind fun t112 => ((angle_away.f t106).bind fun t113 => (if t112 > t113 then (angle_Atan.j0 k t107 t106 (wrap64 (16384 - ((wrap64 ((wrap64 ((wrap64 (8192 * (wrap64 (Int.tdiv (wrap64 ((ji10) * 65536)) (ji7))))) * 65536)) + (wrap64 ((wrap64 (2847 * (wrap64 (Int.tdiv (wrap64 ((ji10) * 65536)) (ji7))))) * (wrap64 (65536 - (wrap64 (Int.tdiv (wrap64 ((ji10) * 65536)) (ji7))))))))) / 4294967296)))) else (angle_Atan.j0 k t107 t106 ((wrap64 ((wrap64 ((wrap64 (8192 * (wrap64 (Int.tdiv (wrap64 ((ji10) * 65536)) (ji7))))) * 65536)) + (wrap64 ((wrap64 (2847 * (wrap64 (Int.tdiv (wrap64 ((ji10) * 65536)) (ji7))))) * (wrap64 (65536 - (wrap64 (Int.tdiv (wrap64 ((ji10) * 65536)) (ji7))))))))) / 4294967296)))))) = some r := by first | (rw [hji10] at H; exact H) | (simp only [hji10] at H ⊢; exact H)
  (try rw [hji10] at A3)
  (try rw [hji10] at A4)
  (try rw [hji10] at A5)
  (try rw [hji10] at A6)
  (try rw [hji10] at A8)
  (try rw [hji10] at A9)
  have hji10_ : (if t111 < t110 then t111 else t110) = ji10 := hji10
  by_cases c11 : (ji7) = 0
  · rw [if_pos c11] at H
    have c11b0 : ((ji7) == 0) = true := beq_iff_eq.mpr c11
    have c11b1 : ((ji7) != 0) = false := bne_eq_false_iff_eq.mpr c11
    clear c11
    obtain rfl := Option.some.inj H
    go_enter Try.func19, Try.ntmps19
    go_wp2_with (first | ((with_reducible refine gate_callee (f := 35) rfl ?_); refine goesL_ (some 10) rfl rfl Try.func35 (by kernel_rfl) rfl #[.int .i64 a1] rfl (by (try simp only [List.map_toArray, List.map_cons, List.map_nil]); first | done | rfl | (simp only [List.length_drop, List.length_take]; rfl)) ?_; (with_reducible refine (fixed_Clip.calls a1 t106 _ A3.out).mono ?_); rintro e w12 ⟨rfl, hb⟩; refine ⟨_, rfl, ?_⟩; have n0_ := Aside0.mk (below_step (by repeat (first | (with_reducible first | exact HB.out | apply below_alloc | apply pw_below_drewN | apply below_drew1) | exact HB.out)) hb); clear HB; have HB := n0_; clear n0_; (try clear hb); (try clear hb2); (try clear hk); (try clear hi)) | ((with_reducible refine gate_callee (f := 35) rfl ?_); refine goesL_ (some 12) rfl rfl Try.func35 (by kernel_rfl) rfl #[.int .i64 a0] rfl (by (try simp only [List.map_toArray, List.map_cons, List.map_nil]); first | done | rfl | (simp only [List.length_drop, List.length_take]; rfl)) ?_; (with_reducible refine (fixed_Clip.calls a0 t107 _ A4.out).mono ?_); rintro e w13 ⟨rfl, hb⟩; refine ⟨_, rfl, ?_⟩; have n0_ := Aside0.mk (below_step (by repeat (first | (with_reducible first | exact HB.out | apply below_alloc | apply pw_below_drewN | apply below_drew1) | exact HB.out)) hb); clear HB; have HB := n0_; clear n0_; (try clear hb); (try clear hb2); (try clear hk); (try clear hi)) | ((with_reducible refine gate_callee (f := 36) rfl ?_); refine goesL_ (some 14) rfl rfl Try.func36 (by kernel_rfl) rfl #[.int .i64 t106] rfl (by (try simp only [List.map_toArray, List.map_cons, List.map_nil]); first | done | rfl | (simp only [List.length_drop, List.length_take]; rfl)) ?_; (with_reducible refine (angle_away.calls t106 t108 _ A5.out).mono ?_); rintro e w14 ⟨rfl, hb⟩; refine ⟨_, rfl, ?_⟩; have n0_ := Aside0.mk (below_step (by repeat (first | (with_reducible first | exact HB.out | apply below_alloc | apply pw_below_drewN | apply below_drew1) | exact HB.out)) hb); clear HB; have HB := n0_; clear n0_; (try clear hb); (try clear hb2); (try clear hk); (try clear hi)) | ((with_reducible refine gate_callee (f := 36) rfl ?_); refine goesL_ (some 16) rfl rfl Try.func36 (by kernel_rfl) rfl #[.int .i64 t107] rfl (by (try simp only [List.map_toArray, List.map_cons, List.map_nil]); first | done | rfl | (simp only [List.length_drop, List.length_take]; rfl)) ?_; (with_reducible refine (angle_away.calls t107 t109 _ A6.out).mono ?_); rintro e w15 ⟨rfl, hb⟩; refine ⟨_, rfl, ?_⟩; have n0_ := Aside0.mk (below_step (by repeat (first | (with_reducible first | exact HB.out | apply below_alloc | apply pw_below_drewN | apply below_drew1) | exact HB.out)) hb); clear HB; have HB := n0_; clear n0_; (try clear hb); (try clear hb2); (try clear hk); (try clear hi)) | ((with_reducible refine gate_callee (f := 36) rfl ?_); refine goesL_ (some 19) rfl rfl Try.func36 (by kernel_rfl) rfl #[.int .i64 t106] rfl (by (try simp only [List.map_toArray, List.map_cons, List.map_nil]); first | done | rfl | (simp only [List.length_drop, List.length_take]; rfl)) ?_; (with_reducible refine (angle_away.calls t106 t110 _ A8.out).mono ?_); rintro e w16 ⟨rfl, hb⟩; refine ⟨_, rfl, ?_⟩; have n0_ := Aside0.mk (below_step (by repeat (first | (with_reducible first | exact HB.out | apply below_alloc | apply pw_below_drewN | apply below_drew1) | exact HB.out)) hb); clear HB; have HB := n0_; clear n0_; (try clear hb); (try clear hb2); (try clear hk); (try clear hi)) | ((with_reducible refine gate_callee (f := 36) rfl ?_); refine goesL_ (some 21) rfl rfl Try.func36 (by kernel_rfl) rfl #[.int .i64 t107] rfl (by (try simp only [List.map_toArray, List.map_cons, List.map_nil]); first | done | rfl | (simp only [List.length_drop, List.length_take]; rfl)) ?_; (with_reducible refine (angle_away.calls t107 t111 _ A9.out).mono ?_); rintro e w17 ⟨rfl, hb⟩; refine ⟨_, rfl, ?_⟩; have n0_ := Aside0.mk (below_step (by repeat (first | (with_reducible first | exact HB.out | apply below_alloc | apply pw_below_drewN | apply below_drew1) | exact HB.out)) hb); clear HB; have HB := n0_; clear n0_; (try clear hb); (try clear hb2); (try clear hk); (try clear hi)))
    go_ret
    exact ⟨by first | rfl | (simp [errW_none, errW_some] <;> rfl) | (simp only [← hji7, ← hji10]; first | rfl | (simp [errW_none, errW_some] <;> rfl)) | (simp [*, errW_none, errW_some] <;> rfl), by repeat (first | (with_reducible first | exact HB.out | apply below_alloc | apply pw_below_drewN | apply below_drew1) | exact HB.out)⟩
  · rw [if_neg c11] at H
    have c11b0 : ((ji7) == 0) = false := beq_eq_false_iff_ne.mpr c11
    have c11b1 : ((ji7) != 0) = true := bne_iff_ne.mpr c11
    replace H := Option.bind_eq_some_iff.mp H
    obtain ⟨t112, A180, H⟩ := H
    replace H : ((angle_away.f t106).bind fun t113 => (if t112 > t113 then (angle_Atan.j0 k t107 t106 (wrap64 (16384 - ((wrap64 ((wrap64 ((wrap64 (8192 * (wrap64 (Int.tdiv (wrap64 ((ji10) * 65536)) (ji7))))) * 65536)) + (wrap64 ((wrap64 (2847 * (wrap64 (Int.tdiv (wrap64 ((ji10) * 65536)) (ji7))))) * (wrap64 (65536 - (wrap64 (Int.tdiv (wrap64 ((ji10) * 65536)) (ji7))))))))) / 4294967296)))) else (angle_Atan.j0 k t107 t106 ((wrap64 ((wrap64 ((wrap64 (8192 * (wrap64 (Int.tdiv (wrap64 ((ji10) * 65536)) (ji7))))) * 65536)) + (wrap64 ((wrap64 (2847 * (wrap64 (Int.tdiv (wrap64 ((ji10) * 65536)) (ji7))))) * (wrap64 (65536 - (wrap64 (Int.tdiv (wrap64 ((ji10) * 65536)) (ji7))))))))) / 4294967296)))) = some r := H
    have A18 := Aside0.mk A180
    clear A180
    replace H := Option.bind_eq_some_iff.mp H
    obtain ⟨t113, A190, H⟩ := H
    replace H : (if t112 > t113 then (angle_Atan.j0 k t107 t106 (wrap64 (16384 - ((wrap64 ((wrap64 ((wrap64 (8192 * (wrap64 (Int.tdiv (wrap64 ((ji10) * 65536)) (ji7))))) * 65536)) + (wrap64 ((wrap64 (2847 * (wrap64 (Int.tdiv (wrap64 ((ji10) * 65536)) (ji7))))) * (wrap64 (65536 - (wrap64 (Int.tdiv (wrap64 ((ji10) * 65536)) (ji7))))))))) / 4294967296)))) else (angle_Atan.j0 k t107 t106 ((wrap64 ((wrap64 ((wrap64 (8192 * (wrap64 (Int.tdiv (wrap64 ((ji10) * 65536)) (ji7))))) * 65536)) + (wrap64 ((wrap64 (2847 * (wrap64 (Int.tdiv (wrap64 ((ji10) * 65536)) (ji7))))) * (wrap64 (65536 - (wrap64 (Int.tdiv (wrap64 ((ji10) * 65536)) (ji7))))))))) / 4294967296))) = some r := H
    have A19 := Aside0.mk A190
    clear A190
    have HC20 := Aside0.mk H
    clear H
    go_enter Try.func19, Try.ntmps19
    go_upto_if 43 with (first | ((with_reducible refine gate_callee (f := 35) rfl ?_); refine goesL_ (some 10) rfl rfl Try.func35 (by kernel_rfl) rfl #[.int .i64 a1] rfl (by (try simp only [List.map_toArray, List.map_cons, List.map_nil]); first | done | rfl | (simp only [List.length_drop, List.length_take]; rfl)) ?_; (with_reducible refine (fixed_Clip.calls a1 t106 _ A3.out).mono ?_); rintro e w21 ⟨rfl, hb⟩; refine ⟨_, rfl, ?_⟩; have n0_ := Aside0.mk (below_step (by repeat (first | (with_reducible first | exact HB.out | apply below_alloc | apply pw_below_drewN | apply below_drew1) | exact HB.out)) hb); clear HB; have HB := n0_; clear n0_; (try clear hb); (try clear hb2); (try clear hk); (try clear hi)) | ((with_reducible refine gate_callee (f := 35) rfl ?_); refine goesL_ (some 12) rfl rfl Try.func35 (by kernel_rfl) rfl #[.int .i64 a0] rfl (by (try simp only [List.map_toArray, List.map_cons, List.map_nil]); first | done | rfl | (simp only [List.length_drop, List.length_take]; rfl)) ?_; (with_reducible refine (fixed_Clip.calls a0 t107 _ A4.out).mono ?_); rintro e w22 ⟨rfl, hb⟩; refine ⟨_, rfl, ?_⟩; have n0_ := Aside0.mk (below_step (by repeat (first | (with_reducible first | exact HB.out | apply below_alloc | apply pw_below_drewN | apply below_drew1) | exact HB.out)) hb); clear HB; have HB := n0_; clear n0_; (try clear hb); (try clear hb2); (try clear hk); (try clear hi)) | ((with_reducible refine gate_callee (f := 36) rfl ?_); refine goesL_ (some 14) rfl rfl Try.func36 (by kernel_rfl) rfl #[.int .i64 t106] rfl (by (try simp only [List.map_toArray, List.map_cons, List.map_nil]); first | done | rfl | (simp only [List.length_drop, List.length_take]; rfl)) ?_; (with_reducible refine (angle_away.calls t106 t108 _ A5.out).mono ?_); rintro e w23 ⟨rfl, hb⟩; refine ⟨_, rfl, ?_⟩; have n0_ := Aside0.mk (below_step (by repeat (first | (with_reducible first | exact HB.out | apply below_alloc | apply pw_below_drewN | apply below_drew1) | exact HB.out)) hb); clear HB; have HB := n0_; clear n0_; (try clear hb); (try clear hb2); (try clear hk); (try clear hi)) | ((with_reducible refine gate_callee (f := 36) rfl ?_); refine goesL_ (some 16) rfl rfl Try.func36 (by kernel_rfl) rfl #[.int .i64 t107] rfl (by (try simp only [List.map_toArray, List.map_cons, List.map_nil]); first | done | rfl | (simp only [List.length_drop, List.length_take]; rfl)) ?_; (with_reducible refine (angle_away.calls t107 t109 _ A6.out).mono ?_); rintro e w24 ⟨rfl, hb⟩; refine ⟨_, rfl, ?_⟩; have n0_ := Aside0.mk (below_step (by repeat (first | (with_reducible first | exact HB.out | apply below_alloc | apply pw_below_drewN | apply below_drew1) | exact HB.out)) hb); clear HB; have HB := n0_; clear n0_; (try clear hb); (try clear hb2); (try clear hk); (try clear hi)) | ((with_reducible refine gate_callee (f := 36) rfl ?_); refine goesL_ (some 19) rfl rfl Try.func36 (by kernel_rfl) rfl #[.int .i64 t106] rfl (by (try simp only [List.map_toArray, List.map_cons, List.map_nil]); first | done | rfl | (simp only [List.length_drop, List.length_take]; rfl)) ?_; (with_reducible refine (angle_away.calls t106 t110 _ A8.out).mono ?_); rintro e w25 ⟨rfl, hb⟩; refine ⟨_, rfl, ?_⟩; have n0_ := Aside0.mk (below_step (by repeat (first | (with_reducible first | exact HB.out | apply below_alloc | apply pw_below_drewN | apply below_drew1) | exact HB.out)) hb); clear HB; have HB := n0_; clear n0_; (try clear hb); (try clear hb2); (try clear hk); (try clear hi)) | ((with_reducible refine gate_callee (f := 36) rfl ?_); refine goesL_ (some 21) rfl rfl Try.func36 (by kernel_rfl) rfl #[.int .i64 t107] rfl (by (try simp only [List.map_toArray, List.map_cons, List.map_nil]); first | done | rfl | (simp only [List.length_drop, List.length_take]; rfl)) ?_; (with_reducible refine (angle_away.calls t107 t111 _ A9.out).mono ?_); rintro e w26 ⟨rfl, hb⟩; refine ⟨_, rfl, ?_⟩; have n0_ := Aside0.mk (below_step (by repeat (first | (with_reducible first | exact HB.out | apply below_alloc | apply pw_below_drewN | apply below_drew1) | exact HB.out)) hb); clear HB; have HB := n0_; clear n0_; (try clear hb); (try clear hb2); (try clear hk); (try clear hi)) | ((with_reducible refine gate_callee (f := 36) rfl ?_); refine goesL_ (some 40) rfl rfl Try.func36 (by kernel_rfl) rfl #[.int .i64 t107] rfl (by (try simp only [List.map_toArray, List.map_cons, List.map_nil]); first | done | rfl | (simp only [List.length_drop, List.length_take]; rfl)) ?_; (with_reducible refine (angle_away.calls t107 t112 _ A18.out).mono ?_); rintro e w27 ⟨rfl, hb⟩; refine ⟨_, rfl, ?_⟩; have n0_ := Aside0.mk (below_step (by repeat (first | (with_reducible first | exact HB.out | apply below_alloc | apply pw_below_drewN | apply below_drew1) | exact HB.out)) hb); clear HB; have HB := n0_; clear n0_; (try clear hb); (try clear hb2); (try clear hk); (try clear hi)) | ((with_reducible refine gate_callee (f := 36) rfl ?_); refine goesL_ (some 42) rfl rfl Try.func36 (by kernel_rfl) rfl #[.int .i64 t106] rfl (by (try simp only [List.map_toArray, List.map_cons, List.map_nil]); first | done | rfl | (simp only [List.length_drop, List.length_take]; rfl)) ?_; (with_reducible refine (angle_away.calls t106 t113 _ A19.out).mono ?_); rintro e w28 ⟨rfl, hb⟩; refine ⟨_, rfl, ?_⟩; have n0_ := Aside0.mk (below_step (by repeat (first | (with_reducible first | exact HB.out | apply below_alloc | apply pw_below_drewN | apply below_drew1) | exact HB.out)) hb); clear HB; have HB := n0_; clear n0_; (try clear hb); (try clear hb2); (try clear hk); (try clear hi)))
    (try simp only [Act.put, List.setIfInBounds_toArray, List.set_cons_zero, List.set_cons_succ])
    go_cut [8] (fun v8 wc => ∃ (kq : Nat) (x8_19 : Int), v8 = .int .i64 x8_19 ∧ Aside0 (angle_Atan.j0 kq t107 t106 x8_19 = some r) ∧ Aside0 (kq ≤ k) ∧ Aside0 (Below w.heap.size w wc))
    case first =>
      have H := HC20.out
      clear HC20
      by_cases c29 : t112 > t113
      · rw [if_pos c29] at H
        have c29b0 : decide (t113 < t112) = true := decide_eq_true c29
        clear c29
        (first | rw [c29b0] | (simp only [i64_w, i32_w]; rw [c29b0]) | skip)
        have H' := Aside0.mk H
        clear H
        go_wp2
        go_meet
        case rel => exact ⟨_, (wrap64 (16384 - ((wrap64 ((wrap64 ((wrap64 (8192 * (wrap64 (Int.tdiv (wrap64 ((ji10) * 65536)) (ji7))))) * 65536)) + (wrap64 ((wrap64 (2847 * (wrap64 (Int.tdiv (wrap64 ((ji10) * 65536)) (ji7))))) * (wrap64 (65536 - (wrap64 (Int.tdiv (wrap64 ((ji10) * 65536)) (ji7))))))))) / 4294967296))), (by first | rfl | (simp; done) | (simp only [← hji7, ← hji10] <;> (first | rfl | simp)) | (simp [*]; done)), H', ⟨by first | omega | exact Nat.le_refl _⟩, ⟨by repeat (first | (with_reducible first | exact HB.out | apply below_alloc | apply pw_below_drewN | apply below_drew1) | exact HB.out)⟩⟩
      · rw [if_neg c29] at H
        have c29b0 : decide (t113 < t112) = false := decide_eq_false c29
        clear c29
        (first | rw [c29b0] | (simp only [i64_w, i32_w]; rw [c29b0]) | skip)
        have H' := Aside0.mk H
        clear H
        go_wp2
        go_meet
        case rel => exact ⟨_, ((wrap64 ((wrap64 ((wrap64 (8192 * (wrap64 (Int.tdiv (wrap64 ((ji10) * 65536)) (ji7))))) * 65536)) + (wrap64 ((wrap64 (2847 * (wrap64 (Int.tdiv (wrap64 ((ji10) * 65536)) (ji7))))) * (wrap64 (65536 - (wrap64 (Int.tdiv (wrap64 ((ji10) * 65536)) (ji7))))))))) / 4294967296), (by first | rfl | (simp; done) | (simp only [← hji7, ← hji10] <;> (first | rfl | simp)) | (simp [*]; done)), H', ⟨by first | omega | exact Nat.le_refl _⟩, ⟨by repeat (first | (with_reducible first | exact HB.out | apply below_alloc | apply pw_below_drewN | apply below_drew1) | exact HB.out)⟩⟩
    case rest =>
      clear HC20
      try clear c1
      try clear c2
      try clear p2
      try clear c3
      try clear p6
      try clear c11
      try clear c11b0
      try clear c11b1
      try clear c19
      try clear c29
      try clear c29b0
      obtain ⟨kq, x8_19, rfl, HA, HJ19, HB⟩ := hcut
      cases kq with
      | zero => exact absurd HA.out (by simp [angle_Atan.j0])
      | succ kj19 =>
        have H := HA.out
        clear HA
        simp only [angle_Atan.j0] at H
        by_cases c30 : t106 < 0
        · rw [if_pos c30] at H
          have c30b0 : decide (t106 < 0) = true := decide_eq_true c30
          clear c30
          by_cases c31 : t107 < 0
          · rw [if_pos c31] at H
            have c31b0 : decide (t107 < 0) = true := decide_eq_true c31
            clear c31
            replace H := Option.bind_eq_some_iff.mp H
            obtain ⟨t114, A320, H⟩ := H
            replace H : (some t114) = some r := H
            have A32 := Aside0.mk A320
            clear A320
            obtain rfl := Option.some.inj H
            go_wp2_with (first | ((with_reducible refine gate_callee (f := 15) rfl ?_); refine goesL_ (some 54) rfl rfl Try.func15 (by kernel_rfl) rfl #[.int .i64 (wrap64 (-(wrap64 (32768 - x8_19))))] rfl (by (try simp only [List.map_toArray, List.map_cons, List.map_nil]); first | done | rfl | (simp only [List.length_drop, List.length_take]; rfl)) ?_; (with_reducible refine (angle_Norm.calls (wrap64 (-(wrap64 (32768 - x8_19)))) t114 _ A32.out).mono ?_); rintro e w' ⟨rfl, ⟨nd, rfl⟩⟩; refine ⟨_, rfl, ?_⟩))
            go_ret
            exact ⟨by first | rfl | (simp [errW_none, errW_some] <;> rfl) | (simp only [← hji7, ← hji10]; first | rfl | (simp [errW_none, errW_some] <;> rfl)) | (simp [*, errW_none, errW_some] <;> rfl), by repeat (first | (with_reducible first | exact HB.out | apply below_alloc | apply pw_below_drewN | apply below_drew1) | exact HB.out)⟩
          · rw [if_neg c31] at H
            have c31b0 : decide (t107 < 0) = false := decide_eq_false c31
            clear c31
            obtain rfl := Option.some.inj H
            go_wp2
            go_ret
            exact ⟨by first | rfl | (simp [errW_none, errW_some] <;> rfl) | (simp only [← hji7, ← hji10]; first | rfl | (simp [errW_none, errW_some] <;> rfl)) | (simp [*, errW_none, errW_some] <;> rfl), by repeat (first | (with_reducible first | exact HB.out | apply below_alloc | apply pw_below_drewN | apply below_drew1) | exact HB.out)⟩
        · rw [if_neg c30] at H
          have c30b0 : decide (t106 < 0) = false := decide_eq_false c30
          clear c30
          by_cases c33 : t107 < 0
          · rw [if_pos c33] at H
            have c33b0 : decide (t107 < 0) = true := decide_eq_true c33
            clear c33
            replace H := Option.bind_eq_some_iff.mp H
            obtain ⟨t115, A340, H⟩ := H
            replace H : (some t115) = some r := H
            have A34 := Aside0.mk A340
            clear A340
            obtain rfl := Option.some.inj H
            go_wp2_with (first | ((with_reducible refine gate_callee (f := 15) rfl ?_); refine goesL_ (some 54) rfl rfl Try.func15 (by kernel_rfl) rfl #[.int .i64 (wrap64 (-x8_19))] rfl (by (try simp only [List.map_toArray, List.map_cons, List.map_nil]); first | done | rfl | (simp only [List.length_drop, List.length_take]; rfl)) ?_; (with_reducible refine (angle_Norm.calls (wrap64 (-x8_19)) t115 _ A34.out).mono ?_); rintro e w' ⟨rfl, ⟨nd, rfl⟩⟩; refine ⟨_, rfl, ?_⟩))
            go_ret
            exact ⟨by first | rfl | (simp [errW_none, errW_some] <;> rfl) | (simp only [← hji7, ← hji10]; first | rfl | (simp [errW_none, errW_some] <;> rfl)) | (simp [*, errW_none, errW_some] <;> rfl), by repeat (first | (with_reducible first | exact HB.out | apply below_alloc | apply pw_below_drewN | apply below_drew1) | exact HB.out)⟩
          · rw [if_neg c33] at H
            have c33b0 : decide (t107 < 0) = false := decide_eq_false c33
            clear c33
            obtain rfl := Option.some.inj H
            go_wp2
            go_ret
            exact ⟨by first | rfl | (simp [errW_none, errW_some] <;> rfl) | (simp only [← hji7, ← hji10]; first | rfl | (simp [errW_none, errW_some] <;> rfl)) | (simp [*, errW_none, errW_some] <;> rfl), by repeat (first | (with_reducible first | exact HB.out | apply below_alloc | apply pw_below_drewN | apply below_drew1) | exact HB.out)⟩

/-! ### versallaw4_known: function 16 -/
def versallaw4_known.f (k : Nat)  : Option (Bool) := (angle_Sin.f k 16384).bind fun t116 => (if t116 = 65536 then ((angle_Cos.f k 32768).bind fun t117 => (if t117 = (-65536) then ((angle_Atan.f k 1 1).bind fun t118 => (some (t118 == 8192))) else (some false))) else (some false))
theorem versallaw4_known.mono : ∀ k, LeO (versallaw4_known.f k ) (versallaw4_known.f (k + 1) ) := by
  intro  k
  unfold versallaw4_known.f
  repeat' first
      | (with_reducible exact angle_Atan.mono _ _ _)
      | (with_reducible exact angle_Cos.mono _ _)
      | (with_reducible exact angle_Sin.mono _ _)
      | (with_reducible exact LeO.refl _)
      | (with_reducible exact LeO.none _)
      | (with_reducible refine LeO.ite ?_ ?_)
      | (with_reducible refine LeO.bind ?_ (fun _ => ?_))
      | exact angle_Atan.mono _ _ _
      | exact angle_Cos.mono _ _
      | exact angle_Sin.mono _ _
      | exact LeO.none _
      | refine LeO.ite ?_ ?_
      | refine LeO.bind ?_ (fun _ => ?_)
set_option maxHeartbeats 8000000 in
set_option maxRecDepth 100000 in
theorem versallaw4_known.calls (k : Nat)  (r : Bool) (w : World) (h : versallaw4_known.f k  = some r) :
    Calls Try.prog 16 #[] w fun e w' => e = .returned (.bool r) ∧ Below w.heap.size w w' := by
  have HB := Aside0.mk (Below.refl w.heap.size w)
  have H : ((angle_Sin.f k 16384).bind fun t116 => (if t116 = 65536 then ((angle_Cos.f k 32768).bind fun t117 => (if t117 = (-65536) then ((angle_Atan.f k 1 1).bind fun t118 => (some (t118 == 8192))) else (some false))) else (some false))) = some r := h
  clear h
  replace H := Option.bind_eq_some_iff.mp H
  obtain ⟨t116, A10, H⟩ := H
  replace H : (if t116 = 65536 then ((angle_Cos.f k 32768).bind fun t117 => (if t117 = (-65536) then ((angle_Atan.f k 1 1).bind fun t118 => (some (t118 == 8192))) else (some false))) else (some false)) = some r := H
  have A1 := Aside0.mk A10
  clear A10
  by_cases c2 : t116 = 65536
  · rw [if_pos c2] at H
    have c2b0 : (t116 == 65536) = true := beq_iff_eq.mpr c2
    have c2b1 : (t116 != 65536) = false := bne_eq_false_iff_eq.mpr c2
    clear c2
    replace H := Option.bind_eq_some_iff.mp H
    obtain ⟨t117, A30, H⟩ := H
    replace H : (if t117 = (-65536) then ((angle_Atan.f k 1 1).bind fun t118 => (some (t118 == 8192))) else (some false)) = some r := H
    have A3 := Aside0.mk A30
    clear A30
    by_cases c4 : t117 = (-65536)
    · rw [if_pos c4] at H
      have c4b0 : (t117 == (-65536)) = true := beq_iff_eq.mpr c4
      have c4b1 : (t117 != (-65536)) = false := bne_eq_false_iff_eq.mpr c4
      clear c4
      replace H := Option.bind_eq_some_iff.mp H
      obtain ⟨t118, A50, H⟩ := H
      replace H : (some (t118 == 8192)) = some r := H
      have A5 := Aside0.mk A50
      clear A50
      obtain rfl := Option.some.inj H
      go_enter Try.func16, Try.ntmps16
      go_wp2_with (first | ((with_reducible refine gate_callee (f := 14) rfl ?_); refine goesL_ (some 1) rfl rfl Try.func14 (by kernel_rfl) rfl #[.int .i64 16384] rfl (by (try simp only [List.map_toArray, List.map_cons, List.map_nil]); first | done | rfl | (simp only [List.length_drop, List.length_take]; rfl)) ?_; (with_reducible refine (angle_Sin.calls k 16384 t116 _ A1.out).mono ?_); rintro e w' ⟨rfl, ⟨nd, rfl⟩⟩; refine ⟨_, rfl, ?_⟩) | (go_at_call 17; (with_reducible refine (angle_Cos.calls k 32768 t117 _ A3.out).mono ?_); rintro e w' ⟨rfl, ⟨nd, rfl⟩⟩) | (go_at_call 19; (with_reducible refine (angle_Atan.calls k 1 1 t118 _ A5.out).mono ?_); rintro e w6 ⟨rfl, hb⟩; have n0_ := Aside0.mk (below_step (by repeat (first | (with_reducible first | exact HB.out | apply below_alloc | apply pw_below_drewN | apply below_drew1) | exact HB.out)) hb); clear HB; have HB := n0_; clear n0_; (try clear hb); (try clear hb2); (try clear hk); (try clear hi)))
      go_ret
      exact ⟨by first | rfl | (simp [errW_none, errW_some] <;> rfl) | (simp [*, errW_none, errW_some] <;> rfl), by repeat (first | (with_reducible first | exact HB.out | apply below_alloc | apply pw_below_drewN | apply below_drew1) | exact HB.out)⟩
    · rw [if_neg c4] at H
      have c4b0 : (t117 == (-65536)) = false := beq_eq_false_iff_ne.mpr c4
      have c4b1 : (t117 != (-65536)) = true := bne_iff_ne.mpr c4
      obtain rfl := Option.some.inj H
      go_enter Try.func16, Try.ntmps16
      go_wp2_with (first | ((with_reducible refine gate_callee (f := 14) rfl ?_); refine goesL_ (some 1) rfl rfl Try.func14 (by kernel_rfl) rfl #[.int .i64 16384] rfl (by (try simp only [List.map_toArray, List.map_cons, List.map_nil]); first | done | rfl | (simp only [List.length_drop, List.length_take]; rfl)) ?_; (with_reducible refine (angle_Sin.calls k 16384 t116 _ A1.out).mono ?_); rintro e w' ⟨rfl, ⟨nd, rfl⟩⟩; refine ⟨_, rfl, ?_⟩) | (go_at_call 17; (with_reducible refine (angle_Cos.calls k 32768 t117 _ A3.out).mono ?_); rintro e w' ⟨rfl, ⟨nd, rfl⟩⟩))
      go_ret
      exact ⟨by first | rfl | (simp [errW_none, errW_some] <;> rfl) | (simp [*, errW_none, errW_some] <;> rfl), by repeat (first | (with_reducible first | exact HB.out | apply below_alloc | apply pw_below_drewN | apply below_drew1) | exact HB.out)⟩
  · rw [if_neg c2] at H
    have c2b0 : (t116 == 65536) = false := beq_eq_false_iff_ne.mpr c2
    have c2b1 : (t116 != 65536) = true := bne_iff_ne.mpr c2
    obtain rfl := Option.some.inj H
    go_enter Try.func16, Try.ntmps16
    go_wp2_with (first | ((with_reducible refine gate_callee (f := 14) rfl ?_); refine goesL_ (some 1) rfl rfl Try.func14 (by kernel_rfl) rfl #[.int .i64 16384] rfl (by (try simp only [List.map_toArray, List.map_cons, List.map_nil]); first | done | rfl | (simp only [List.length_drop, List.length_take]; rfl)) ?_; (with_reducible refine (angle_Sin.calls k 16384 t116 _ A1.out).mono ?_); rintro e w' ⟨rfl, ⟨nd, rfl⟩⟩; refine ⟨_, rfl, ?_⟩))
    go_ret
    exact ⟨by first | rfl | (simp [errW_none, errW_some] <;> rfl) | (simp [*, errW_none, errW_some] <;> rfl), by repeat (first | (with_reducible first | exact HB.out | apply below_alloc | apply pw_below_drewN | apply below_drew1) | exact HB.out)⟩

/-! ### versalhand_Pick: function 22 -/
def versalhand_Pick.f (a0 : Int) (a1 : Int) : Option (Int) := if a1 = 0 then (none) else (if (Int.tmod a0 a1) < 0 then (some (wrap64 ((Int.tmod a0 a1) + a1))) else (some (Int.tmod a0 a1)))
set_option maxHeartbeats 8000000 in
set_option maxRecDepth 100000 in
theorem versalhand_Pick.calls (a0 : Int) (a1 : Int) (r : Int) (w : World) (h : versalhand_Pick.f a0 a1 = some r) :
    Calls Try.prog 22 #[.int .i64 a0, .int .i64 a1] w fun e w' => e = .returned (.int .i64 r) ∧ Drawn0 w w' := by
  have H : (if a1 = 0 then (none) else (if (Int.tmod a0 a1) < 0 then (some (wrap64 ((Int.tmod a0 a1) + a1))) else (some (Int.tmod a0 a1)))) = some r := h
  clear h
  by_cases c3 : a1 = 0
  · rw [if_pos c3] at H
    exact absurd H (by simp)
  · rw [if_neg c3] at H
    have c3b0 : (a1 == 0) = false := beq_eq_false_iff_ne.mpr c3
    have c3b1 : (a1 != 0) = true := bne_iff_ne.mpr c3
    by_cases c4 : (Int.tmod a0 a1) < 0
    · rw [if_pos c4] at H
      have c4b0 : decide ((Int.tmod a0 a1) < 0) = true := decide_eq_true c4
      clear c4
      obtain rfl := Option.some.inj H
      go_enter Try.func22, Try.ntmps22
      go_wp2
      go_ret
      exact ⟨by first | rfl | (simp; done) | (simp [*]; done), by repeat (first | exact Drawn0.refl _ | apply Drawn0.step)⟩
    · rw [if_neg c4] at H
      have c4b0 : decide ((Int.tmod a0 a1) < 0) = false := decide_eq_false c4
      clear c4
      obtain rfl := Option.some.inj H
      go_enter Try.func22, Try.ntmps22
      go_wp2
      go_ret
      exact ⟨by first | rfl | (simp; done) | (simp [*]; done), by repeat (first | exact Drawn0.refl _ | apply Drawn0.step)⟩

/-! ### versalhand_Num: function 18 -/
def versalhand_Num.f (a0 : Int) : Option (Int) := (versalhand_Pick.f a0 8).bind fun t119 => (if t119 = 0 then (some a0) else (if t119 = 1 then ((versalhand_Pick.f (wrap64 (Int.tdiv a0 8)) 2001).bind fun t120 => (some (wrap64 ((wrap64 (t120 - 1000)) * 65536)))) else (if t119 = 2 then ((versalhand_Pick.f (wrap64 (Int.tdiv a0 8)) 9).bind fun t121 => (some (wrap64 (t121 - 4)))) else (if t119 = 3 then ((versalhand_Pick.f (wrap64 (Int.tdiv a0 8)) 9).bind fun t122 => (some (wrap64 ((wrap64 (t122 - 4)) * 32768)))) else ((versalhand_Pick.f (wrap64 (Int.tdiv a0 8)) 1310720).bind fun t123 => (some (wrap64 (t123 - 655360))))))))
set_option maxHeartbeats 8000000 in
set_option maxRecDepth 100000 in
theorem versalhand_Num.calls (a0 : Int) (r : Int) (w : World) (h : versalhand_Num.f a0 = some r) :
    Calls Try.prog 18 #[.int .i64 a0] w fun e w' => e = .returned (.int .i64 r) ∧ Drawn0 w w' := by
  have H : ((versalhand_Pick.f a0 8).bind fun t119 => (if t119 = 0 then (some a0) else (if t119 = 1 then ((versalhand_Pick.f (wrap64 (Int.tdiv a0 8)) 2001).bind fun t120 => (some (wrap64 ((wrap64 (t120 - 1000)) * 65536)))) else (if t119 = 2 then ((versalhand_Pick.f (wrap64 (Int.tdiv a0 8)) 9).bind fun t121 => (some (wrap64 (t121 - 4)))) else (if t119 = 3 then ((versalhand_Pick.f (wrap64 (Int.tdiv a0 8)) 9).bind fun t122 => (some (wrap64 ((wrap64 (t122 - 4)) * 32768)))) else ((versalhand_Pick.f (wrap64 (Int.tdiv a0 8)) 1310720).bind fun t123 => (some (wrap64 (t123 - 655360))))))))) = some r := h
  clear h
  replace H := Option.bind_eq_some_iff.mp H
  obtain ⟨t119, A20, H⟩ := H
  replace H : (if t119 = 0 then (some a0) else (if t119 = 1 then ((versalhand_Pick.f (wrap64 (Int.tdiv a0 8)) 2001).bind fun t120 => (some (wrap64 ((wrap64 (t120 - 1000)) * 65536)))) else (if t119 = 2 then ((versalhand_Pick.f (wrap64 (Int.tdiv a0 8)) 9).bind fun t121 => (some (wrap64 (t121 - 4)))) else (if t119 = 3 then ((versalhand_Pick.f (wrap64 (Int.tdiv a0 8)) 9).bind fun t122 => (some (wrap64 ((wrap64 (t122 - 4)) * 32768)))) else ((versalhand_Pick.f (wrap64 (Int.tdiv a0 8)) 1310720).bind fun t123 => (some (wrap64 (t123 - 655360)))))))) = some r := H
  have A2 := Aside0.mk A20
  clear A20
  by_cases c3 : t119 = 0
  · rw [if_pos c3] at H
    have c3b0 : (t119 == 0) = true := beq_iff_eq.mpr c3
    have c3b1 : (t119 != 0) = false := bne_eq_false_iff_eq.mpr c3
    clear c3
    obtain rfl := Option.some.inj H
    go_enter Try.func18, Try.ntmps18
    go_wp2_with (first | ((with_reducible refine gate_callee (f := 22) rfl ?_); refine goesL_ (some 4) rfl rfl Try.func22 (by kernel_rfl) rfl #[.int .i64 a0, .int .i64 8] rfl (by (try simp only [List.map_toArray, List.map_cons, List.map_nil]); first | done | rfl | (simp only [List.length_drop, List.length_take]; rfl)) ?_; (with_reducible refine (versalhand_Pick.calls a0 8 t119 _ A2.out).mono ?_); rintro e w' ⟨rfl, ⟨nd, rfl⟩⟩; refine ⟨_, rfl, ?_⟩))
    go_ret
    exact ⟨by first | rfl | (simp; done) | (simp [*]; done), by repeat (first | exact Drawn0.refl _ | apply Drawn0.step)⟩
  · rw [if_neg c3] at H
    have c3b0 : (t119 == 0) = false := beq_eq_false_iff_ne.mpr c3
    have c3b1 : (t119 != 0) = true := bne_iff_ne.mpr c3
    by_cases c4 : t119 = 1
    · rw [if_pos c4] at H
      have c4b0 : (t119 == 1) = true := beq_iff_eq.mpr c4
      have c4b1 : (t119 != 1) = false := bne_eq_false_iff_eq.mpr c4
      clear c4
      replace H := Option.bind_eq_some_iff.mp H
      obtain ⟨t120, A50, H⟩ := H
      replace H : (some (wrap64 ((wrap64 (t120 - 1000)) * 65536))) = some r := H
      have A5 := Aside0.mk A50
      clear A50
      obtain rfl := Option.some.inj H
      go_enter Try.func18, Try.ntmps18
      go_wp2_with (first | ((with_reducible refine gate_callee (f := 22) rfl ?_); refine goesL_ (some 4) rfl rfl Try.func22 (by kernel_rfl) rfl #[.int .i64 a0, .int .i64 8] rfl (by (try simp only [List.map_toArray, List.map_cons, List.map_nil]); first | done | rfl | (simp only [List.length_drop, List.length_take]; rfl)) ?_; (with_reducible refine (versalhand_Pick.calls a0 8 t119 _ A2.out).mono ?_); rintro e w' ⟨rfl, ⟨nd, rfl⟩⟩; refine ⟨_, rfl, ?_⟩) | ((with_reducible refine gate_callee (f := 22) rfl ?_); refine goesL_ (some 12) rfl rfl Try.func22 (by kernel_rfl) rfl #[.int .i64 (wrap64 (Int.tdiv a0 8)), .int .i64 2001] rfl (by (try simp only [List.map_toArray, List.map_cons, List.map_nil]); first | done | rfl | (simp only [List.length_drop, List.length_take]; rfl)) ?_; (with_reducible refine (versalhand_Pick.calls (wrap64 (Int.tdiv a0 8)) 2001 t120 _ A5.out).mono ?_); rintro e w' ⟨rfl, ⟨nd, rfl⟩⟩; refine ⟨_, rfl, ?_⟩))
      go_ret
      exact ⟨by first | rfl | (simp; done) | (simp [*]; done), by repeat (first | exact Drawn0.refl _ | apply Drawn0.step)⟩
    · rw [if_neg c4] at H
      have c4b0 : (t119 == 1) = false := beq_eq_false_iff_ne.mpr c4
      have c4b1 : (t119 != 1) = true := bne_iff_ne.mpr c4
      by_cases c6 : t119 = 2
      · rw [if_pos c6] at H
        have c6b0 : (t119 == 2) = true := beq_iff_eq.mpr c6
        have c6b1 : (t119 != 2) = false := bne_eq_false_iff_eq.mpr c6
        clear c6
        replace H := Option.bind_eq_some_iff.mp H
        obtain ⟨t121, A70, H⟩ := H
        replace H : (some (wrap64 (t121 - 4))) = some r := H
        have A7 := Aside0.mk A70
        clear A70
        obtain rfl := Option.some.inj H
        go_enter Try.func18, Try.ntmps18
        go_wp2_with (first | ((with_reducible refine gate_callee (f := 22) rfl ?_); refine goesL_ (some 4) rfl rfl Try.func22 (by kernel_rfl) rfl #[.int .i64 a0, .int .i64 8] rfl (by (try simp only [List.map_toArray, List.map_cons, List.map_nil]); first | done | rfl | (simp only [List.length_drop, List.length_take]; rfl)) ?_; (with_reducible refine (versalhand_Pick.calls a0 8 t119 _ A2.out).mono ?_); rintro e w' ⟨rfl, ⟨nd, rfl⟩⟩; refine ⟨_, rfl, ?_⟩) | ((with_reducible refine gate_callee (f := 22) rfl ?_); refine goesL_ (some 19) rfl rfl Try.func22 (by kernel_rfl) rfl #[.int .i64 (wrap64 (Int.tdiv a0 8)), .int .i64 9] rfl (by (try simp only [List.map_toArray, List.map_cons, List.map_nil]); first | done | rfl | (simp only [List.length_drop, List.length_take]; rfl)) ?_; (with_reducible refine (versalhand_Pick.calls (wrap64 (Int.tdiv a0 8)) 9 t121 _ A7.out).mono ?_); rintro e w' ⟨rfl, ⟨nd, rfl⟩⟩; refine ⟨_, rfl, ?_⟩))
        go_ret
        exact ⟨by first | rfl | (simp; done) | (simp [*]; done), by repeat (first | exact Drawn0.refl _ | apply Drawn0.step)⟩
      · rw [if_neg c6] at H
        have c6b0 : (t119 == 2) = false := beq_eq_false_iff_ne.mpr c6
        have c6b1 : (t119 != 2) = true := bne_iff_ne.mpr c6
        by_cases c8 : t119 = 3
        · rw [if_pos c8] at H
          have c8b0 : (t119 == 3) = true := beq_iff_eq.mpr c8
          have c8b1 : (t119 != 3) = false := bne_eq_false_iff_eq.mpr c8
          clear c8
          replace H := Option.bind_eq_some_iff.mp H
          obtain ⟨t122, A90, H⟩ := H
          replace H : (some (wrap64 ((wrap64 (t122 - 4)) * 32768))) = some r := H
          have A9 := Aside0.mk A90
          clear A90
          obtain rfl := Option.some.inj H
          go_enter Try.func18, Try.ntmps18
          go_wp2_with (first | ((with_reducible refine gate_callee (f := 22) rfl ?_); refine goesL_ (some 4) rfl rfl Try.func22 (by kernel_rfl) rfl #[.int .i64 a0, .int .i64 8] rfl (by (try simp only [List.map_toArray, List.map_cons, List.map_nil]); first | done | rfl | (simp only [List.length_drop, List.length_take]; rfl)) ?_; (with_reducible refine (versalhand_Pick.calls a0 8 t119 _ A2.out).mono ?_); rintro e w' ⟨rfl, ⟨nd, rfl⟩⟩; refine ⟨_, rfl, ?_⟩) | ((with_reducible refine gate_callee (f := 22) rfl ?_); refine goesL_ (some 25) rfl rfl Try.func22 (by kernel_rfl) rfl #[.int .i64 (wrap64 (Int.tdiv a0 8)), .int .i64 9] rfl (by (try simp only [List.map_toArray, List.map_cons, List.map_nil]); first | done | rfl | (simp only [List.length_drop, List.length_take]; rfl)) ?_; (with_reducible refine (versalhand_Pick.calls (wrap64 (Int.tdiv a0 8)) 9 t122 _ A9.out).mono ?_); rintro e w' ⟨rfl, ⟨nd, rfl⟩⟩; refine ⟨_, rfl, ?_⟩))
          go_ret
          exact ⟨by first | rfl | (simp; done) | (simp [*]; done), by repeat (first | exact Drawn0.refl _ | apply Drawn0.step)⟩
        · rw [if_neg c8] at H
          have c8b0 : (t119 == 3) = false := beq_eq_false_iff_ne.mpr c8
          have c8b1 : (t119 != 3) = true := bne_iff_ne.mpr c8
          replace H := Option.bind_eq_some_iff.mp H
          obtain ⟨t123, A100, H⟩ := H
          replace H : (some (wrap64 (t123 - 655360))) = some r := H
          have A10 := Aside0.mk A100
          clear A100
          obtain rfl := Option.some.inj H
          go_enter Try.func18, Try.ntmps18
          go_wp2_with (first | ((with_reducible refine gate_callee (f := 22) rfl ?_); refine goesL_ (some 4) rfl rfl Try.func22 (by kernel_rfl) rfl #[.int .i64 a0, .int .i64 8] rfl (by (try simp only [List.map_toArray, List.map_cons, List.map_nil]); first | done | rfl | (simp only [List.length_drop, List.length_take]; rfl)) ?_; (with_reducible refine (versalhand_Pick.calls a0 8 t119 _ A2.out).mono ?_); rintro e w' ⟨rfl, ⟨nd, rfl⟩⟩; refine ⟨_, rfl, ?_⟩) | ((with_reducible refine gate_callee (f := 22) rfl ?_); refine goesL_ (some 30) rfl rfl Try.func22 (by kernel_rfl) rfl #[.int .i64 (wrap64 (Int.tdiv a0 8)), .int .i64 1310720] rfl (by (try simp only [List.map_toArray, List.map_cons, List.map_nil]); first | done | rfl | (simp only [List.length_drop, List.length_take]; rfl)) ?_; (with_reducible refine (versalhand_Pick.calls (wrap64 (Int.tdiv a0 8)) 1310720 t123 _ A10.out).mono ?_); rintro e w' ⟨rfl, ⟨nd, rfl⟩⟩; refine ⟨_, rfl, ?_⟩))
          go_ret
          exact ⟨by first | rfl | (simp; done) | (simp [*]; done), by repeat (first | exact Drawn0.refl _ | apply Drawn0.step)⟩

/-! ### fixed_floored: function 53 -/
def fixed_floored.f (a0 : Int) (a1 : Int) : Option (Int) := if a1 = 0 then (none) else (if (Int.tmod a0 a1) = 0 then (some (wrap64 (Int.tdiv a0 a1))) else (if ((decide (a0 < 0)) != (decide (a1 < 0))) = true then (some (wrap64 ((wrap64 (Int.tdiv a0 a1)) - 1))) else (some (wrap64 (Int.tdiv a0 a1)))))
set_option maxHeartbeats 8000000 in
set_option maxRecDepth 100000 in
theorem fixed_floored.calls (a0 : Int) (a1 : Int) (r : Int) (w : World) (h : fixed_floored.f a0 a1 = some r) :
    Calls Try.prog 53 #[.int .i64 a0, .int .i64 a1] w fun e w' => e = .returned (.int .i64 r) ∧ Drawn0 w w' := by
  have H : (if a1 = 0 then (none) else (if (Int.tmod a0 a1) = 0 then (some (wrap64 (Int.tdiv a0 a1))) else (if ((decide (a0 < 0)) != (decide (a1 < 0))) = true then (some (wrap64 ((wrap64 (Int.tdiv a0 a1)) - 1))) else (some (wrap64 (Int.tdiv a0 a1)))))) = some r := h
  clear h
  by_cases c3 : a1 = 0
  · rw [if_pos c3] at H
    exact absurd H (by simp)
  · rw [if_neg c3] at H
    have c3b0 : (a1 == 0) = false := beq_eq_false_iff_ne.mpr c3
    have c3b1 : (a1 != 0) = true := bne_iff_ne.mpr c3
    by_cases c4 : (Int.tmod a0 a1) = 0
    · rw [if_pos c4] at H
      have c4b0 : ((Int.tmod a0 a1) == 0) = true := beq_iff_eq.mpr c4
      have c4b1 : ((Int.tmod a0 a1) != 0) = false := bne_eq_false_iff_eq.mpr c4
      clear c4
      obtain rfl := Option.some.inj H
      go_enter Try.func53, Try.ntmps53
      go_wp2
      go_ret
      exact ⟨by first | rfl | (simp; done) | (simp [*]; done), by repeat (first | exact Drawn0.refl _ | apply Drawn0.step)⟩
    · rw [if_neg c4] at H
      have c4b0 : ((Int.tmod a0 a1) == 0) = false := beq_eq_false_iff_ne.mpr c4
      have c4b1 : ((Int.tmod a0 a1) != 0) = true := bne_iff_ne.mpr c4
      by_cases c5 : ((decide (a0 < 0)) != (decide (a1 < 0))) = true
      · rw [if_pos c5] at H
        have c5b0 : ((decide (a0 < 0)) != (decide (a1 < 0))) = true := c5
        (try (have c5b1 : decide ((decide (a0 < 0)) = (decide (a1 < 0))) = false := by simpa using c5))
        (try (have c5b2 : ((decide (a0 < 0)) == (decide (a1 < 0))) = false := by simpa using c5))
        (try (have c5b3 : ¬ ((decide (a0 < 0)) = (decide (a1 < 0))) := by simpa using c5))
        clear c5
        obtain rfl := Option.some.inj H
        go_enter Try.func53, Try.ntmps53
        go_wp2
        go_ret
        exact ⟨by first | rfl | (simp; done) | (simp [*]; done), by repeat (first | exact Drawn0.refl _ | apply Drawn0.step)⟩
      · rw [if_neg c5] at H
        have c5b0 : ((decide (a0 < 0)) != (decide (a1 < 0))) = false := by simpa using c5
        (try (have c5b1 : decide ((decide (a0 < 0)) = (decide (a1 < 0))) = true := by simpa using c5))
        (try (have c5b2 : ((decide (a0 < 0)) == (decide (a1 < 0))) = true := by simpa using c5))
        clear c5
        obtain rfl := Option.some.inj H
        go_enter Try.func53, Try.ntmps53
        go_wp2
        go_ret
        exact ⟨by first | rfl | (simp; done) | (simp [*]; done), by repeat (first | exact Drawn0.refl _ | apply Drawn0.step)⟩

/-! ### fixed_Div: function 41 -/
def fixed_Div.f (a0 : Int) (a1 : Int) : Option (Int) := (fixed_Clip.f a0).bind fun t124 => ((fixed_Clip.f a1).bind fun t125 => (if t125 = 0 then (if t124 > 0 then (some 2147483647) else (if t124 < 0 then (some (-2147483647)) else (some 0))) else ((fixed_floored.f (wrap64 (t124 * 65536)) t125).bind fun t126 => ((fixed_Clip.f t126).bind fun t127 => (some t127)))))
set_option maxHeartbeats 8000000 in
set_option maxRecDepth 100000 in
theorem fixed_Div.calls (a0 : Int) (a1 : Int) (r : Int) (w : World) (h : fixed_Div.f a0 a1 = some r) :
    Calls Try.prog 41 #[.int .i64 a0, .int .i64 a1] w fun e w' => e = .returned (.int .i64 r) ∧ Below w.heap.size w w' := by
  have HB := Aside0.mk (Below.refl w.heap.size w)
  have H : ((fixed_Clip.f a0).bind fun t124 => ((fixed_Clip.f a1).bind fun t125 => (if t125 = 0 then (if t124 > 0 then (some 2147483647) else (if t124 < 0 then (some (-2147483647)) else (some 0))) else ((fixed_floored.f (wrap64 (t124 * 65536)) t125).bind fun t126 => ((fixed_Clip.f t126).bind fun t127 => (some t127)))))) = some r := h
  clear h
  replace H := Option.bind_eq_some_iff.mp H
  obtain ⟨t124, A30, H⟩ := H
  replace H : ((fixed_Clip.f a1).bind fun t125 => (if t125 = 0 then (if t124 > 0 then (some 2147483647) else (if t124 < 0 then (some (-2147483647)) else (some 0))) else ((fixed_floored.f (wrap64 (t124 * 65536)) t125).bind fun t126 => ((fixed_Clip.f t126).bind fun t127 => (some t127))))) = some r := H
  have A3 := Aside0.mk A30
  clear A30
  replace H := Option.bind_eq_some_iff.mp H
  obtain ⟨t125, A40, H⟩ := H
  replace H : (if t125 = 0 then (if t124 > 0 then (some 2147483647) else (if t124 < 0 then (some (-2147483647)) else (some 0))) else ((fixed_floored.f (wrap64 (t124 * 65536)) t125).bind fun t126 => ((fixed_Clip.f t126).bind fun t127 => (some t127)))) = some r := H
  have A4 := Aside0.mk A40
  clear A40
  by_cases c5 : t125 = 0
  · rw [if_pos c5] at H
    have c5b0 : (t125 == 0) = true := beq_iff_eq.mpr c5
    have c5b1 : (t125 != 0) = false := bne_eq_false_iff_eq.mpr c5
    clear c5
    by_cases c6 : t124 > 0
    · rw [if_pos c6] at H
      have c6b0 : decide (0 < t124) = true := decide_eq_true c6
      clear c6
      obtain rfl := Option.some.inj H
      go_enter Try.func41, Try.ntmps41
      go_wp2_with (first | ((with_reducible refine gate_callee (f := 35) rfl ?_); refine goesL_ (some 6) rfl rfl Try.func35 (by kernel_rfl) rfl #[.int .i64 a0] rfl (by (try simp only [List.map_toArray, List.map_cons, List.map_nil]); first | done | rfl | (simp only [List.length_drop, List.length_take]; rfl)) ?_; (with_reducible refine (fixed_Clip.calls a0 t124 _ A3.out).mono ?_); rintro e w7 ⟨rfl, hb⟩; refine ⟨_, rfl, ?_⟩; have n0_ := Aside0.mk (below_step (by repeat (first | (with_reducible first | exact HB.out | apply below_alloc | apply pw_below_drewN | apply below_drew1) | exact HB.out)) hb); clear HB; have HB := n0_; clear n0_; (try clear hb); (try clear hb2); (try clear hk); (try clear hi)) | ((with_reducible refine gate_callee (f := 35) rfl ?_); refine goesL_ (some 8) rfl rfl Try.func35 (by kernel_rfl) rfl #[.int .i64 a1] rfl (by (try simp only [List.map_toArray, List.map_cons, List.map_nil]); first | done | rfl | (simp only [List.length_drop, List.length_take]; rfl)) ?_; (with_reducible refine (fixed_Clip.calls a1 t125 _ A4.out).mono ?_); rintro e w8 ⟨rfl, hb⟩; refine ⟨_, rfl, ?_⟩; have n0_ := Aside0.mk (below_step (by repeat (first | (with_reducible first | exact HB.out | apply below_alloc | apply pw_below_drewN | apply below_drew1) | exact HB.out)) hb); clear HB; have HB := n0_; clear n0_; (try clear hb); (try clear hb2); (try clear hk); (try clear hi)))
      go_ret
      exact ⟨by first | rfl | (simp [errW_none, errW_some] <;> rfl) | (simp [*, errW_none, errW_some] <;> rfl), by repeat (first | (with_reducible first | exact HB.out | apply below_alloc | apply pw_below_drewN | apply below_drew1) | exact HB.out)⟩
    · rw [if_neg c6] at H
      have c6b0 : decide (0 < t124) = false := decide_eq_false c6
      clear c6
      by_cases c9 : t124 < 0
      · rw [if_pos c9] at H
        have c9b0 : decide (t124 < 0) = true := decide_eq_true c9
        clear c9
        obtain rfl := Option.some.inj H
        go_enter Try.func41, Try.ntmps41
        go_wp2_with (first | ((with_reducible refine gate_callee (f := 35) rfl ?_); refine goesL_ (some 6) rfl rfl Try.func35 (by kernel_rfl) rfl #[.int .i64 a0] rfl (by (try simp only [List.map_toArray, List.map_cons, List.map_nil]); first | done | rfl | (simp only [List.length_drop, List.length_take]; rfl)) ?_; (with_reducible refine (fixed_Clip.calls a0 t124 _ A3.out).mono ?_); rintro e w10 ⟨rfl, hb⟩; refine ⟨_, rfl, ?_⟩; have n0_ := Aside0.mk (below_step (by repeat (first | (with_reducible first | exact HB.out | apply below_alloc | apply pw_below_drewN | apply below_drew1) | exact HB.out)) hb); clear HB; have HB := n0_; clear n0_; (try clear hb); (try clear hb2); (try clear hk); (try clear hi)) | ((with_reducible refine gate_callee (f := 35) rfl ?_); refine goesL_ (some 8) rfl rfl Try.func35 (by kernel_rfl) rfl #[.int .i64 a1] rfl (by (try simp only [List.map_toArray, List.map_cons, List.map_nil]); first | done | rfl | (simp only [List.length_drop, List.length_take]; rfl)) ?_; (with_reducible refine (fixed_Clip.calls a1 t125 _ A4.out).mono ?_); rintro e w11 ⟨rfl, hb⟩; refine ⟨_, rfl, ?_⟩; have n0_ := Aside0.mk (below_step (by repeat (first | (with_reducible first | exact HB.out | apply below_alloc | apply pw_below_drewN | apply below_drew1) | exact HB.out)) hb); clear HB; have HB := n0_; clear n0_; (try clear hb); (try clear hb2); (try clear hk); (try clear hi)))
        go_ret
        exact ⟨by first | rfl | (simp [errW_none, errW_some] <;> rfl) | (simp [*, errW_none, errW_some] <;> rfl), by repeat (first | (with_reducible first | exact HB.out | apply below_alloc | apply pw_below_drewN | apply below_drew1) | exact HB.out)⟩
      · rw [if_neg c9] at H
        have c9b0 : decide (t124 < 0) = false := decide_eq_false c9
        clear c9
        obtain rfl := Option.some.inj H
        go_enter Try.func41, Try.ntmps41
        go_wp2_with (first | ((with_reducible refine gate_callee (f := 35) rfl ?_); refine goesL_ (some 6) rfl rfl Try.func35 (by kernel_rfl) rfl #[.int .i64 a0] rfl (by (try simp only [List.map_toArray, List.map_cons, List.map_nil]); first | done | rfl | (simp only [List.length_drop, List.length_take]; rfl)) ?_; (with_reducible refine (fixed_Clip.calls a0 t124 _ A3.out).mono ?_); rintro e w12 ⟨rfl, hb⟩; refine ⟨_, rfl, ?_⟩; have n0_ := Aside0.mk (below_step (by repeat (first | (with_reducible first | exact HB.out | apply below_alloc | apply pw_below_drewN | apply below_drew1) | exact HB.out)) hb); clear HB; have HB := n0_; clear n0_; (try clear hb); (try clear hb2); (try clear hk); (try clear hi)) | ((with_reducible refine gate_callee (f := 35) rfl ?_); refine goesL_ (some 8) rfl rfl Try.func35 (by kernel_rfl) rfl #[.int .i64 a1] rfl (by (try simp only [List.map_toArray, List.map_cons, List.map_nil]); first | done | rfl | (simp only [List.length_drop, List.length_take]; rfl)) ?_; (with_reducible refine (fixed_Clip.calls a1 t125 _ A4.out).mono ?_); rintro e w13 ⟨rfl, hb⟩; refine ⟨_, rfl, ?_⟩; have n0_ := Aside0.mk (below_step (by repeat (first | (with_reducible first | exact HB.out | apply below_alloc | apply pw_below_drewN | apply below_drew1) | exact HB.out)) hb); clear HB; have HB := n0_; clear n0_; (try clear hb); (try clear hb2); (try clear hk); (try clear hi)))
        go_ret
        exact ⟨by first | rfl | (simp [errW_none, errW_some] <;> rfl) | (simp [*, errW_none, errW_some] <;> rfl), by repeat (first | (with_reducible first | exact HB.out | apply below_alloc | apply pw_below_drewN | apply below_drew1) | exact HB.out)⟩
  · rw [if_neg c5] at H
    have c5b0 : (t125 == 0) = false := beq_eq_false_iff_ne.mpr c5
    have c5b1 : (t125 != 0) = true := bne_iff_ne.mpr c5
    replace H := Option.bind_eq_some_iff.mp H
    obtain ⟨t126, A140, H⟩ := H
    replace H : ((fixed_Clip.f t126).bind fun t127 => (some t127)) = some r := H
    have A14 := Aside0.mk A140
    clear A140
    replace H := Option.bind_eq_some_iff.mp H
    obtain ⟨t127, A150, H⟩ := H
    replace H : (some t127) = some r := H
    have A15 := Aside0.mk A150
    clear A150
    obtain rfl := Option.some.inj H
    go_enter Try.func41, Try.ntmps41
    go_wp2_with (first | ((with_reducible refine gate_callee (f := 35) rfl ?_); refine goesL_ (some 6) rfl rfl Try.func35 (by kernel_rfl) rfl #[.int .i64 a0] rfl (by (try simp only [List.map_toArray, List.map_cons, List.map_nil]); first | done | rfl | (simp only [List.length_drop, List.length_take]; rfl)) ?_; (with_reducible refine (fixed_Clip.calls a0 t124 _ A3.out).mono ?_); rintro e w16 ⟨rfl, hb⟩; refine ⟨_, rfl, ?_⟩; have n0_ := Aside0.mk (below_step (by repeat (first | (with_reducible first | exact HB.out | apply below_alloc | apply pw_below_drewN | apply below_drew1) | exact HB.out)) hb); clear HB; have HB := n0_; clear n0_; (try clear hb); (try clear hb2); (try clear hk); (try clear hi)) | ((with_reducible refine gate_callee (f := 35) rfl ?_); refine goesL_ (some 8) rfl rfl Try.func35 (by kernel_rfl) rfl #[.int .i64 a1] rfl (by (try simp only [List.map_toArray, List.map_cons, List.map_nil]); first | done | rfl | (simp only [List.length_drop, List.length_take]; rfl)) ?_; (with_reducible refine (fixed_Clip.calls a1 t125 _ A4.out).mono ?_); rintro e w17 ⟨rfl, hb⟩; refine ⟨_, rfl, ?_⟩; have n0_ := Aside0.mk (below_step (by repeat (first | (with_reducible first | exact HB.out | apply below_alloc | apply pw_below_drewN | apply below_drew1) | exact HB.out)) hb); clear HB; have HB := n0_; clear n0_; (try clear hb); (try clear hb2); (try clear hk); (try clear hi)) | ((with_reducible refine gate_callee (f := 53) rfl ?_); refine goesL_ (some 15) rfl rfl Try.func53 (by kernel_rfl) rfl #[.int .i64 (wrap64 (t124 * 65536)), .int .i64 t125] rfl (by (try simp only [List.map_toArray, List.map_cons, List.map_nil]); first | done | rfl | (simp only [List.length_drop, List.length_take]; rfl)) ?_; (with_reducible refine (fixed_floored.calls (wrap64 (t124 * 65536)) t125 t126 _ A14.out).mono ?_); rintro e w' ⟨rfl, ⟨nd, rfl⟩⟩; refine ⟨_, rfl, ?_⟩) | ((with_reducible refine gate_callee (f := 35) rfl ?_); refine goesL_ (some 16) rfl rfl Try.func35 (by kernel_rfl) rfl #[.int .i64 t126] rfl (by (try simp only [List.map_toArray, List.map_cons, List.map_nil]); first | done | rfl | (simp only [List.length_drop, List.length_take]; rfl)) ?_; (with_reducible refine (fixed_Clip.calls t126 t127 _ A15.out).mono ?_); rintro e w18 ⟨rfl, hb⟩; refine ⟨_, rfl, ?_⟩; have n0_ := Aside0.mk (below_step (by repeat (first | (with_reducible first | exact HB.out | apply below_alloc | apply pw_below_drewN | apply below_drew1) | exact HB.out)) hb); clear HB; have HB := n0_; clear n0_; (try clear hb); (try clear hb2); (try clear hk); (try clear hi)))
    go_ret
    exact ⟨by first | rfl | (simp [errW_none, errW_some] <;> rfl) | (simp [*, errW_none, errW_some] <;> rfl), by repeat (first | (with_reducible first | exact HB.out | apply below_alloc | apply pw_below_drewN | apply below_drew1) | exact HB.out)⟩

/-! ### angle_Tan: function 24 -/
def angle_Tan.f (k : Nat) (a0 : Int) : Option (Int) := (angle_Sin.f k a0).bind fun t128 => ((angle_Cos.f k a0).bind fun t129 => ((fixed_Div.f t128 t129).bind fun t130 => (some t130)))
theorem angle_Tan.mono : ∀ a0 k, LeO (angle_Tan.f k a0) (angle_Tan.f (k + 1) a0) := by
  intro a0 k
  unfold angle_Tan.f
  repeat' first
      | (with_reducible exact angle_Cos.mono _ _)
      | (with_reducible exact angle_Sin.mono _ _)
      | (with_reducible exact LeO.refl _)
      | (with_reducible exact LeO.none _)
      | (with_reducible refine LeO.ite ?_ ?_)
      | (with_reducible refine LeO.bind ?_ (fun _ => ?_))
      | exact angle_Cos.mono _ _
      | exact angle_Sin.mono _ _
      | exact LeO.none _
      | refine LeO.ite ?_ ?_
      | refine LeO.bind ?_ (fun _ => ?_)
set_option maxHeartbeats 8000000 in
set_option maxRecDepth 100000 in
theorem angle_Tan.calls (k : Nat) (a0 : Int) (r : Int) (w : World) (h : angle_Tan.f k a0 = some r) :
    Calls Try.prog 24 #[.int .i64 a0] w fun e w' => e = .returned (.int .i64 r) ∧ Below w.heap.size w w' := by
  have HB := Aside0.mk (Below.refl w.heap.size w)
  have H : ((angle_Sin.f k a0).bind fun t128 => ((angle_Cos.f k a0).bind fun t129 => ((fixed_Div.f t128 t129).bind fun t130 => (some t130)))) = some r := h
  clear h
  replace H := Option.bind_eq_some_iff.mp H
  obtain ⟨t128, A20, H⟩ := H
  replace H : ((angle_Cos.f k a0).bind fun t129 => ((fixed_Div.f t128 t129).bind fun t130 => (some t130))) = some r := H
  have A2 := Aside0.mk A20
  clear A20
  replace H := Option.bind_eq_some_iff.mp H
  obtain ⟨t129, A30, H⟩ := H
  replace H : ((fixed_Div.f t128 t129).bind fun t130 => (some t130)) = some r := H
  have A3 := Aside0.mk A30
  clear A30
  replace H := Option.bind_eq_some_iff.mp H
  obtain ⟨t130, A40, H⟩ := H
  replace H : (some t130) = some r := H
  have A4 := Aside0.mk A40
  clear A40
  obtain rfl := Option.some.inj H
  go_enter Try.func24, Try.ntmps24
  go_wp2_with (first | ((with_reducible refine gate_callee (f := 14) rfl ?_); refine goesL_ (some 4) rfl rfl Try.func14 (by kernel_rfl) rfl #[.int .i64 a0] rfl (by (try simp only [List.map_toArray, List.map_cons, List.map_nil]); first | done | rfl | (simp only [List.length_drop, List.length_take]; rfl)) ?_; (with_reducible refine (angle_Sin.calls k a0 t128 _ A2.out).mono ?_); rintro e w' ⟨rfl, ⟨nd, rfl⟩⟩; refine ⟨_, rfl, ?_⟩) | ((with_reducible refine gate_callee (f := 17) rfl ?_); refine goesL_ (some 6) rfl rfl Try.func17 (by kernel_rfl) rfl #[.int .i64 a0] rfl (by (try simp only [List.map_toArray, List.map_cons, List.map_nil]); first | done | rfl | (simp only [List.length_drop, List.length_take]; rfl)) ?_; (with_reducible refine (angle_Cos.calls k a0 t129 _ A3.out).mono ?_); rintro e w' ⟨rfl, ⟨nd, rfl⟩⟩; refine ⟨_, rfl, ?_⟩) | ((with_reducible refine gate_callee (f := 41) rfl ?_); refine goesL_ (some 7) rfl rfl Try.func41 (by kernel_rfl) rfl #[.int .i64 t128, .int .i64 t129] rfl (by (try simp only [List.map_toArray, List.map_cons, List.map_nil]); first | done | rfl | (simp only [List.length_drop, List.length_take]; rfl)) ?_; (with_reducible refine (fixed_Div.calls t128 t129 t130 _ A4.out).mono ?_); rintro e w5 ⟨rfl, hb⟩; refine ⟨_, rfl, ?_⟩; have n0_ := Aside0.mk (below_step (by repeat (first | (with_reducible first | exact HB.out | apply below_alloc | apply pw_below_drewN | apply below_drew1) | exact HB.out)) hb); clear HB; have HB := n0_; clear n0_; (try clear hb); (try clear hb2); (try clear hk); (try clear hi)))
  go_ret
  exact ⟨by first | rfl | (simp [errW_none, errW_some] <;> rfl) | (simp [*, errW_none, errW_some] <;> rfl), by repeat (first | (with_reducible first | exact HB.out | apply below_alloc | apply pw_below_drewN | apply below_drew1) | exact HB.out)⟩

/-! ### versalref2_Norm: function 25 -/
def versalref2_Norm.f (a0 : Int) : Option (Int) := if (Int.tmod a0 65536) < 0 then (some (wrap64 ((Int.tmod a0 65536) + 65536))) else (some (Int.tmod a0 65536))
set_option maxHeartbeats 8000000 in
set_option maxRecDepth 100000 in
theorem versalref2_Norm.calls (a0 : Int) (r : Int) (w : World) (h : versalref2_Norm.f a0 = some r) :
    Calls Try.prog 25 #[.int .i64 a0] w fun e w' => e = .returned (.int .i64 r) ∧ Drawn0 w w' := by
  have H : (if (Int.tmod a0 65536) < 0 then (some (wrap64 ((Int.tmod a0 65536) + 65536))) else (some (Int.tmod a0 65536))) = some r := h
  clear h
  by_cases c2 : (Int.tmod a0 65536) < 0
  · rw [if_pos c2] at H
    have c2b0 : decide ((Int.tmod a0 65536) < 0) = true := decide_eq_true c2
    clear c2
    obtain rfl := Option.some.inj H
    go_enter Try.func25, Try.ntmps25
    go_wp2
    go_ret
    exact ⟨by first | rfl | (simp; done) | (simp [*]; done), by repeat (first | exact Drawn0.refl _ | apply Drawn0.step)⟩
  · rw [if_neg c2] at H
    have c2b0 : decide ((Int.tmod a0 65536) < 0) = false := decide_eq_false c2
    clear c2
    obtain rfl := Option.some.inj H
    go_enter Try.func25, Try.ntmps25
    go_wp2
    go_ret
    exact ⟨by first | rfl | (simp; done) | (simp [*]; done), by repeat (first | exact Drawn0.refl _ | apply Drawn0.step)⟩

/-! ### versalref2_Floor: function 42 -/
def versalref2_Floor.f (a0 : Int) (a1 : Int) : Option (Int) := if a1 = 0 then (none) else (if (Int.tmod a0 a1) < 0 then (some (wrap64 ((wrap64 (Int.tdiv a0 a1)) - 1))) else (some (wrap64 (Int.tdiv a0 a1))))
set_option maxHeartbeats 8000000 in
set_option maxRecDepth 100000 in
theorem versalref2_Floor.calls (a0 : Int) (a1 : Int) (r : Int) (w : World) (h : versalref2_Floor.f a0 a1 = some r) :
    Calls Try.prog 42 #[.int .i64 a0, .int .i64 a1] w fun e w' => e = .returned (.int .i64 r) ∧ Drawn0 w w' := by
  have H : (if a1 = 0 then (none) else (if (Int.tmod a0 a1) < 0 then (some (wrap64 ((wrap64 (Int.tdiv a0 a1)) - 1))) else (some (wrap64 (Int.tdiv a0 a1))))) = some r := h
  clear h
  by_cases c3 : a1 = 0
  · rw [if_pos c3] at H
    exact absurd H (by simp)
  · rw [if_neg c3] at H
    have c3b0 : (a1 == 0) = false := beq_eq_false_iff_ne.mpr c3
    have c3b1 : (a1 != 0) = true := bne_iff_ne.mpr c3
    by_cases c4 : (Int.tmod a0 a1) < 0
    · rw [if_pos c4] at H
      have c4b0 : decide ((Int.tmod a0 a1) < 0) = true := decide_eq_true c4
      clear c4
      obtain rfl := Option.some.inj H
      go_enter Try.func42, Try.ntmps42
      go_wp2
      go_ret
      exact ⟨by first | rfl | (simp; done) | (simp [*]; done), by repeat (first | exact Drawn0.refl _ | apply Drawn0.step)⟩
    · rw [if_neg c4] at H
      have c4b0 : decide ((Int.tmod a0 a1) < 0) = false := decide_eq_false c4
      clear c4
      obtain rfl := Option.some.inj H
      go_enter Try.func42, Try.ntmps42
      go_wp2
      go_ret
      exact ⟨by first | rfl | (simp; done) | (simp [*]; done), by repeat (first | exact Drawn0.refl _ | apply Drawn0.step)⟩

/-! ### versalref2_Sin: function 26 -/
def versalref2_Sin.f : Nat → Int → Option (Int)
  | 0, _ => none
  | k + 1, a0 => (versalref2_Norm.f a0).bind fun t131 => (if t131 ≥ 32768 then ((versalref2_Sin.f k (wrap64 (t131 - 32768))).bind fun t132 => (some (wrap64 (-t132)))) else ((versalref2_Floor.f (wrap64 ((wrap64 (16 * (wrap64 (t131 * (wrap64 (32768 - t131)))))) * 65536)) (wrap64 (5368709120 - (wrap64 (4 * (wrap64 (t131 * (wrap64 (32768 - t131))))))))).bind fun t133 => (some t133)))
theorem versalref2_Sin.mono_l : ∀ k, (∀ y0, LeO (versalref2_Sin.f k y0) (versalref2_Sin.f (k + 1) y0))
  | 0 => fun _ r h => by simp [versalref2_Sin.f] at h
  | k + 1 => by
    have ih0 := versalref2_Sin.mono_l k
    · intro y0
      unfold versalref2_Sin.f
      repeat' first
      | (with_reducible exact ih0 _)
      | (with_reducible exact LeO.refl _)
      | (with_reducible exact LeO.none _)
      | (with_reducible refine LeO.ite ?_ ?_)
      | (with_reducible refine LeO.bind ?_ (fun _ => ?_))
      | exact ih0 _
      | exact LeO.none _
      | refine LeO.ite ?_ ?_
      | refine LeO.bind ?_ (fun _ => ?_)
theorem versalref2_Sin.mono : ∀ a0 k, LeO (versalref2_Sin.f k a0) (versalref2_Sin.f (k + 1) a0) := by
  intro a0 k
  have ih0 := versalref2_Sin.mono_l k
  exact ih0 a0
set_option maxHeartbeats 8000000 in
set_option maxRecDepth 100000 in
theorem versalref2_Sin.calls (k : Nat) : ∀ (a0 : Int) (r : Int) (w : World) (h : versalref2_Sin.f k a0 = some r),
    Calls Try.prog 26 #[.int .i64 a0] w fun e w' => e = .returned (.int .i64 r) ∧ Drawn0 w w' := by
  induction k using Nat.strongRecOn with
  | _ k ih =>
  intro a0 r w h
  cases k with
  | zero => exact absurd h (by simp [versalref2_Sin.f])
  | succ k =>
  simp only [versalref2_Sin.f] at h
  have H : ((versalref2_Norm.f a0).bind fun t131 => (if t131 ≥ 32768 then ((versalref2_Sin.f k (wrap64 (t131 - 32768))).bind fun t132 => (some (wrap64 (-t132)))) else ((versalref2_Floor.f (wrap64 ((wrap64 (16 * (wrap64 (t131 * (wrap64 (32768 - t131)))))) * 65536)) (wrap64 (5368709120 - (wrap64 (4 * (wrap64 (t131 * (wrap64 (32768 - t131))))))))).bind fun t133 => (some t133)))) = some r := h
  clear h
  replace H := Option.bind_eq_some_iff.mp H
  obtain ⟨t131, A20, H⟩ := H
  replace H : (if t131 ≥ 32768 then ((versalref2_Sin.f k (wrap64 (t131 - 32768))).bind fun t132 => (some (wrap64 (-t132)))) else ((versalref2_Floor.f (wrap64 ((wrap64 (16 * (wrap64 (t131 * (wrap64 (32768 - t131)))))) * 65536)) (wrap64 (5368709120 - (wrap64 (4 * (wrap64 (t131 * (wrap64 (32768 - t131))))))))).bind fun t133 => (some t133))) = some r := H
  have A2 := Aside0.mk A20
  clear A20
  by_cases c3 : t131 ≥ 32768
  · rw [if_pos c3] at H
    have c3b0 : decide (32768 ≤ t131) = true := decide_eq_true c3
    clear c3
    replace H := Option.bind_eq_some_iff.mp H
    obtain ⟨t132, A40, H⟩ := H
    replace H : (some (wrap64 (-t132))) = some r := H
    have A4 := Aside0.mk A40
    clear A40
    obtain rfl := Option.some.inj H
    go_enter Try.func26, Try.ntmps26
    go_wp2_with (first | ((with_reducible refine gate_callee (f := 25) rfl ?_); refine goesL_ (some 6) rfl rfl Try.func25 (by kernel_rfl) rfl #[.int .i64 a0] rfl (by (try simp only [List.map_toArray, List.map_cons, List.map_nil]); first | done | rfl | (simp only [List.length_drop, List.length_take]; rfl)) ?_; (with_reducible refine (versalref2_Norm.calls a0 t131 _ A2.out).mono ?_); rintro e w' ⟨rfl, ⟨nd, rfl⟩⟩; refine ⟨_, rfl, ?_⟩) | ((with_reducible refine gate_callee (f := 26) rfl ?_); refine goesL_ (some 11) rfl rfl Try.func26 (by kernel_rfl) rfl #[.int .i64 (wrap64 (t131 - 32768))] rfl (by (try simp only [List.map_toArray, List.map_cons, List.map_nil]); first | done | rfl | (simp only [List.length_drop, List.length_take]; rfl)) ?_; (with_reducible refine (ih k (by omega) (wrap64 (t131 - 32768)) t132 _ A4.out).mono ?_); rintro e w' ⟨rfl, ⟨nd, rfl⟩⟩; refine ⟨_, rfl, ?_⟩))
    go_ret
    exact ⟨by first | rfl | (simp; done) | (simp [*]; done), by repeat (first | exact Drawn0.refl _ | apply Drawn0.step)⟩
  · rw [if_neg c3] at H
    have c3b0 : decide (32768 ≤ t131) = false := decide_eq_false c3
    clear c3
    replace H := Option.bind_eq_some_iff.mp H
    obtain ⟨t133, A50, H⟩ := H
    replace H : (some t133) = some r := H
    have A5 := Aside0.mk A50
    clear A50
    obtain rfl := Option.some.inj H
    go_enter Try.func26, Try.ntmps26
    go_wp2_with (first | ((with_reducible refine gate_callee (f := 25) rfl ?_); refine goesL_ (some 6) rfl rfl Try.func25 (by kernel_rfl) rfl #[.int .i64 a0] rfl (by (try simp only [List.map_toArray, List.map_cons, List.map_nil]); first | done | rfl | (simp only [List.length_drop, List.length_take]; rfl)) ?_; (with_reducible refine (versalref2_Norm.calls a0 t131 _ A2.out).mono ?_); rintro e w' ⟨rfl, ⟨nd, rfl⟩⟩; refine ⟨_, rfl, ?_⟩) | ((with_reducible refine gate_callee (f := 42) rfl ?_); refine goesL_ (some 23) rfl rfl Try.func42 (by kernel_rfl) rfl #[.int .i64 (wrap64 ((wrap64 (16 * (wrap64 (t131 * (wrap64 (32768 - t131)))))) * 65536)), .int .i64 (wrap64 (5368709120 - (wrap64 (4 * (wrap64 (t131 * (wrap64 (32768 - t131))))))))] rfl (by (try simp only [List.map_toArray, List.map_cons, List.map_nil]); first | done | rfl | (simp only [List.length_drop, List.length_take]; rfl)) ?_; (with_reducible refine (versalref2_Floor.calls (wrap64 ((wrap64 (16 * (wrap64 (t131 * (wrap64 (32768 - t131)))))) * 65536)) (wrap64 (5368709120 - (wrap64 (4 * (wrap64 (t131 * (wrap64 (32768 - t131)))))))) t133 _ A5.out).mono ?_); rintro e w' ⟨rfl, ⟨nd, rfl⟩⟩; refine ⟨_, rfl, ?_⟩))
    go_ret
    exact ⟨by first | rfl | (simp; done) | (simp [*]; done), by repeat (first | exact Drawn0.refl _ | apply Drawn0.step)⟩

/-! ### versalref2_Cos: function 27 -/
def versalref2_Cos.f (k : Nat) (a0 : Int) : Option (Int) := (versalref2_Norm.f a0).bind fun t134 => ((versalref2_Sin.f k (wrap64 (t134 + 16384))).bind fun t135 => (some t135))
theorem versalref2_Cos.mono : ∀ a0 k, LeO (versalref2_Cos.f k a0) (versalref2_Cos.f (k + 1) a0) := by
  intro a0 k
  unfold versalref2_Cos.f
  repeat' first
      | (with_reducible exact versalref2_Sin.mono _ _)
      | (with_reducible exact LeO.refl _)
      | (with_reducible exact LeO.none _)
      | (with_reducible refine LeO.ite ?_ ?_)
      | (with_reducible refine LeO.bind ?_ (fun _ => ?_))
      | exact versalref2_Sin.mono _ _
      | exact LeO.none _
      | refine LeO.ite ?_ ?_
      | refine LeO.bind ?_ (fun _ => ?_)
set_option maxHeartbeats 8000000 in
set_option maxRecDepth 100000 in
theorem versalref2_Cos.calls (k : Nat) (a0 : Int) (r : Int) (w : World) (h : versalref2_Cos.f k a0 = some r) :
    Calls Try.prog 27 #[.int .i64 a0] w fun e w' => e = .returned (.int .i64 r) ∧ Drawn0 w w' := by
  have H : ((versalref2_Norm.f a0).bind fun t134 => ((versalref2_Sin.f k (wrap64 (t134 + 16384))).bind fun t135 => (some t135))) = some r := h
  clear h
  replace H := Option.bind_eq_some_iff.mp H
  obtain ⟨t134, A20, H⟩ := H
  replace H : ((versalref2_Sin.f k (wrap64 (t134 + 16384))).bind fun t135 => (some t135)) = some r := H
  have A2 := Aside0.mk A20
  clear A20
  replace H := Option.bind_eq_some_iff.mp H
  obtain ⟨t135, A30, H⟩ := H
  replace H : (some t135) = some r := H
  have A3 := Aside0.mk A30
  clear A30
  obtain rfl := Option.some.inj H
  go_enter Try.func27, Try.ntmps27
  go_wp2_with (first | ((with_reducible refine gate_callee (f := 25) rfl ?_); refine goesL_ (some 4) rfl rfl Try.func25 (by kernel_rfl) rfl #[.int .i64 a0] rfl (by (try simp only [List.map_toArray, List.map_cons, List.map_nil]); first | done | rfl | (simp only [List.length_drop, List.length_take]; rfl)) ?_; (with_reducible refine (versalref2_Norm.calls a0 t134 _ A2.out).mono ?_); rintro e w' ⟨rfl, ⟨nd, rfl⟩⟩; refine ⟨_, rfl, ?_⟩) | ((with_reducible refine gate_callee (f := 26) rfl ?_); refine goesL_ (some 6) rfl rfl Try.func26 (by kernel_rfl) rfl #[.int .i64 (wrap64 (t134 + 16384))] rfl (by (try simp only [List.map_toArray, List.map_cons, List.map_nil]); first | done | rfl | (simp only [List.length_drop, List.length_take]; rfl)) ?_; (with_reducible refine (versalref2_Sin.calls k (wrap64 (t134 + 16384)) t135 _ A3.out).mono ?_); rintro e w' ⟨rfl, ⟨nd, rfl⟩⟩; refine ⟨_, rfl, ?_⟩))
  go_ret
  exact ⟨by first | rfl | (simp; done) | (simp [*]; done), by repeat (first | exact Drawn0.refl _ | apply Drawn0.step)⟩

end Go.Proofs.Ytaohkdieigbccaa.PAngleTells
