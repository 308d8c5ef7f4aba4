-- PRINTED BY print.sh 35421559b90ae4d0a3588c463048766b98c2df88dd9212a6774a882060cdf62d: not written by this session
import Derived.Test.YtaohkdieigbccaaPSweepKnownx0
namespace Go.Proofs.Ytaohkdieigbccaa.PSweepKnown
open Go.RowKit Go.Proofs.YtaohkdieigbccaaW.PrintWords Go.Proofs.YtaohkdieigbccaaW.PrintLast Go.Proofs.YtaohkdieigbccaaW.PrintMore
attribute [local go_sem] max2_int min2_int max_two min_two max_three min_three max_four min_four   -- for this text's walks alone
set_option linter.unusedVariables false
set_option linter.unusedSimpArgs false

/-! ### angle_Norm: function 15 -/
def angle_Norm.f (a0 : Int) : Option (Int) := some (Int.tmod (wrap64 ((Int.tmod a0 65536) + 65536)) 65536)
set_option maxHeartbeats 8000000 in
set_option maxRecDepth 100000 in
theorem angle_Norm.calls (a0 : Int) (r : Int) (w : World) (h : angle_Norm.f a0 = some r) :
    Calls Try.prog 15 #[.int .i64 a0] w fun e w' => e = .returned (.int .i64 r) ∧ Drawn0 w w' := by
  have H : (some (Int.tmod (wrap64 ((Int.tmod a0 65536) + 65536)) 65536)) = some r := h
  clear h
  obtain rfl := Option.some.inj H
  go_enter Try.func15, Try.ntmps15
  go_wp2
  go_ret
  exact ⟨by first | rfl | (simp; done) | (simp [*]; done), by repeat (first | exact Drawn0.refl _ | apply Drawn0.step)⟩

/-! ### fixed_brought: function 52 -/
def fixed_brought.f (a0 : Int) (a1 : Int) (a2 : Int) : Option (Int) := some (mx a1 (mn a0 a2))
set_option maxHeartbeats 8000000 in
set_option maxRecDepth 100000 in
theorem fixed_brought.calls (a0 : Int) (a1 : Int) (a2 : Int) (r : Int) (w : World) (h : fixed_brought.f a0 a1 a2 = some r) :
    Calls Try.prog 52 #[.int .i64 a0, .int .i64 a1, .int .i64 a2] w fun e w' => e = .returned (.int .i64 r) ∧ Below w.heap.size w w' := by
  have HB := Aside0.mk (Below.refl w.heap.size w)
  have H : (some (mx a1 (mn a0 a2))) = some r := h
  clear h
  obtain ⟨ji4, hji4⟩ : ∃ j_ : Int, (mn a0 a2) = j_ := ⟨_, rfl⟩
  replace H : (some (mx a1 (ji4))) = some r := by first | (rw [hji4] at H; exact H) | (simp only [hji4] at H ⊢; exact H)
  have hji4_ : (if a2 < a0 then a2 else a0) = ji4 := hji4
  obtain ⟨ji5, hji5⟩ : ∃ j_ : Int, (mx a1 (ji4)) = j_ := ⟨_, rfl⟩
  replace H : (some ji5) = some r := by first | (rw [hji5] at H; exact H) | (simp only [hji5] at H ⊢; exact H)
  have hji5_ : (if a1 < (ji4) then (ji4) else a1) = ji5 := hji5
  obtain rfl := Option.some.inj H
  go_enter Try.func52, Try.ntmps52
  go_wp2
  go_ret
  exact ⟨by first | rfl | (simp [errW_none, errW_some] <;> rfl) | (simp only [← hji4, ← hji5]; first | rfl | (simp [errW_none, errW_some] <;> rfl)) | (simp [*, errW_none, errW_some] <;> rfl), by repeat (first | (with_reducible first | exact HB.out | apply below_alloc | apply pw_below_drewN | apply below_drew1) | exact HB.out)⟩

/-! ### fixed_Clip: function 35 -/
def fixed_Clip.f (a0 : Int) : Option (Int) := (fixed_brought.f a0 (-2147483647) 2147483647).bind fun t101 => (some t101)
set_option maxHeartbeats 8000000 in
set_option maxRecDepth 100000 in
theorem fixed_Clip.calls (a0 : Int) (r : Int) (w : World) (h : fixed_Clip.f a0 = some r) :
    Calls Try.prog 35 #[.int .i64 a0] w fun e w' => e = .returned (.int .i64 r) ∧ Below w.heap.size w w' := by
  have HB := Aside0.mk (Below.refl w.heap.size w)
  have H : ((fixed_brought.f a0 (-2147483647) 2147483647).bind fun t101 => (some t101)) = some r := h
  clear h
  replace H := Option.bind_eq_some_iff.mp H
  obtain ⟨t101, A20, H⟩ := H
  replace H : (some t101) = some r := H
  have A2 := Aside0.mk A20
  clear A20
  obtain rfl := Option.some.inj H
  go_enter Try.func35, Try.ntmps35
  go_wp2_with (first | ((with_reducible refine gate_callee (f := 52) rfl ?_); refine goesL_ (some 4) rfl rfl Try.func52 (by kernel_rfl) rfl #[.int .i64 a0, .int .i64 (-2147483647), .int .i64 2147483647] rfl (by (try simp only [List.map_toArray, List.map_cons, List.map_nil]); first | done | rfl | (simp only [List.length_drop, List.length_take]; rfl)) ?_; (with_reducible refine (fixed_brought.calls a0 (-2147483647) 2147483647 t101 _ A2.out).mono ?_); rintro e w3 ⟨rfl, hb⟩; refine ⟨_, rfl, ?_⟩; have n0_ := Aside0.mk (below_step (by repeat (first | (with_reducible first | exact HB.out | apply below_alloc | apply pw_below_drewN | apply below_drew1) | exact HB.out)) hb); clear HB; have HB := n0_; clear n0_; (try clear hb); (try clear hb2); (try clear hk); (try clear hi)))
  go_ret
  exact ⟨by first | rfl | (simp [errW_none, errW_some] <;> rfl) | (simp [*, errW_none, errW_some] <;> rfl), by repeat (first | (with_reducible first | exact HB.out | apply below_alloc | apply pw_below_drewN | apply below_drew1) | exact HB.out)⟩

/-! ### angle_away: function 36 -/
def angle_away.f (a0 : Int) : Option (Int) := some (mx a0 (wrap64 (-a0)))
set_option maxHeartbeats 8000000 in
set_option maxRecDepth 100000 in
theorem angle_away.calls (a0 : Int) (r : Int) (w : World) (h : angle_away.f a0 = some r) :
    Calls Try.prog 36 #[.int .i64 a0] w fun e w' => e = .returned (.int .i64 r) ∧ Below w.heap.size w w' := by
  have HB := Aside0.mk (Below.refl w.heap.size w)
  have H : (some (mx a0 (wrap64 (-a0)))) = some r := h
  clear h
  obtain ⟨ji2, hji2⟩ : ∃ j_ : Int, (mx a0 (wrap64 (-a0))) = j_ := ⟨_, rfl⟩
  replace H : (some ji2) = some r := by first | (rw [hji2] at H; exact H) | (simp only [hji2] at H ⊢; exact H)
  have hji2_ : (if a0 < (wrap64 (-a0)) then (wrap64 (-a0)) else a0) = ji2 := hji2
  obtain rfl := Option.some.inj H
  go_enter Try.func36, Try.ntmps36
  go_wp2
  go_ret
  exact ⟨by first | rfl | (simp [errW_none, errW_some] <;> rfl) | (simp only [← hji2]; first | rfl | (simp [errW_none, errW_some] <;> rfl)) | (simp [*, errW_none, errW_some] <;> rfl), by repeat (first | (with_reducible first | exact HB.out | apply below_alloc | apply pw_below_drewN | apply below_drew1) | exact HB.out)⟩

/-! ### angle_Atan: function 19 -/
def angle_Atan.j0 : Nat → Int → Int → Int → Option (Int)
  | 0, _, _, _ => none
  | k + 1, x0, x1, x8 => if x1 < 0 then (if x0 < 0 then ((angle_Norm.f (wrap64 (-(wrap64 (32768 - x8))))).bind fun t110 => (some t110)) else (some (wrap64 (32768 - x8)))) else (if x0 < 0 then ((angle_Norm.f (wrap64 (-x8))).bind fun t111 => (some t111)) else (some x8))
def angle_Atan.f (k : Nat) (a0 : Int) (a1 : Int) : Option (Int) := (fixed_Clip.f a1).bind fun t102 => ((fixed_Clip.f a0).bind fun t103 => ((angle_away.f t102).bind fun t104 => ((angle_away.f t103).bind fun t105 => ((angle_away.f t102).bind fun t106 => ((angle_away.f t103).bind fun t107 => (if (mx t104 t105) = 0 then (some 0) else ((angle_away.f t103).bind fun t108 => ((angle_away.f t102).bind fun t109 => (if t108 > t109 then (angle_Atan.j0 k t103 t102 (wrap64 (16384 - ((wrap64 ((wrap64 ((wrap64 (8192 * (wrap64 (Int.tdiv (wrap64 ((mn t106 t107) * 65536)) (mx t104 t105))))) * 65536)) + (wrap64 ((wrap64 (2847 * (wrap64 (Int.tdiv (wrap64 ((mn t106 t107) * 65536)) (mx t104 t105))))) * (wrap64 (65536 - (wrap64 (Int.tdiv (wrap64 ((mn t106 t107) * 65536)) (mx t104 t105))))))))) / 4294967296)))) else (angle_Atan.j0 k t103 t102 ((wrap64 ((wrap64 ((wrap64 (8192 * (wrap64 (Int.tdiv (wrap64 ((mn t106 t107) * 65536)) (mx t104 t105))))) * 65536)) + (wrap64 ((wrap64 (2847 * (wrap64 (Int.tdiv (wrap64 ((mn t106 t107) * 65536)) (mx t104 t105))))) * (wrap64 (65536 - (wrap64 (Int.tdiv (wrap64 ((mn t106 t107) * 65536)) (mx t104 t105))))))))) / 4294967296)))))))))))
theorem angle_Atan.mono_l : ∀ k, (∀ y0 y1 y2, LeO (angle_Atan.j0 k y0 y1 y2) (angle_Atan.j0 (k + 1) y0 y1 y2))
  | 0 => fun _ _ _ r h => by simp [angle_Atan.j0] at h
  | k + 1 => by
    have ih0 := angle_Atan.mono_l k
    · intro y0 y1 y2
      unfold angle_Atan.j0
      repeat' first
      | (with_reducible exact ih0 _ _ _)
      | (with_reducible exact LeO.refl _)
      | (with_reducible exact LeO.none _)
      | (with_reducible refine LeO.ite ?_ ?_)
      | (with_reducible refine LeO.bind ?_ (fun _ => ?_))
      | exact ih0 _ _ _
      | exact LeO.none _
      | refine LeO.ite ?_ ?_
      | refine LeO.bind ?_ (fun _ => ?_)
theorem angle_Atan.mono : ∀ a0 a1 k, LeO (angle_Atan.f k a0 a1) (angle_Atan.f (k + 1) a0 a1) := by
  intro a0 a1 k
  have ih0 := angle_Atan.mono_l k
  unfold angle_Atan.f
  repeat' first
      | (with_reducible exact ih0 _ _ _)
      | (with_reducible exact LeO.refl _)
      | (with_reducible exact LeO.none _)
      | (with_reducible refine LeO.ite ?_ ?_)
      | (with_reducible refine LeO.bind ?_ (fun _ => ?_))
      | exact ih0 _ _ _
      | exact LeO.none _
      | refine LeO.ite ?_ ?_
      | refine LeO.bind ?_ (fun _ => ?_)
set_option maxHeartbeats 8000000 in
set_option maxRecDepth 100000 in
theorem angle_Atan.calls (k : Nat) (a0 : Int) (a1 : Int) (r : Int) (w : World) (h : angle_Atan.f k a0 a1 = some r) :
    Calls Try.prog 19 #[.int .i64 a0, .int .i64 a1] w fun e w' => e = .returned (.int .i64 r) ∧ Below w.heap.size w w' := by
  have HB := Aside0.mk (Below.refl w.heap.size w)
  have H : ((fixed_Clip.f a1).bind fun t102 => ((fixed_Clip.f a0).bind fun t103 => ((angle_away.f t102).bind fun t104 => ((angle_away.f t103).bind fun t105 => ((angle_away.f t102).bind fun t106 => ((angle_away.f t103).bind fun t107 => (if (mx t104 t105) = 0 then (some 0) else ((angle_away.f t103).bind fun t108 => ((angle_away.f t102).bind fun t109 => (if t108 > t109 then (angle_Atan.j0 k t103 t102 (wrap64 (16384 - ((wrap64 ((wrap64 ((wrap64 (8192 * (wrap64 (Int.tdiv (wrap64 ((mn t106 t107) * 65536)) (mx t104 t105))))) * 65536)) + (wrap64 ((wrap64 (2847 * (wrap64 (Int.tdiv (wrap64 ((mn t106 t107) * 65536)) (mx t104 t105))))) * (wrap64 (65536 - (wrap64 (Int.tdiv (wrap64 ((mn t106 t107) * 65536)) (mx t104 t105))))))))) / 4294967296)))) else (angle_Atan.j0 k t103 t102 ((wrap64 ((wrap64 ((wrap64 (8192 * (wrap64 (Int.tdiv (wrap64 ((mn t106 t107) * 65536)) (mx t104 t105))))) * 65536)) + (wrap64 ((wrap64 (2847 * (wrap64 (Int.tdiv (wrap64 ((mn t106 t107) * 65536)) (mx t104 t105))))) * (wrap64 (65536 - (wrap64 (Int.tdiv (wrap64 ((mn t106 t107) * 65536)) (mx t104 t105))))))))) / 4294967296)))))))))))) = some r := h
  clear h
  replace H := Option.bind_eq_some_iff.mp H
  obtain ⟨t102, A30, H⟩ := H
  replace H : ((fixed_Clip.f a0).bind fun t103 => ((angle_away.f t102).bind fun t104 => ((angle_away.f t103).bind fun t105 => ((angle_away.f t102).bind fun t106 => ((angle_away.f t103).bind fun t107 => (if (mx t104 t105) = 0 then (some 0) else ((angle_away.f t103).bind fun t108 => ((angle_away.f t102).bind fun t109 => (if t108 > t109 then (angle_Atan.j0 k t103 t102 (wrap64 (16384 - ((wrap64 ((wrap64 ((wrap64 (8192 * (wrap64 (Int.tdiv (wrap64 ((mn t106 t107) * 65536)) (mx t104 t105))))) * 65536)) + (wrap64 ((wrap64 (2847 * (wrap64 (Int.tdiv (wrap64 ((mn t106 t107) * 65536)) (mx t104 t105))))) * (wrap64 (65536 - (wrap64 (Int.tdiv (wrap64 ((mn t106 t107) * 65536)) (mx t104 t105))))))))) / 4294967296)))) else (angle_Atan.j0 k t103 t102 ((wrap64 ((wrap64 ((wrap64 (8192 * (wrap64 (Int.tdiv (wrap64 ((mn t106 t107) * 65536)) (mx t104 t105))))) * 65536)) + (wrap64 ((wrap64 (2847 * (wrap64 (Int.tdiv (wrap64 ((mn t106 t107) * 65536)) (mx t104 t105))))) * (wrap64 (65536 - (wrap64 (Int.tdiv (wrap64 ((mn t106 t107) * 65536)) (mx t104 t105))))))))) / 4294967296))))))))))) = some r := H
  have A3 := Aside0.mk A30
  clear A30
  replace H := Option.bind_eq_some_iff.mp H
  obtain ⟨t103, A40, H⟩ := H
  replace H : ((angle_away.f t102).bind fun t104 => ((angle_away.f t103).bind fun t105 => ((angle_away.f t102).bind fun t106 => ((angle_away.f t103).bind fun t107 => (if (mx t104 t105) = 0 then (some 0) else ((angle_away.f t103).bind fun t108 => ((angle_away.f t102).bind fun t109 => (if t108 > t109 then (angle_Atan.j0 k t103 t102 (wrap64 (16384 - ((wrap64 ((wrap64 ((wrap64 (8192 * (wrap64 (Int.tdiv (wrap64 ((mn t106 t107) * 65536)) (mx t104 t105))))) * 65536)) + (wrap64 ((wrap64 (2847 * (wrap64 (Int.tdiv (wrap64 ((mn t106 t107) * 65536)) (mx t104 t105))))) * (wrap64 (65536 - (wrap64 (Int.tdiv (wrap64 ((mn t106 t107) * 65536)) (mx t104 t105))))))))) / 4294967296)))) else (angle_Atan.j0 k t103 t102 ((wrap64 ((wrap64 ((wrap64 (8192 * (wrap64 (Int.tdiv (wrap64 ((mn t106 t107) * 65536)) (mx t104 t105))))) * 65536)) + (wrap64 ((wrap64 (2847 * (wrap64 (Int.tdiv (wrap64 ((mn t106 t107) * 65536)) (mx t104 t105))))) * (wrap64 (65536 - (wrap64 (Int.tdiv (wrap64 ((mn t106 t107) * 65536)) (mx t104 t105))))))))) / 4294967296)))))))))) = some r := H
  have A4 := Aside0.mk A40
  clear A40
  replace H := Option.bind_eq_some_iff.mp H
  obtain ⟨t104, A50, H⟩ := H
  replace H : ((angle_away.f t103).bind fun t105 => ((angle_away.f t102).bind fun t106 => ((angle_away.f t103).bind fun t107 => (if (mx t104 t105) = 0 then (some 0) else ((angle_away.f t103).bind fun t108 => ((angle_away.f t102).bind fun t109 => (if t108 > t109 then (angle_Atan.j0 k t103 t102 (wrap64 (16384 - ((wrap64 ((wrap64 ((wrap64 (8192 * (wrap64 (Int.tdiv (wrap64 ((mn t106 t107) * 65536)) (mx t104 t105))))) * 65536)) + (wrap64 ((wrap64 (2847 * (wrap64 (Int.tdiv (wrap64 ((mn t106 t107) * 65536)) (mx t104 t105))))) * (wrap64 (65536 - (wrap64 (Int.tdiv (wrap64 ((mn t106 t107) * 65536)) (mx t104 t105))))))))) / 4294967296)))) else (angle_Atan.j0 k t103 t102 ((wrap64 ((wrap64 ((wrap64 (8192 * (wrap64 (Int.tdiv (wrap64 ((mn t106 t107) * 65536)) (mx t104 t105))))) * 65536)) + (wrap64 ((wrap64 (2847 * (wrap64 (Int.tdiv (wrap64 ((mn t106 t107) * 65536)) (mx t104 t105))))) * (wrap64 (65536 - (wrap64 (Int.tdiv (wrap64 ((mn t106 t107) * 65536)) (mx t104 t105))))))))) / 4294967296))))))))) = some r := H
  have A5 := Aside0.mk A50
  clear A50
  replace H := Option.bind_eq_some_iff.mp H
  obtain ⟨t105, A60, H⟩ := H
  replace H : ((angle_away.f t102).bind fun t106 => ((angle_away.f t103).bind fun t107 => (if (mx t104 t105) = 0 then (some 0) else ((angle_away.f t103).bind fun t108 => ((angle_away.f t102).bind fun t109 => (if t108 > t109 then (angle_Atan.j0 k t103 t102 (wrap64 (16384 - ((wrap64 ((wrap64 ((wrap64 (8192 * (wrap64 (Int.tdiv (wrap64 ((mn t106 t107) * 65536)) (mx t104 t105))))) * 65536)) + (wrap64 ((wrap64 (2847 * (wrap64 (Int.tdiv (wrap64 ((mn t106 t107) * 65536)) (mx t104 t105))))) * (wrap64 (65536 - (wrap64 (Int.tdiv (wrap64 ((mn t106 t107) * 65536)) (mx t104 t105))))))))) / 4294967296)))) else (angle_Atan.j0 k t103 t102 ((wrap64 ((wrap64 ((wrap64 (8192 * (wrap64 (Int.tdiv (wrap64 ((mn t106 t107) * 65536)) (mx t104 t105))))) * 65536)) + (wrap64 ((wrap64 (2847 * (wrap64 (Int.tdiv (wrap64 ((mn t106 t107) * 65536)) (mx t104 t105))))) * (wrap64 (65536 - (wrap64 (Int.tdiv (wrap64 ((mn t106 t107) * 65536)) (mx t104 t105))))))))) / 4294967296)))))))) = some r := H
  have A6 := Aside0.mk A60
  clear A60
  obtain ⟨ji7, hji7⟩ : ∃ j_ : Int, (mx t104 t105) = j_ := ⟨_, rfl⟩
  replace H : ((angle_away.f t102).bind fun t106 => ((angle_away.f t103).bind fun t107 => (if (ji7) = 0 then (some 0) else ((angle_away.f t103).bind fun t108 => ((angle_away.f t102).bind fun t109 => (if t108 > t109 then (angle_Atan.j0 k t103 t102 (wrap64 (16384 - ((wrap64 ((wrap64 ((wrap64 (8192 * (wrap64 (Int.tdiv (wrap64 ((mn t106 t107) * 65536)) (ji7))))) * 65536)) + (wrap64 ((wrap64 (2847 * (wrap64 (Int.tdiv (wrap64 ((mn t106 t107) * 65536)) (ji7))))) * (wrap64 (65536 - (wrap64 (Int.tdiv (wrap64 ((mn t106 t107) * 65536)) (ji7))))))))) / 4294967296)))) else (angle_Atan.j0 k t103 t102 ((wrap64 ((wrap64 ((wrap64 (8192 * (wrap64 (Int.tdiv (wrap64 ((mn t106 t107) * 65536)) (ji7))))) * 65536)) + (wrap64 ((wrap64 (2847 * (wrap64 (Int.tdiv (wrap64 ((mn t106 t107) * 65536)) (ji7))))) * (wrap64 (65536 - (wrap64 (Int.tdiv (wrap64 ((mn t106 t107) * 65536)) (ji7))))))))) / 4294967296)))))))) = some r := by first | (rw [hji7] at H; exact H) | (simp only [hji7] at H ⊢; exact H)
  (try rw [hji7] at A3)
  (try rw [hji7] at A4)
  (try rw [hji7] at A5)
  (try rw [hji7] at A6)
  have hji7_ : (if t104 < t105 then t105 else t104) = ji7 := hji7
  replace H := Option.bind_eq_some_iff.mp H
  obtain ⟨t106, A80, H⟩ := H
  replace H : ((angle_away.f t103).bind fun t107 => (if (ji7) = 0 then (some 0) else ((angle_away.f t103).bind fun t108 => ((angle_away.f t102).bind fun t109 => (if t108 > t109 then (angle_Atan.j0 k t103 t102 (wrap64 (16384 - ((wrap64 ((wrap64 ((wrap64 (8192 * (wrap64 (Int.tdiv (wrap64 ((mn t106 t107) * 65536)) (ji7))))) * 65536)) + (wrap64 ((wrap64 (2847 * (wrap64 (Int.tdiv (wrap64 ((mn t106 t107) * 65536)) (ji7))))) * (wrap64 (65536 - (wrap64 (Int.tdiv (wrap64 ((mn t106 t107) * 65536)) (ji7))))))))) / 4294967296)))) else (angle_Atan.j0 k t103 t102 ((wrap64 ((wrap64 ((wrap64 (8192 * (wrap64 (Int.tdiv (wrap64 ((mn t106 t107) * 65536)) (ji7))))) * 65536)) + (wrap64 ((wrap64 (2847 * (wrap64 (Int.tdiv (wrap64 ((mn t106 t107) * 65536)) (ji7))))) * (wrap64 (65536 - (wrap64 (Int.tdiv (wrap64 ((mn t106 t107) * 65536)) (ji7))))))))) / 4294967296))))))) = some r := H
  have A8 := Aside0.mk A80
  clear A80
  replace H := Option.bind_eq_some_iff.mp H
  obtain ⟨t107, A90, H⟩ := H
  replace H : (if (ji7) = 0 then (some 0) else ((angle_away.f t103).bind fun t108 => ((angle_away.f t102).bind fun t109 => (if t108 > t109 then (angle_Atan.j0 k t103 t102 (wrap64 (16384 - ((wrap64 ((wrap64 ((wrap64 (8192 * (wrap64 (Int.tdiv (wrap64 ((mn t106 t107) * 65536)) (ji7))))) * 65536)) + (wrap64 ((wrap64 (2847 * (wrap64 (Int.tdiv (wrap64 ((mn t106 t107) * 65536)) (ji7))))) * (wrap64 (65536 - (wrap64 (Int.tdiv (wrap64 ((mn t106 t107) * 65536)) (ji7))))))))) / 4294967296)))) else (angle_Atan.j0 k t103 t102 ((wrap64 ((wrap64 ((wrap64 (8192 * (wrap64 (Int.tdiv (wrap64 ((mn t106 t107) * 65536)) (ji7))))) * 65536)) + (wrap64 ((wrap64 (2847 * (wrap64 (Int.tdiv (wrap64 ((mn t106 t107) * 65536)) (ji7))))) * (wrap64 (65536 - (wrap64 (Int.tdiv (wrap64 ((mn t106 t107) * 65536)) (ji7))))))))) / 4294967296)))))) = some r := H
  have A9 := Aside0.mk A90
  clear A90
  obtain ⟨ji10, hji10⟩ : ∃ j_ : Int, (mn t106 t107) = j_ := ⟨_, rfl⟩
  replace H : (if (ji7) = 0 then (some 0) else ((angle_away.f t103).bind fun t108 => ((angle_away.f t102).bind fun t109 => (if t108 > t109 then (angle_Atan.j0 k t103 t102 (wrap64 (16384 - ((wrap64 ((wrap64 ((wrap64 (8192 * (wrap64 (Int.tdiv (wrap64 ((ji10) * 65536)) (ji7))))) * 65536)) + (wrap64 ((wrap64 (2847 * (wrap64 (Int.tdiv (wrap64 ((ji10) * 65536)) (ji7))))) * (wrap64 (65536 - (wrap64 (Int.tdiv (wrap64 ((ji10) * 65536)) (ji7))))))))) / 4294967296)))) else (angle_Atan.j0 k t103 t102 ((wrap64 ((wrap64 ((wrap64 (8192 * (wrap64 (Int.tdiv (wrap64 ((ji10) * 65536)) (ji7))))) * 65536)) + (wrap64 ((wrap64 (2847 * (wrap64 (Int.tdiv (wrap64 ((ji10) * 65536)) (ji7))))) * (wrap64 (65536 - (wrap64 (Int.tdiv (wrap64 ((ji10) * 65536)) (ji7))))))))) / 4294967296)))))) = some r := by first | (rw [hji10] at H; exact H) | (simp only [hji10] at H ⊢; exact H)
  (try rw [hji10] at A3)
  (try rw [hji10] at A4)
  (try rw [hji10] at A5)
  (try rw [hji10] at A6)
  (try rw [hji10] at A8)
  (try rw [hji10] at A9)
  have hji10_ : (if t107 < t106 then t107 else t106) = ji10 := hji10
  by_cases c11 : (ji7) = 0
  · rw [if_pos c11] at H
    have c11b0 : ((ji7) == 0) = true := beq_iff_eq.mpr c11
    have c11b1 : ((ji7) != 0) = false := bne_eq_false_iff_eq.mpr c11
    clear c11
    obtain rfl := Option.some.inj H
    go_enter Try.func19, Try.ntmps19
    go_wp2_with (first | ((with_reducible refine gate_callee (f := 35) rfl ?_); refine goesL_ (some 10) rfl rfl Try.func35 (by kernel_rfl) rfl #[.int .i64 a1] rfl (by (try simp only [List.map_toArray, List.map_cons, List.map_nil]); first | done | rfl | (simp only [List.length_drop, List.length_take]; rfl)) ?_; (with_reducible refine (fixed_Clip.calls a1 t102 _ A3.out).mono ?_); rintro e w12 ⟨rfl, hb⟩; refine ⟨_, rfl, ?_⟩; have n0_ := Aside0.mk (below_step (by repeat (first | (with_reducible first | exact HB.out | apply below_alloc | apply pw_below_drewN | apply below_drew1) | exact HB.out)) hb); clear HB; have HB := n0_; clear n0_; (try clear hb); (try clear hb2); (try clear hk); (try clear hi)) | ((with_reducible refine gate_callee (f := 35) rfl ?_); refine goesL_ (some 12) rfl rfl Try.func35 (by kernel_rfl) rfl #[.int .i64 a0] rfl (by (try simp only [List.map_toArray, List.map_cons, List.map_nil]); first | done | rfl | (simp only [List.length_drop, List.length_take]; rfl)) ?_; (with_reducible refine (fixed_Clip.calls a0 t103 _ A4.out).mono ?_); rintro e w13 ⟨rfl, hb⟩; refine ⟨_, rfl, ?_⟩; have n0_ := Aside0.mk (below_step (by repeat (first | (with_reducible first | exact HB.out | apply below_alloc | apply pw_below_drewN | apply below_drew1) | exact HB.out)) hb); clear HB; have HB := n0_; clear n0_; (try clear hb); (try clear hb2); (try clear hk); (try clear hi)) | ((with_reducible refine gate_callee (f := 36) rfl ?_); refine goesL_ (some 14) rfl rfl Try.func36 (by kernel_rfl) rfl #[.int .i64 t102] rfl (by (try simp only [List.map_toArray, List.map_cons, List.map_nil]); first | done | rfl | (simp only [List.length_drop, List.length_take]; rfl)) ?_; (with_reducible refine (angle_away.calls t102 t104 _ A5.out).mono ?_); rintro e w14 ⟨rfl, hb⟩; refine ⟨_, rfl, ?_⟩; have n0_ := Aside0.mk (below_step (by repeat (first | (with_reducible first | exact HB.out | apply below_alloc | apply pw_below_drewN | apply below_drew1) | exact HB.out)) hb); clear HB; have HB := n0_; clear n0_; (try clear hb); (try clear hb2); (try clear hk); (try clear hi)) | ((with_reducible refine gate_callee (f := 36) rfl ?_); refine goesL_ (some 16) rfl rfl Try.func36 (by kernel_rfl) rfl #[.int .i64 t103] rfl (by (try simp only [List.map_toArray, List.map_cons, List.map_nil]); first | done | rfl | (simp only [List.length_drop, List.length_take]; rfl)) ?_; (with_reducible refine (angle_away.calls t103 t105 _ A6.out).mono ?_); rintro e w15 ⟨rfl, hb⟩; refine ⟨_, rfl, ?_⟩; have n0_ := Aside0.mk (below_step (by repeat (first | (with_reducible first | exact HB.out | apply below_alloc | apply pw_below_drewN | apply below_drew1) | exact HB.out)) hb); clear HB; have HB := n0_; clear n0_; (try clear hb); (try clear hb2); (try clear hk); (try clear hi)) | ((with_reducible refine gate_callee (f := 36) rfl ?_); refine goesL_ (some 19) rfl rfl Try.func36 (by kernel_rfl) rfl #[.int .i64 t102] rfl (by (try simp only [List.map_toArray, List.map_cons, List.map_nil]); first | done | rfl | (simp only [List.length_drop, List.length_take]; rfl)) ?_; (with_reducible refine (angle_away.calls t102 t106 _ A8.out).mono ?_); rintro e w16 ⟨rfl, hb⟩; refine ⟨_, rfl, ?_⟩; have n0_ := Aside0.mk (below_step (by repeat (first | (with_reducible first | exact HB.out | apply below_alloc | apply pw_below_drewN | apply below_drew1) | exact HB.out)) hb); clear HB; have HB := n0_; clear n0_; (try clear hb); (try clear hb2); (try clear hk); (try clear hi)) | ((with_reducible refine gate_callee (f := 36) rfl ?_); refine goesL_ (some 21) rfl rfl Try.func36 (by kernel_rfl) rfl #[.int .i64 t103] rfl (by (try simp only [List.map_toArray, List.map_cons, List.map_nil]); first | done | rfl | (simp only [List.length_drop, List.length_take]; rfl)) ?_; (with_reducible refine (angle_away.calls t103 t107 _ A9.out).mono ?_); rintro e w17 ⟨rfl, hb⟩; refine ⟨_, rfl, ?_⟩; have n0_ := Aside0.mk (below_step (by repeat (first | (with_reducible first | exact HB.out | apply below_alloc | apply pw_below_drewN | apply below_drew1) | exact HB.out)) hb); clear HB; have HB := n0_; clear n0_; (try clear hb); (try clear hb2); (try clear hk); (try clear hi)))
    go_ret
    exact ⟨by first | rfl | (simp [errW_none, errW_some] <;> rfl) | (simp only [← hji7, ← hji10]; first | rfl | (simp [errW_none, errW_some] <;> rfl)) | (simp [*, errW_none, errW_some] <;> rfl), by repeat (first | (with_reducible first | exact HB.out | apply below_alloc | apply pw_below_drewN | apply below_drew1) | exact HB.out)⟩
  · rw [if_neg c11] at H
    have c11b0 : ((ji7) == 0) = false := beq_eq_false_iff_ne.mpr c11
    have c11b1 : ((ji7) != 0) = true := bne_iff_ne.mpr c11
    replace H := Option.bind_eq_some_iff.mp H
    obtain ⟨t108, A180, H⟩ := H
    replace H : ((angle_away.f t102).bind fun t109 => (if t108 > t109 then (angle_Atan.j0 k t103 t102 (wrap64 (16384 - ((wrap64 ((wrap64 ((wrap64 (8192 * (wrap64 (Int.tdiv (wrap64 ((ji10) * 65536)) (ji7))))) * 65536)) + (wrap64 ((wrap64 (2847 * (wrap64 (Int.tdiv (wrap64 ((ji10) * 65536)) (ji7))))) * (wrap64 (65536 - (wrap64 (Int.tdiv (wrap64 ((ji10) * 65536)) (ji7))))))))) / 4294967296)))) else (angle_Atan.j0 k t103 t102 ((wrap64 ((wrap64 ((wrap64 (8192 * (wrap64 (Int.tdiv (wrap64 ((ji10) * 65536)) (ji7))))) * 65536)) + (wrap64 ((wrap64 (2847 * (wrap64 (Int.tdiv (wrap64 ((ji10) * 65536)) (ji7))))) * (wrap64 (65536 - (wrap64 (Int.tdiv (wrap64 ((ji10) * 65536)) (ji7))))))))) / 4294967296)))) = some r := H
    have A18 := Aside0.mk A180
    clear A180
    replace H := Option.bind_eq_some_iff.mp H
    obtain ⟨t109, A190, H⟩ := H
    replace H : (if t108 > t109 then (angle_Atan.j0 k t103 t102 (wrap64 (16384 - ((wrap64 ((wrap64 ((wrap64 (8192 * (wrap64 (Int.tdiv (wrap64 ((ji10) * 65536)) (ji7))))) * 65536)) + (wrap64 ((wrap64 (2847 * (wrap64 (Int.tdiv (wrap64 ((ji10) * 65536)) (ji7))))) * (wrap64 (65536 - (wrap64 (Int.tdiv (wrap64 ((ji10) * 65536)) (ji7))))))))) / 4294967296)))) else (angle_Atan.j0 k t103 t102 ((wrap64 ((wrap64 ((wrap64 (8192 * (wrap64 (Int.tdiv (wrap64 ((ji10) * 65536)) (ji7))))) * 65536)) + (wrap64 ((wrap64 (2847 * (wrap64 (Int.tdiv (wrap64 ((ji10) * 65536)) (ji7))))) * (wrap64 (65536 - (wrap64 (Int.tdiv (wrap64 ((ji10) * 65536)) (ji7))))))))) / 4294967296))) = some r := H
    have A19 := Aside0.mk A190
    clear A190
    have HC20 := Aside0.mk H
    clear H
    go_enter Try.func19, Try.ntmps19
    go_upto_if 43 with (first | ((with_reducible refine gate_callee (f := 35) rfl ?_); refine goesL_ (some 10) rfl rfl Try.func35 (by kernel_rfl) rfl #[.int .i64 a1] rfl (by (try simp only [List.map_toArray, List.map_cons, List.map_nil]); first | done | rfl | (simp only [List.length_drop, List.length_take]; rfl)) ?_; (with_reducible refine (fixed_Clip.calls a1 t102 _ A3.out).mono ?_); rintro e w21 ⟨rfl, hb⟩; refine ⟨_, rfl, ?_⟩; have n0_ := Aside0.mk (below_step (by repeat (first | (with_reducible first | exact HB.out | apply below_alloc | apply pw_below_drewN | apply below_drew1) | exact HB.out)) hb); clear HB; have HB := n0_; clear n0_; (try clear hb); (try clear hb2); (try clear hk); (try clear hi)) | ((with_reducible refine gate_callee (f := 35) rfl ?_); refine goesL_ (some 12) rfl rfl Try.func35 (by kernel_rfl) rfl #[.int .i64 a0] rfl (by (try simp only [List.map_toArray, List.map_cons, List.map_nil]); first | done | rfl | (simp only [List.length_drop, List.length_take]; rfl)) ?_; (with_reducible refine (fixed_Clip.calls a0 t103 _ A4.out).mono ?_); rintro e w22 ⟨rfl, hb⟩; refine ⟨_, rfl, ?_⟩; have n0_ := Aside0.mk (below_step (by repeat (first | (with_reducible first | exact HB.out | apply below_alloc | apply pw_below_drewN | apply below_drew1) | exact HB.out)) hb); clear HB; have HB := n0_; clear n0_; (try clear hb); (try clear hb2); (try clear hk); (try clear hi)) | ((with_reducible refine gate_callee (f := 36) rfl ?_); refine goesL_ (some 14) rfl rfl Try.func36 (by kernel_rfl) rfl #[.int .i64 t102] rfl (by (try simp only [List.map_toArray, List.map_cons, List.map_nil]); first | done | rfl | (simp only [List.length_drop, List.length_take]; rfl)) ?_; (with_reducible refine (angle_away.calls t102 t104 _ A5.out).mono ?_); rintro e w23 ⟨rfl, hb⟩; refine ⟨_, rfl, ?_⟩; have n0_ := Aside0.mk (below_step (by repeat (first | (with_reducible first | exact HB.out | apply below_alloc | apply pw_below_drewN | apply below_drew1) | exact HB.out)) hb); clear HB; have HB := n0_; clear n0_; (try clear hb); (try clear hb2); (try clear hk); (try clear hi)) | ((with_reducible refine gate_callee (f := 36) rfl ?_); refine goesL_ (some 16) rfl rfl Try.func36 (by kernel_rfl) rfl #[.int .i64 t103] rfl (by (try simp only [List.map_toArray, List.map_cons, List.map_nil]); first | done | rfl | (simp only [List.length_drop, List.length_take]; rfl)) ?_; (with_reducible refine (angle_away.calls t103 t105 _ A6.out).mono ?_); rintro e w24 ⟨rfl, hb⟩; refine ⟨_, rfl, ?_⟩; have n0_ := Aside0.mk (below_step (by repeat (first | (with_reducible first | exact HB.out | apply below_alloc | apply pw_below_drewN | apply below_drew1) | exact HB.out)) hb); clear HB; have HB := n0_; clear n0_; (try clear hb); (try clear hb2); (try clear hk); (try clear hi)) | ((with_reducible refine gate_callee (f := 36) rfl ?_); refine goesL_ (some 19) rfl rfl Try.func36 (by kernel_rfl) rfl #[.int .i64 t102] rfl (by (try simp only [List.map_toArray, List.map_cons, List.map_nil]); first | done | rfl | (simp only [List.length_drop, List.length_take]; rfl)) ?_; (with_reducible refine (angle_away.calls t102 t106 _ A8.out).mono ?_); rintro e w25 ⟨rfl, hb⟩; refine ⟨_, rfl, ?_⟩; have n0_ := Aside0.mk (below_step (by repeat (first | (with_reducible first | exact HB.out | apply below_alloc | apply pw_below_drewN | apply below_drew1) | exact HB.out)) hb); clear HB; have HB := n0_; clear n0_; (try clear hb); (try clear hb2); (try clear hk); (try clear hi)) | ((with_reducible refine gate_callee (f := 36) rfl ?_); refine goesL_ (some 21) rfl rfl Try.func36 (by kernel_rfl) rfl #[.int .i64 t103] rfl (by (try simp only [List.map_toArray, List.map_cons, List.map_nil]); first | done | rfl | (simp only [List.length_drop, List.length_take]; rfl)) ?_; (with_reducible refine (angle_away.calls t103 t107 _ A9.out).mono ?_); rintro e w26 ⟨rfl, hb⟩; refine ⟨_, rfl, ?_⟩; have n0_ := Aside0.mk (below_step (by repeat (first | (with_reducible first | exact HB.out | apply below_alloc | apply pw_below_drewN | apply below_drew1) | exact HB.out)) hb); clear HB; have HB := n0_; clear n0_; (try clear hb); (try clear hb2); (try clear hk); (try clear hi)) | ((with_reducible refine gate_callee (f := 36) rfl ?_); refine goesL_ (some 40) rfl rfl Try.func36 (by kernel_rfl) rfl #[.int .i64 t103] rfl (by (try simp only [List.map_toArray, List.map_cons, List.map_nil]); first | done | rfl | (simp only [List.length_drop, List.length_take]; rfl)) ?_; (with_reducible refine (angle_away.calls t103 t108 _ A18.out).mono ?_); rintro e w27 ⟨rfl, hb⟩; refine ⟨_, rfl, ?_⟩; have n0_ := Aside0.mk (below_step (by repeat (first | (with_reducible first | exact HB.out | apply below_alloc | apply pw_below_drewN | apply below_drew1) | exact HB.out)) hb); clear HB; have HB := n0_; clear n0_; (try clear hb); (try clear hb2); (try clear hk); (try clear hi)) | ((with_reducible refine gate_callee (f := 36) rfl ?_); refine goesL_ (some 42) rfl rfl Try.func36 (by kernel_rfl) rfl #[.int .i64 t102] rfl (by (try simp only [List.map_toArray, List.map_cons, List.map_nil]); first | done | rfl | (simp only [List.length_drop, List.length_take]; rfl)) ?_; (with_reducible refine (angle_away.calls t102 t109 _ A19.out).mono ?_); rintro e w28 ⟨rfl, hb⟩; refine ⟨_, rfl, ?_⟩; have n0_ := Aside0.mk (below_step (by repeat (first | (with_reducible first | exact HB.out | apply below_alloc | apply pw_below_drewN | apply below_drew1) | exact HB.out)) hb); clear HB; have HB := n0_; clear n0_; (try clear hb); (try clear hb2); (try clear hk); (try clear hi)))
    (try simp only [Act.put, List.setIfInBounds_toArray, List.set_cons_zero, List.set_cons_succ])
    go_cut [8] (fun v8 wc => ∃ (kq : Nat) (x8_19 : Int), v8 = .int .i64 x8_19 ∧ Aside0 (angle_Atan.j0 kq t103 t102 x8_19 = some r) ∧ Aside0 (kq ≤ k) ∧ Aside0 (Below w.heap.size w wc))
    case first =>
      have H := HC20.out
      clear HC20
      by_cases c29 : t108 > t109
      · rw [if_pos c29] at H
        have c29b0 : decide (t109 < t108) = true := decide_eq_true c29
        clear c29
        (first | rw [c29b0] | (simp only [i64_w, i32_w]; rw [c29b0]) | skip)
        have H' := Aside0.mk H
        clear H
        go_wp2
        go_meet
        case rel => exact ⟨_, (wrap64 (16384 - ((wrap64 ((wrap64 ((wrap64 (8192 * (wrap64 (Int.tdiv (wrap64 ((ji10) * 65536)) (ji7))))) * 65536)) + (wrap64 ((wrap64 (2847 * (wrap64 (Int.tdiv (wrap64 ((ji10) * 65536)) (ji7))))) * (wrap64 (65536 - (wrap64 (Int.tdiv (wrap64 ((ji10) * 65536)) (ji7))))))))) / 4294967296))), (by first | rfl | (simp; done) | (simp only [← hji7, ← hji10] <;> (first | rfl | simp)) | (simp [*]; done)), H', ⟨by first | omega | exact Nat.le_refl _⟩, ⟨by repeat (first | (with_reducible first | exact HB.out | apply below_alloc | apply pw_below_drewN | apply below_drew1) | exact HB.out)⟩⟩
      · rw [if_neg c29] at H
        have c29b0 : decide (t109 < t108) = false := decide_eq_false c29
        clear c29
        (first | rw [c29b0] | (simp only [i64_w, i32_w]; rw [c29b0]) | skip)
        have H' := Aside0.mk H
        clear H
        go_wp2
        go_meet
        case rel => exact ⟨_, ((wrap64 ((wrap64 ((wrap64 (8192 * (wrap64 (Int.tdiv (wrap64 ((ji10) * 65536)) (ji7))))) * 65536)) + (wrap64 ((wrap64 (2847 * (wrap64 (Int.tdiv (wrap64 ((ji10) * 65536)) (ji7))))) * (wrap64 (65536 - (wrap64 (Int.tdiv (wrap64 ((ji10) * 65536)) (ji7))))))))) / 4294967296), (by first | rfl | (simp; done) | (simp only [← hji7, ← hji10] <;> (first | rfl | simp)) | (simp [*]; done)), H', ⟨by first | omega | exact Nat.le_refl _⟩, ⟨by repeat (first | (with_reducible first | exact HB.out | apply below_alloc | apply pw_below_drewN | apply below_drew1) | exact HB.out)⟩⟩
    case rest =>
      clear HC20
      try clear c1
      try clear c2
      try clear p2
      try clear c3
      try clear p6
      try clear c11
      try clear c11b0
      try clear c11b1
      try clear c19
      try clear c29
      try clear c29b0
      obtain ⟨kq, x8_19, rfl, HA, HJ19, HB⟩ := hcut
      cases kq with
      | zero => exact absurd HA.out (by simp [angle_Atan.j0])
      | succ kj19 =>
        have H := HA.out
        clear HA
        simp only [angle_Atan.j0] at H
        by_cases c30 : t102 < 0
        · rw [if_pos c30] at H
          have c30b0 : decide (t102 < 0) = true := decide_eq_true c30
          clear c30
          by_cases c31 : t103 < 0
          · rw [if_pos c31] at H
            have c31b0 : decide (t103 < 0) = true := decide_eq_true c31
            clear c31
            replace H := Option.bind_eq_some_iff.mp H
            obtain ⟨t110, A320, H⟩ := H
            replace H : (some t110) = some r := H
            have A32 := Aside0.mk A320
            clear A320
            obtain rfl := Option.some.inj H
            go_wp2_with (first | ((with_reducible refine gate_callee (f := 15) rfl ?_); refine goesL_ (some 54) rfl rfl Try.func15 (by kernel_rfl) rfl #[.int .i64 (wrap64 (-(wrap64 (32768 - x8_19))))] rfl (by (try simp only [List.map_toArray, List.map_cons, List.map_nil]); first | done | rfl | (simp only [List.length_drop, List.length_take]; rfl)) ?_; (with_reducible refine (angle_Norm.calls (wrap64 (-(wrap64 (32768 - x8_19)))) t110 _ A32.out).mono ?_); rintro e w' ⟨rfl, ⟨nd, rfl⟩⟩; refine ⟨_, rfl, ?_⟩))
            go_ret
            exact ⟨by first | rfl | (simp [errW_none, errW_some] <;> rfl) | (simp only [← hji7, ← hji10]; first | rfl | (simp [errW_none, errW_some] <;> rfl)) | (simp [*, errW_none, errW_some] <;> rfl), by repeat (first | (with_reducible first | exact HB.out | apply below_alloc | apply pw_below_drewN | apply below_drew1) | exact HB.out)⟩
          · rw [if_neg c31] at H
            have c31b0 : decide (t103 < 0) = false := decide_eq_false c31
            clear c31
            obtain rfl := Option.some.inj H
            go_wp2
            go_ret
            exact ⟨by first | rfl | (simp [errW_none, errW_some] <;> rfl) | (simp only [← hji7, ← hji10]; first | rfl | (simp [errW_none, errW_some] <;> rfl)) | (simp [*, errW_none, errW_some] <;> rfl), by repeat (first | (with_reducible first | exact HB.out | apply below_alloc | apply pw_below_drewN | apply below_drew1) | exact HB.out)⟩
        · rw [if_neg c30] at H
          have c30b0 : decide (t102 < 0) = false := decide_eq_false c30
          clear c30
          by_cases c33 : t103 < 0
          · rw [if_pos c33] at H
            have c33b0 : decide (t103 < 0) = true := decide_eq_true c33
            clear c33
            replace H := Option.bind_eq_some_iff.mp H
            obtain ⟨t111, A340, H⟩ := H
            replace H : (some t111) = some r := H
            have A34 := Aside0.mk A340
            clear A340
            obtain rfl := Option.some.inj H
            go_wp2_with (first | ((with_reducible refine gate_callee (f := 15) rfl ?_); refine goesL_ (some 54) rfl rfl Try.func15 (by kernel_rfl) rfl #[.int .i64 (wrap64 (-x8_19))] rfl (by (try simp only [List.map_toArray, List.map_cons, List.map_nil]); first | done | rfl | (simp only [List.length_drop, List.length_take]; rfl)) ?_; (with_reducible refine (angle_Norm.calls (wrap64 (-x8_19)) t111 _ A34.out).mono ?_); rintro e w' ⟨rfl, ⟨nd, rfl⟩⟩; refine ⟨_, rfl, ?_⟩))
            go_ret
            exact ⟨by first | rfl | (simp [errW_none, errW_some] <;> rfl) | (simp only [← hji7, ← hji10]; first | rfl | (simp [errW_none, errW_some] <;> rfl)) | (simp [*, errW_none, errW_some] <;> rfl), by repeat (first | (with_reducible first | exact HB.out | apply below_alloc | apply pw_below_drewN | apply below_drew1) | exact HB.out)⟩
          · rw [if_neg c33] at H
            have c33b0 : decide (t103 < 0) = false := decide_eq_false c33
            clear c33
            obtain rfl := Option.some.inj H
            go_wp2
            go_ret
            exact ⟨by first | rfl | (simp [errW_none, errW_some] <;> rfl) | (simp only [← hji7, ← hji10]; first | rfl | (simp [errW_none, errW_some] <;> rfl)) | (simp [*, errW_none, errW_some] <;> rfl), by repeat (first | (with_reducible first | exact HB.out | apply below_alloc | apply pw_below_drewN | apply below_drew1) | exact HB.out)⟩

/-! ### fixed_floored: function 53 -/
def fixed_floored.f (a0 : Int) (a1 : Int) : Option (Int) := if a1 = 0 then (none) else (if (Int.tmod a0 a1) = 0 then (some (wrap64 (Int.tdiv a0 a1))) else (if ((decide (a0 < 0)) != (decide (a1 < 0))) = true then (some (wrap64 ((wrap64 (Int.tdiv a0 a1)) - 1))) else (some (wrap64 (Int.tdiv a0 a1)))))
set_option maxHeartbeats 8000000 in
set_option maxRecDepth 100000 in
theorem fixed_floored.calls (a0 : Int) (a1 : Int) (r : Int) (w : World) (h : fixed_floored.f a0 a1 = some r) :
    Calls Try.prog 53 #[.int .i64 a0, .int .i64 a1] w fun e w' => e = .returned (.int .i64 r) ∧ Drawn0 w w' := by
  have H : (if a1 = 0 then (none) else (if (Int.tmod a0 a1) = 0 then (some (wrap64 (Int.tdiv a0 a1))) else (if ((decide (a0 < 0)) != (decide (a1 < 0))) = true then (some (wrap64 ((wrap64 (Int.tdiv a0 a1)) - 1))) else (some (wrap64 (Int.tdiv a0 a1)))))) = some r := h
  clear h
  by_cases c3 : a1 = 0
  · rw [if_pos c3] at H
    exact absurd H (by simp)
  · rw [if_neg c3] at H
    have c3b0 : (a1 == 0) = false := beq_eq_false_iff_ne.mpr c3
    have c3b1 : (a1 != 0) = true := bne_iff_ne.mpr c3
    by_cases c4 : (Int.tmod a0 a1) = 0
    · rw [if_pos c4] at H
      have c4b0 : ((Int.tmod a0 a1) == 0) = true := beq_iff_eq.mpr c4
      have c4b1 : ((Int.tmod a0 a1) != 0) = false := bne_eq_false_iff_eq.mpr c4
      clear c4
      obtain rfl := Option.some.inj H
      go_enter Try.func53, Try.ntmps53
      go_wp2
      go_ret
      exact ⟨by first | rfl | (simp; done) | (simp [*]; done), by repeat (first | exact Drawn0.refl _ | apply Drawn0.step)⟩
    · rw [if_neg c4] at H
      have c4b0 : ((Int.tmod a0 a1) == 0) = false := beq_eq_false_iff_ne.mpr c4
      have c4b1 : ((Int.tmod a0 a1) != 0) = true := bne_iff_ne.mpr c4
      by_cases c5 : ((decide (a0 < 0)) != (decide (a1 < 0))) = true
      · rw [if_pos c5] at H
        have c5b0 : ((decide (a0 < 0)) != (decide (a1 < 0))) = true := c5
        (try (have c5b1 : decide ((decide (a0 < 0)) = (decide (a1 < 0))) = false := by simpa using c5))
        (try (have c5b2 : ((decide (a0 < 0)) == (decide (a1 < 0))) = false := by simpa using c5))
        (try (have c5b3 : ¬ ((decide (a0 < 0)) = (decide (a1 < 0))) := by simpa using c5))
        clear c5
        obtain rfl := Option.some.inj H
        go_enter Try.func53, Try.ntmps53
        go_wp2
        go_ret
        exact ⟨by first | rfl | (simp; done) | (simp [*]; done), by repeat (first | exact Drawn0.refl _ | apply Drawn0.step)⟩
      · rw [if_neg c5] at H
        have c5b0 : ((decide (a0 < 0)) != (decide (a1 < 0))) = false := by simpa using c5
        (try (have c5b1 : decide ((decide (a0 < 0)) = (decide (a1 < 0))) = true := by simpa using c5))
        (try (have c5b2 : ((decide (a0 < 0)) == (decide (a1 < 0))) = true := by simpa using c5))
        clear c5
        obtain rfl := Option.some.inj H
        go_enter Try.func53, Try.ntmps53
        go_wp2
        go_ret
        exact ⟨by first | rfl | (simp; done) | (simp [*]; done), by repeat (first | exact Drawn0.refl _ | apply Drawn0.step)⟩

/-! ### fixed_Ratio: function 37 -/
def fixed_Ratio.f (a0 : Int) (a1 : Int) : Option (Int) := (fixed_brought.f a0 (-70368744177664) 70368744177664).bind fun t112 => ((fixed_brought.f a1 (-70368744177664) 70368744177664).bind fun t113 => (if t113 = 0 then (some 0) else ((fixed_floored.f (wrap64 (t112 * 65536)) t113).bind fun t114 => ((fixed_Clip.f t114).bind fun t115 => (some t115)))))
set_option maxHeartbeats 8000000 in
set_option maxRecDepth 100000 in
theorem fixed_Ratio.calls (a0 : Int) (a1 : Int) (r : Int) (w : World) (h : fixed_Ratio.f a0 a1 = some r) :
    Calls Try.prog 37 #[.int .i64 a0, .int .i64 a1] w fun e w' => e = .returned (.int .i64 r) ∧ Below w.heap.size w w' := by
  have HB := Aside0.mk (Below.refl w.heap.size w)
  have H : ((fixed_brought.f a0 (-70368744177664) 70368744177664).bind fun t112 => ((fixed_brought.f a1 (-70368744177664) 70368744177664).bind fun t113 => (if t113 = 0 then (some 0) else ((fixed_floored.f (wrap64 (t112 * 65536)) t113).bind fun t114 => ((fixed_Clip.f t114).bind fun t115 => (some t115)))))) = some r := h
  clear h
  replace H := Option.bind_eq_some_iff.mp H
  obtain ⟨t112, A30, H⟩ := H
  replace H : ((fixed_brought.f a1 (-70368744177664) 70368744177664).bind fun t113 => (if t113 = 0 then (some 0) else ((fixed_floored.f (wrap64 (t112 * 65536)) t113).bind fun t114 => ((fixed_Clip.f t114).bind fun t115 => (some t115))))) = some r := H
  have A3 := Aside0.mk A30
  clear A30
  replace H := Option.bind_eq_some_iff.mp H
  obtain ⟨t113, A40, H⟩ := H
  replace H : (if t113 = 0 then (some 0) else ((fixed_floored.f (wrap64 (t112 * 65536)) t113).bind fun t114 => ((fixed_Clip.f t114).bind fun t115 => (some t115)))) = some r := H
  have A4 := Aside0.mk A40
  clear A40
  by_cases c5 : t113 = 0
  · rw [if_pos c5] at H
    have c5b0 : (t113 == 0) = true := beq_iff_eq.mpr c5
    have c5b1 : (t113 != 0) = false := bne_eq_false_iff_eq.mpr c5
    clear c5
    obtain rfl := Option.some.inj H
    go_enter Try.func37, Try.ntmps37
    go_wp2_with (first | ((with_reducible refine gate_callee (f := 52) rfl ?_); refine goesL_ (some 6) rfl rfl Try.func52 (by kernel_rfl) rfl #[.int .i64 a0, .int .i64 (-70368744177664), .int .i64 70368744177664] rfl (by (try simp only [List.map_toArray, List.map_cons, List.map_nil]); first | done | rfl | (simp only [List.length_drop, List.length_take]; rfl)) ?_; (with_reducible refine (fixed_brought.calls a0 (-70368744177664) 70368744177664 t112 _ A3.out).mono ?_); rintro e w6 ⟨rfl, hb⟩; refine ⟨_, rfl, ?_⟩; have n0_ := Aside0.mk (below_step (by repeat (first | (with_reducible first | exact HB.out | apply below_alloc | apply pw_below_drewN | apply below_drew1) | exact HB.out)) hb); clear HB; have HB := n0_; clear n0_; (try clear hb); (try clear hb2); (try clear hk); (try clear hi)) | ((with_reducible refine gate_callee (f := 52) rfl ?_); refine goesL_ (some 8) rfl rfl Try.func52 (by kernel_rfl) rfl #[.int .i64 a1, .int .i64 (-70368744177664), .int .i64 70368744177664] rfl (by (try simp only [List.map_toArray, List.map_cons, List.map_nil]); first | done | rfl | (simp only [List.length_drop, List.length_take]; rfl)) ?_; (with_reducible refine (fixed_brought.calls a1 (-70368744177664) 70368744177664 t113 _ A4.out).mono ?_); rintro e w7 ⟨rfl, hb⟩; refine ⟨_, rfl, ?_⟩; have n0_ := Aside0.mk (below_step (by repeat (first | (with_reducible first | exact HB.out | apply below_alloc | apply pw_below_drewN | apply below_drew1) | exact HB.out)) hb); clear HB; have HB := n0_; clear n0_; (try clear hb); (try clear hb2); (try clear hk); (try clear hi)))
    go_ret
    exact ⟨by first | rfl | (simp [errW_none, errW_some] <;> rfl) | (simp [*, errW_none, errW_some] <;> rfl), by repeat (first | (with_reducible first | exact HB.out | apply below_alloc | apply pw_below_drewN | apply below_drew1) | exact HB.out)⟩
  · rw [if_neg c5] at H
    have c5b0 : (t113 == 0) = false := beq_eq_false_iff_ne.mpr c5
    have c5b1 : (t113 != 0) = true := bne_iff_ne.mpr c5
    replace H := Option.bind_eq_some_iff.mp H
    obtain ⟨t114, A80, H⟩ := H
    replace H : ((fixed_Clip.f t114).bind fun t115 => (some t115)) = some r := H
    have A8 := Aside0.mk A80
    clear A80
    replace H := Option.bind_eq_some_iff.mp H
    obtain ⟨t115, A90, H⟩ := H
    replace H : (some t115) = some r := H
    have A9 := Aside0.mk A90
    clear A90
    obtain rfl := Option.some.inj H
    go_enter Try.func37, Try.ntmps37
    go_wp2_with (first | ((with_reducible refine gate_callee (f := 52) rfl ?_); refine goesL_ (some 6) rfl rfl Try.func52 (by kernel_rfl) rfl #[.int .i64 a0, .int .i64 (-70368744177664), .int .i64 70368744177664] rfl (by (try simp only [List.map_toArray, List.map_cons, List.map_nil]); first | done | rfl | (simp only [List.length_drop, List.length_take]; rfl)) ?_; (with_reducible refine (fixed_brought.calls a0 (-70368744177664) 70368744177664 t112 _ A3.out).mono ?_); rintro e w10 ⟨rfl, hb⟩; refine ⟨_, rfl, ?_⟩; have n0_ := Aside0.mk (below_step (by repeat (first | (with_reducible first | exact HB.out | apply below_alloc | apply pw_below_drewN | apply below_drew1) | exact HB.out)) hb); clear HB; have HB := n0_; clear n0_; (try clear hb); (try clear hb2); (try clear hk); (try clear hi)) | ((with_reducible refine gate_callee (f := 52) rfl ?_); refine goesL_ (some 8) rfl rfl Try.func52 (by kernel_rfl) rfl #[.int .i64 a1, .int .i64 (-70368744177664), .int .i64 70368744177664] rfl (by (try simp only [List.map_toArray, List.map_cons, List.map_nil]); first | done | rfl | (simp only [List.length_drop, List.length_take]; rfl)) ?_; (with_reducible refine (fixed_brought.calls a1 (-70368744177664) 70368744177664 t113 _ A4.out).mono ?_); rintro e w11 ⟨rfl, hb⟩; refine ⟨_, rfl, ?_⟩; have n0_ := Aside0.mk (below_step (by repeat (first | (with_reducible first | exact HB.out | apply below_alloc | apply pw_below_drewN | apply below_drew1) | exact HB.out)) hb); clear HB; have HB := n0_; clear n0_; (try clear hb); (try clear hb2); (try clear hk); (try clear hi)) | ((with_reducible refine gate_callee (f := 53) rfl ?_); refine goesL_ (some 14) rfl rfl Try.func53 (by kernel_rfl) rfl #[.int .i64 (wrap64 (t112 * 65536)), .int .i64 t113] rfl (by (try simp only [List.map_toArray, List.map_cons, List.map_nil]); first | done | rfl | (simp only [List.length_drop, List.length_take]; rfl)) ?_; (with_reducible refine (fixed_floored.calls (wrap64 (t112 * 65536)) t113 t114 _ A8.out).mono ?_); rintro e w' ⟨rfl, ⟨nd, rfl⟩⟩; refine ⟨_, rfl, ?_⟩) | ((with_reducible refine gate_callee (f := 35) rfl ?_); refine goesL_ (some 15) rfl rfl Try.func35 (by kernel_rfl) rfl #[.int .i64 t114] rfl (by (try simp only [List.map_toArray, List.map_cons, List.map_nil]); first | done | rfl | (simp only [List.length_drop, List.length_take]; rfl)) ?_; (with_reducible refine (fixed_Clip.calls t114 t115 _ A9.out).mono ?_); rintro e w12 ⟨rfl, hb⟩; refine ⟨_, rfl, ?_⟩; have n0_ := Aside0.mk (below_step (by repeat (first | (with_reducible first | exact HB.out | apply below_alloc | apply pw_below_drewN | apply below_drew1) | exact HB.out)) hb); clear HB; have HB := n0_; clear n0_; (try clear hb); (try clear hb2); (try clear hk); (try clear hi)))
    go_ret
    exact ⟨by first | rfl | (simp [errW_none, errW_some] <;> rfl) | (simp [*, errW_none, errW_some] <;> rfl), by repeat (first | (with_reducible first | exact HB.out | apply below_alloc | apply pw_below_drewN | apply below_drew1) | exact HB.out)⟩

/-! ### sweep_T: function 20 -/
def sweep_T.f (k : Nat) (a0 : Int) (a1 : Int) (a2 : Int) (a3 : Int) (a4 : Int) (a5 : Int) : Option (Int × Bool) := if (mx (-131072) (mn a2 131072)) = (mx (-131072) (mn a3 131072)) then (some (0, false)) else ((fixed_Clip.f a4).bind fun t116 => ((fixed_Clip.f a0).bind fun t117 => ((fixed_Clip.f (wrap64 (t116 - t117))).bind fun t118 => ((fixed_Clip.f a5).bind fun t119 => ((fixed_Clip.f a1).bind fun t120 => ((fixed_Clip.f (wrap64 (t119 - t120))).bind fun t121 => ((angle_Atan.f k t121 t118).bind fun t122 => ((fixed_Ratio.f (wrap64 (t122 - (mx (-131072) (mn a2 131072)))) ((mx (-131072) (mn a3 131072)) - (mx (-131072) (mn a2 131072)))).bind fun t123 => (some (t123, true))))))))))
theorem sweep_T.mono : ∀ a0 a1 a2 a3 a4 a5 k, LeO (sweep_T.f k a0 a1 a2 a3 a4 a5) (sweep_T.f (k + 1) a0 a1 a2 a3 a4 a5) := by
  intro a0 a1 a2 a3 a4 a5 k
  unfold sweep_T.f
  repeat' first
      | (with_reducible exact angle_Atan.mono _ _ _)
      | (with_reducible exact LeO.refl _)
      | (with_reducible exact LeO.none _)
      | (with_reducible refine LeO.ite ?_ ?_)
      | (with_reducible refine LeO.bind ?_ (fun _ => ?_))
      | exact angle_Atan.mono _ _ _
      | exact LeO.none _
      | refine LeO.ite ?_ ?_
      | refine LeO.bind ?_ (fun _ => ?_)
set_option maxHeartbeats 8000000 in
set_option maxRecDepth 100000 in
theorem sweep_T.calls (k : Nat) (a0 : Int) (a1 : Int) (a2 : Int) (a3 : Int) (a4 : Int) (a5 : Int) (r1 : Int) (r2 : Bool) (w : World) (h : sweep_T.f k a0 a1 a2 a3 a4 a5 = some (r1, r2)) :
    Calls Try.prog 20 #[.int .i64 a0, .int .i64 a1, .int .i64 a2, .int .i64 a3, .int .i64 a4, .int .i64 a5] w fun e w' => e = .returned (.tuple #[.int .i64 r1, .bool r2]) ∧ Below w.heap.size w w' := by
  have HB := Aside0.mk (Below.refl w.heap.size w)
  have H : (if (mx (-131072) (mn a2 131072)) = (mx (-131072) (mn a3 131072)) then (some (0, false)) else ((fixed_Clip.f a4).bind fun t116 => ((fixed_Clip.f a0).bind fun t117 => ((fixed_Clip.f (wrap64 (t116 - t117))).bind fun t118 => ((fixed_Clip.f a5).bind fun t119 => ((fixed_Clip.f a1).bind fun t120 => ((fixed_Clip.f (wrap64 (t119 - t120))).bind fun t121 => ((angle_Atan.f k t121 t118).bind fun t122 => ((fixed_Ratio.f (wrap64 (t122 - (mx (-131072) (mn a2 131072)))) ((mx (-131072) (mn a3 131072)) - (mx (-131072) (mn a2 131072)))).bind fun t123 => (some (t123, true))))))))))) = some (r1, r2) := h
  clear h
  obtain ⟨ji7, hji7⟩ : ∃ j_ : Int, (mn a2 131072) = j_ := ⟨_, rfl⟩
  replace H : (if (mx (-131072) (ji7)) = (mx (-131072) (mn a3 131072)) then (some (0, false)) else ((fixed_Clip.f a4).bind fun t116 => ((fixed_Clip.f a0).bind fun t117 => ((fixed_Clip.f (wrap64 (t116 - t117))).bind fun t118 => ((fixed_Clip.f a5).bind fun t119 => ((fixed_Clip.f a1).bind fun t120 => ((fixed_Clip.f (wrap64 (t119 - t120))).bind fun t121 => ((angle_Atan.f k t121 t118).bind fun t122 => ((fixed_Ratio.f (wrap64 (t122 - (mx (-131072) (ji7)))) ((mx (-131072) (mn a3 131072)) - (mx (-131072) (ji7)))).bind fun t123 => (some (t123, true))))))))))) = some (r1, r2) := by first | (rw [hji7] at H; exact H) | (simp only [hji7] at H ⊢; exact H)
  (try (have hji7h : ji7 ≤ 131072 := by (rw [← hji7]; unfold mn; (repeat' split) <;> omega)))
  (try (have hji7g : ji7 ≤ 64 := by omega))
  have hji7_ : (if 131072 < a2 then 131072 else a2) = ji7 := hji7
  obtain ⟨ji8, hji8⟩ : ∃ j_ : Int, (mx (-131072) (ji7)) = j_ := ⟨_, rfl⟩
  replace H : (if (ji8) = (mx (-131072) (mn a3 131072)) then (some (0, false)) else ((fixed_Clip.f a4).bind fun t116 => ((fixed_Clip.f a0).bind fun t117 => ((fixed_Clip.f (wrap64 (t116 - t117))).bind fun t118 => ((fixed_Clip.f a5).bind fun t119 => ((fixed_Clip.f a1).bind fun t120 => ((fixed_Clip.f (wrap64 (t119 - t120))).bind fun t121 => ((angle_Atan.f k t121 t118).bind fun t122 => ((fixed_Ratio.f (wrap64 (t122 - (ji8))) ((mx (-131072) (mn a3 131072)) - (ji8))).bind fun t123 => (some (t123, true))))))))))) = some (r1, r2) := by first | (rw [hji8] at H; exact H) | (simp only [hji8] at H ⊢; exact H)
  have hji8_ : (if (-131072) < (ji7) then (ji7) else (-131072)) = ji8 := hji8
  obtain ⟨ji9, hji9⟩ : ∃ j_ : Int, (mn a3 131072) = j_ := ⟨_, rfl⟩
  replace H : (if (ji8) = (mx (-131072) (ji9)) then (some (0, false)) else ((fixed_Clip.f a4).bind fun t116 => ((fixed_Clip.f a0).bind fun t117 => ((fixed_Clip.f (wrap64 (t116 - t117))).bind fun t118 => ((fixed_Clip.f a5).bind fun t119 => ((fixed_Clip.f a1).bind fun t120 => ((fixed_Clip.f (wrap64 (t119 - t120))).bind fun t121 => ((angle_Atan.f k t121 t118).bind fun t122 => ((fixed_Ratio.f (wrap64 (t122 - (ji8))) ((mx (-131072) (ji9)) - (ji8))).bind fun t123 => (some (t123, true))))))))))) = some (r1, r2) := by first | (rw [hji9] at H; exact H) | (simp only [hji9] at H ⊢; exact H)
  (try (have hji9h : ji9 ≤ 131072 := by (rw [← hji9]; unfold mn; (repeat' split) <;> omega)))
  (try (have hji9g : ji9 ≤ 64 := by omega))
  have hji9_ : (if 131072 < a3 then 131072 else a3) = ji9 := hji9
  obtain ⟨ji10, hji10⟩ : ∃ j_ : Int, (mx (-131072) (ji9)) = j_ := ⟨_, rfl⟩
  replace H : (if (ji8) = (ji10) then (some (0, false)) else ((fixed_Clip.f a4).bind fun t116 => ((fixed_Clip.f a0).bind fun t117 => ((fixed_Clip.f (wrap64 (t116 - t117))).bind fun t118 => ((fixed_Clip.f a5).bind fun t119 => ((fixed_Clip.f a1).bind fun t120 => ((fixed_Clip.f (wrap64 (t119 - t120))).bind fun t121 => ((angle_Atan.f k t121 t118).bind fun t122 => ((fixed_Ratio.f (wrap64 (t122 - (ji8))) ((ji10) - (ji8))).bind fun t123 => (some (t123, true))))))))))) = some (r1, r2) := by first | (rw [hji10] at H; exact H) | (simp only [hji10] at H ⊢; exact H)
  have hji10_ : (if (-131072) < (ji9) then (ji9) else (-131072)) = ji10 := hji10
  by_cases c11 : (ji8) = (ji10)
  · rw [if_pos c11] at H
    have c11b0 : ((ji8) == (ji10)) = true := beq_iff_eq.mpr c11
    have c11b1 : ((ji8) != (ji10)) = false := bne_eq_false_iff_eq.mpr c11
    clear c11
    simp only [Option.some.injEq, Prod.mk.injEq] at H
    obtain ⟨rfl, rfl⟩ := H
    go_enter Try.func20, Try.ntmps20
    go_wp2
    go_ret2
    exact ⟨by first | rfl | (simp [errW_none, errW_some] <;> rfl) | (simp only [← hji7, ← hji8, ← hji9, ← hji10]; first | rfl | (simp [errW_none, errW_some] <;> rfl)) | (simp [*, errW_none, errW_some] <;> rfl), by repeat (first | (with_reducible first | exact HB.out | apply below_alloc | apply pw_below_drewN | apply below_drew1) | exact HB.out)⟩
  · rw [if_neg c11] at H
    have c11b0 : ((ji8) == (ji10)) = false := beq_eq_false_iff_ne.mpr c11
    have c11b1 : ((ji8) != (ji10)) = true := bne_iff_ne.mpr c11
    replace H := Option.bind_eq_some_iff.mp H
    obtain ⟨t116, A120, H⟩ := H
    replace H : ((fixed_Clip.f a0).bind fun t117 => ((fixed_Clip.f (wrap64 (t116 - t117))).bind fun t118 => ((fixed_Clip.f a5).bind fun t119 => ((fixed_Clip.f a1).bind fun t120 => ((fixed_Clip.f (wrap64 (t119 - t120))).bind fun t121 => ((angle_Atan.f k t121 t118).bind fun t122 => ((fixed_Ratio.f (wrap64 (t122 - (ji8))) ((ji10) - (ji8))).bind fun t123 => (some (t123, true))))))))) = some (r1, r2) := H
    have A12 := Aside0.mk A120
    clear A120
    replace H := Option.bind_eq_some_iff.mp H
    obtain ⟨t117, A130, H⟩ := H
    replace H : ((fixed_Clip.f (wrap64 (t116 - t117))).bind fun t118 => ((fixed_Clip.f a5).bind fun t119 => ((fixed_Clip.f a1).bind fun t120 => ((fixed_Clip.f (wrap64 (t119 - t120))).bind fun t121 => ((angle_Atan.f k t121 t118).bind fun t122 => ((fixed_Ratio.f (wrap64 (t122 - (ji8))) ((ji10) - (ji8))).bind fun t123 => (some (t123, true)))))))) = some (r1, r2) := H
    have A13 := Aside0.mk A130
    clear A130
    replace H := Option.bind_eq_some_iff.mp H
    obtain ⟨t118, A140, H⟩ := H
    replace H : ((fixed_Clip.f a5).bind fun t119 => ((fixed_Clip.f a1).bind fun t120 => ((fixed_Clip.f (wrap64 (t119 - t120))).bind fun t121 => ((angle_Atan.f k t121 t118).bind fun t122 => ((fixed_Ratio.f (wrap64 (t122 - (ji8))) ((ji10) - (ji8))).bind fun t123 => (some (t123, true))))))) = some (r1, r2) := H
    have A14 := Aside0.mk A140
    clear A140
    replace H := Option.bind_eq_some_iff.mp H
    obtain ⟨t119, A150, H⟩ := H
    replace H : ((fixed_Clip.f a1).bind fun t120 => ((fixed_Clip.f (wrap64 (t119 - t120))).bind fun t121 => ((angle_Atan.f k t121 t118).bind fun t122 => ((fixed_Ratio.f (wrap64 (t122 - (ji8))) ((ji10) - (ji8))).bind fun t123 => (some (t123, true)))))) = some (r1, r2) := H
    have A15 := Aside0.mk A150
    clear A150
    replace H := Option.bind_eq_some_iff.mp H
    obtain ⟨t120, A160, H⟩ := H
    replace H : ((fixed_Clip.f (wrap64 (t119 - t120))).bind fun t121 => ((angle_Atan.f k t121 t118).bind fun t122 => ((fixed_Ratio.f (wrap64 (t122 - (ji8))) ((ji10) - (ji8))).bind fun t123 => (some (t123, true))))) = some (r1, r2) := H
    have A16 := Aside0.mk A160
    clear A160
    replace H := Option.bind_eq_some_iff.mp H
    obtain ⟨t121, A170, H⟩ := H
    replace H : ((angle_Atan.f k t121 t118).bind fun t122 => ((fixed_Ratio.f (wrap64 (t122 - (ji8))) ((ji10) - (ji8))).bind fun t123 => (some (t123, true)))) = some (r1, r2) := H
    have A17 := Aside0.mk A170
    clear A170
    replace H := Option.bind_eq_some_iff.mp H
    obtain ⟨t122, A180, H⟩ := H
    replace H : ((fixed_Ratio.f (wrap64 (t122 - (ji8))) ((ji10) - (ji8))).bind fun t123 => (some (t123, true))) = some (r1, r2) := H
    have A18 := Aside0.mk A180
    clear A180
    replace H := Option.bind_eq_some_iff.mp H
    obtain ⟨t123, A190, H⟩ := H
    replace H : (some (t123, true)) = some (r1, r2) := H
    have A19 := Aside0.mk A190
    clear A190
    simp only [Option.some.injEq, Prod.mk.injEq] at H
    obtain ⟨rfl, rfl⟩ := H
    go_enter Try.func20, Try.ntmps20
    go_wp2_with (first | ((with_reducible refine gate_callee (f := 35) rfl ?_); refine goesL_ (some 26) rfl rfl Try.func35 (by kernel_rfl) rfl #[.int .i64 a4] rfl (by (try simp only [List.map_toArray, List.map_cons, List.map_nil]); first | done | rfl | (simp only [List.length_drop, List.length_take]; rfl)) ?_; (with_reducible refine (fixed_Clip.calls a4 t116 _ A12.out).mono ?_); rintro e w20 ⟨rfl, hb⟩; refine ⟨_, rfl, ?_⟩; have n0_ := Aside0.mk (below_step (by repeat (first | (with_reducible first | exact HB.out | apply below_alloc | apply pw_below_drewN | apply below_drew1) | exact HB.out)) hb); clear HB; have HB := n0_; clear n0_; (try clear hb); (try clear hb2); (try clear hk); (try clear hi)) | ((with_reducible refine gate_callee (f := 35) rfl ?_); refine goesL_ (some 28) rfl rfl Try.func35 (by kernel_rfl) rfl #[.int .i64 a0] rfl (by (try simp only [List.map_toArray, List.map_cons, List.map_nil]); first | done | rfl | (simp only [List.length_drop, List.length_take]; rfl)) ?_; (with_reducible refine (fixed_Clip.calls a0 t117 _ A13.out).mono ?_); rintro e w21 ⟨rfl, hb⟩; refine ⟨_, rfl, ?_⟩; have n0_ := Aside0.mk (below_step (by repeat (first | (with_reducible first | exact HB.out | apply below_alloc | apply pw_below_drewN | apply below_drew1) | exact HB.out)) hb); clear HB; have HB := n0_; clear n0_; (try clear hb); (try clear hb2); (try clear hk); (try clear hi)) | ((with_reducible refine gate_callee (f := 35) rfl ?_); refine goesL_ (some 30) rfl rfl Try.func35 (by kernel_rfl) rfl #[.int .i64 (wrap64 (t116 - t117))] rfl (by (try simp only [List.map_toArray, List.map_cons, List.map_nil]); first | done | rfl | (simp only [List.length_drop, List.length_take]; rfl)) ?_; (with_reducible refine (fixed_Clip.calls (wrap64 (t116 - t117)) t118 _ A14.out).mono ?_); rintro e w22 ⟨rfl, hb⟩; refine ⟨_, rfl, ?_⟩; have n0_ := Aside0.mk (below_step (by repeat (first | (with_reducible first | exact HB.out | apply below_alloc | apply pw_below_drewN | apply below_drew1) | exact HB.out)) hb); clear HB; have HB := n0_; clear n0_; (try clear hb); (try clear hb2); (try clear hk); (try clear hi)) | ((with_reducible refine gate_callee (f := 35) rfl ?_); refine goesL_ (some 32) rfl rfl Try.func35 (by kernel_rfl) rfl #[.int .i64 a5] rfl (by (try simp only [List.map_toArray, List.map_cons, List.map_nil]); first | done | rfl | (simp only [List.length_drop, List.length_take]; rfl)) ?_; (with_reducible refine (fixed_Clip.calls a5 t119 _ A15.out).mono ?_); rintro e w23 ⟨rfl, hb⟩; refine ⟨_, rfl, ?_⟩; have n0_ := Aside0.mk (below_step (by repeat (first | (with_reducible first | exact HB.out | apply below_alloc | apply pw_below_drewN | apply below_drew1) | exact HB.out)) hb); clear HB; have HB := n0_; clear n0_; (try clear hb); (try clear hb2); (try clear hk); (try clear hi)) | ((with_reducible refine gate_callee (f := 35) rfl ?_); refine goesL_ (some 34) rfl rfl Try.func35 (by kernel_rfl) rfl #[.int .i64 a1] rfl (by (try simp only [List.map_toArray, List.map_cons, List.map_nil]); first | done | rfl | (simp only [List.length_drop, List.length_take]; rfl)) ?_; (with_reducible refine (fixed_Clip.calls a1 t120 _ A16.out).mono ?_); rintro e w24 ⟨rfl, hb⟩; refine ⟨_, rfl, ?_⟩; have n0_ := Aside0.mk (below_step (by repeat (first | (with_reducible first | exact HB.out | apply below_alloc | apply pw_below_drewN | apply below_drew1) | exact HB.out)) hb); clear HB; have HB := n0_; clear n0_; (try clear hb); (try clear hb2); (try clear hk); (try clear hi)) | ((with_reducible refine gate_callee (f := 35) rfl ?_); refine goesL_ (some 36) rfl rfl Try.func35 (by kernel_rfl) rfl #[.int .i64 (wrap64 (t119 - t120))] rfl (by (try simp only [List.map_toArray, List.map_cons, List.map_nil]); first | done | rfl | (simp only [List.length_drop, List.length_take]; rfl)) ?_; (with_reducible refine (fixed_Clip.calls (wrap64 (t119 - t120)) t121 _ A17.out).mono ?_); rintro e w25 ⟨rfl, hb⟩; refine ⟨_, rfl, ?_⟩; have n0_ := Aside0.mk (below_step (by repeat (first | (with_reducible first | exact HB.out | apply below_alloc | apply pw_below_drewN | apply below_drew1) | exact HB.out)) hb); clear HB; have HB := n0_; clear n0_; (try clear hb); (try clear hb2); (try clear hk); (try clear hi)) | ((with_reducible refine gate_callee (f := 19) rfl ?_); refine goesL_ (some 39) rfl rfl Try.func19 (by kernel_rfl) rfl #[.int .i64 t121, .int .i64 t118] rfl (by (try simp only [List.map_toArray, List.map_cons, List.map_nil]); first | done | rfl | (simp only [List.length_drop, List.length_take]; rfl)) ?_; (with_reducible refine (angle_Atan.calls k t121 t118 t122 _ A18.out).mono ?_); rintro e w26 ⟨rfl, hb⟩; refine ⟨_, rfl, ?_⟩; have n0_ := Aside0.mk (below_step (by repeat (first | (with_reducible first | exact HB.out | apply below_alloc | apply pw_below_drewN | apply below_drew1) | exact HB.out)) hb); clear HB; have HB := n0_; clear n0_; (try clear hb); (try clear hb2); (try clear hk); (try clear hi)) | ((with_reducible refine gate_callee (f := 37) rfl ?_); refine goesL_ (some 45) rfl rfl Try.func37 (by kernel_rfl) rfl #[.int .i64 (wrap64 (t122 - (ji8))), .int .i64 ((ji10) - (ji8))] rfl (by (try simp only [List.map_toArray, List.map_cons, List.map_nil]); first | done | (simp only [hji10, hji8]; rfl) | rfl | (simp only [List.length_drop, List.length_take]; rfl)) ?_; (with_reducible refine (fixed_Ratio.calls (wrap64 (t122 - (ji8))) ((ji10) - (ji8)) t123 _ A19.out).mono ?_); rintro e w27 ⟨rfl, hb⟩; refine ⟨_, rfl, ?_⟩; have n0_ := Aside0.mk (below_step (by repeat (first | (with_reducible first | exact HB.out | apply below_alloc | apply pw_below_drewN | apply below_drew1) | exact HB.out)) hb); clear HB; have HB := n0_; clear n0_; (try clear hb); (try clear hb2); (try clear hk); (try clear hi)))
    go_ret2
    exact ⟨by first | rfl | (simp [errW_none, errW_some] <;> rfl) | (simp only [← hji7, ← hji8, ← hji9, ← hji10]; first | rfl | (simp [errW_none, errW_some] <;> rfl)) | (simp [*, errW_none, errW_some] <;> rfl), by repeat (first | (with_reducible first | exact HB.out | apply below_alloc | apply pw_below_drewN | apply below_drew1) | exact HB.out)⟩

/-! ### versallaw23_known: function 21 -/
def versallaw23_known.f (k : Nat)  : Option (Bool) := (sweep_T.f k 0 0 0 65536 0 1).bind fun bt124 => (if bt124.1 = 16384 then (some bt124.2) else (some false))
theorem versallaw23_known.mono : ∀ k, LeO (versallaw23_known.f k ) (versallaw23_known.f (k + 1) ) := by
  intro  k
  unfold versallaw23_known.f
  repeat' first
      | (with_reducible exact sweep_T.mono _ _ _ _ _ _ _)
      | (with_reducible exact LeO.refl _)
      | (with_reducible exact LeO.none _)
      | (with_reducible refine LeO.ite ?_ ?_)
      | (with_reducible refine LeO.bind ?_ (fun _ => ?_))
      | exact sweep_T.mono _ _ _ _ _ _ _
      | exact LeO.none _
      | refine LeO.ite ?_ ?_
      | refine LeO.bind ?_ (fun _ => ?_)
set_option maxHeartbeats 8000000 in
set_option maxRecDepth 100000 in
theorem versallaw23_known.calls (k : Nat)  (r : Bool) (w : World) (h : versallaw23_known.f k  = some r) :
    Calls Try.prog 21 #[] w fun e w' => e = .returned (.bool r) ∧ Below w.heap.size w w' := by
  have HB := Aside0.mk (Below.refl w.heap.size w)
  have H : ((sweep_T.f k 0 0 0 65536 0 1).bind fun bt124 => (if bt124.1 = 16384 then (some bt124.2) else (some false))) = some r := h
  clear h
  replace H := Option.bind_eq_some_iff.mp H
  obtain ⟨⟨t124, t125⟩, A10, H⟩ := H
  replace H : (if t124 = 16384 then (some t125) else (some false)) = some r := H
  have A1 := Aside0.mk A10
  clear A10
  by_cases c2 : t124 = 16384
  · rw [if_pos c2] at H
    have c2b0 : (t124 == 16384) = true := beq_iff_eq.mpr c2
    have c2b1 : (t124 != 16384) = false := bne_eq_false_iff_eq.mpr c2
    clear c2
    obtain rfl := Option.some.inj H
    go_enter Try.func21, Try.ntmps21
    go_wp2_with (first | ((with_reducible refine gate_callee (f := 20) rfl ?_); refine goesL_ (some 4) rfl rfl Try.func20 (by kernel_rfl) rfl #[.int .i64 0, .int .i64 0, .int .i64 0, .int .i64 65536, .int .i64 0, .int .i64 1] rfl (by (try simp only [List.map_toArray, List.map_cons, List.map_nil]); first | done | rfl | (simp only [List.length_drop, List.length_take]; rfl)) ?_; (with_reducible refine (sweep_T.calls k 0 0 0 65536 0 1 t124 t125 _ A1.out).mono ?_); rintro e w3 ⟨rfl, hb⟩; refine ⟨_, rfl, ?_⟩; have n0_ := Aside0.mk (below_step (by repeat (first | (with_reducible first | exact HB.out | apply below_alloc | apply pw_below_drewN | apply below_drew1) | exact HB.out)) hb); clear HB; have HB := n0_; clear n0_; (try clear hb); (try clear hb2); (try clear hk); (try clear hi)))
    go_ret
    exact ⟨by first | rfl | (simp [errW_none, errW_some] <;> rfl) | (simp [*, errW_none, errW_some] <;> rfl), by repeat (first | (with_reducible first | exact HB.out | apply below_alloc | apply pw_below_drewN | apply below_drew1) | exact HB.out)⟩
  · rw [if_neg c2] at H
    have c2b0 : (t124 == 16384) = false := beq_eq_false_iff_ne.mpr c2
    have c2b1 : (t124 != 16384) = true := bne_iff_ne.mpr c2
    obtain rfl := Option.some.inj H
    go_enter Try.func21, Try.ntmps21
    go_wp2_with (first | ((with_reducible refine gate_callee (f := 20) rfl ?_); refine goesL_ (some 4) rfl rfl Try.func20 (by kernel_rfl) rfl #[.int .i64 0, .int .i64 0, .int .i64 0, .int .i64 65536, .int .i64 0, .int .i64 1] rfl (by (try simp only [List.map_toArray, List.map_cons, List.map_nil]); first | done | rfl | (simp only [List.length_drop, List.length_take]; rfl)) ?_; (with_reducible refine (sweep_T.calls k 0 0 0 65536 0 1 t124 t125 _ A1.out).mono ?_); rintro e w4 ⟨rfl, hb⟩; refine ⟨_, rfl, ?_⟩; have n0_ := Aside0.mk (below_step (by repeat (first | (with_reducible first | exact HB.out | apply below_alloc | apply pw_below_drewN | apply below_drew1) | exact HB.out)) hb); clear HB; have HB := n0_; clear n0_; (try clear hb); (try clear hb2); (try clear hk); (try clear hi)))
    go_ret
    exact ⟨by first | rfl | (simp [errW_none, errW_some] <;> rfl) | (simp [*, errW_none, errW_some] <;> rfl), by repeat (first | (with_reducible first | exact HB.out | apply below_alloc | apply pw_below_drewN | apply below_drew1) | exact HB.out)⟩

/-! ### versallaw23_SweepKnown: function 5 -/
def versallaw23_SweepKnown.f (k : Nat)  : Option (Bool) := (sweep_T.f k 0 0 77 77 5 5).bind fun bt126 => ((sweep_T.f k 10 10 16384 32768 10 99).bind fun bt128 => ((sweep_T.f k 10 10 16384 32768 (-50) 10).bind fun bt130 => ((sweep_T.f k 0 0 32768 0 5 0).bind fun bt132 => ((sweep_T.f k 0 0 0 32768 0 (-5)).bind fun bt134 => ((sweep_T.f k 0 0 1099511627776 2199023255552 0 5).bind fun bt136 => ((versallaw23_known.f k).bind fun t138 => (if t138 = true then (if bt126.2 = true then (some false) else (if bt128.1 = 0 then (if bt128.2 = true then (if bt130.1 = 65536 then (if bt130.2 = true then (if bt132.1 = 65536 then (if bt132.2 = true then (if bt134.1 = 98304 then (if bt134.2 = true then (some (!bt136.2)) else (some false)) else (some false)) else (some false)) else (some false)) else (some false)) else (some false)) else (some false)) else (some false))) else (some false))))))))
theorem versallaw23_SweepKnown.mono : ∀ k, LeO (versallaw23_SweepKnown.f k ) (versallaw23_SweepKnown.f (k + 1) ) := by
  intro  k
  unfold versallaw23_SweepKnown.f
  repeat' first
      | (with_reducible exact sweep_T.mono _ _ _ _ _ _ _)
      | (with_reducible exact versallaw23_known.mono _)
      | (with_reducible exact LeO.refl _)
      | (with_reducible exact LeO.none _)
      | (with_reducible refine LeO.ite ?_ ?_)
      | (with_reducible refine LeO.bind ?_ (fun _ => ?_))
      | exact sweep_T.mono _ _ _ _ _ _ _
      | exact versallaw23_known.mono _
      | exact LeO.none _
      | refine LeO.ite ?_ ?_
      | refine LeO.bind ?_ (fun _ => ?_)
set_option maxHeartbeats 8000000 in
set_option maxRecDepth 100000 in
theorem versallaw23_SweepKnown.calls (k : Nat)  (r : Bool) (w : World) (h : versallaw23_SweepKnown.f k  = some r) :
    Calls Try.prog 5 #[] w fun e w' => e = .returned (.bool r) ∧ Below w.heap.size w w' := by
  have HB := Aside0.mk (Below.refl w.heap.size w)
  have H : ((sweep_T.f k 0 0 77 77 5 5).bind fun bt126 => ((sweep_T.f k 10 10 16384 32768 10 99).bind fun bt128 => ((sweep_T.f k 10 10 16384 32768 (-50) 10).bind fun bt130 => ((sweep_T.f k 0 0 32768 0 5 0).bind fun bt132 => ((sweep_T.f k 0 0 0 32768 0 (-5)).bind fun bt134 => ((sweep_T.f k 0 0 1099511627776 2199023255552 0 5).bind fun bt136 => ((versallaw23_known.f k).bind fun t138 => (if t138 = true then (if bt126.2 = true then (some false) else (if bt128.1 = 0 then (if bt128.2 = true then (if bt130.1 = 65536 then (if bt130.2 = true then (if bt132.1 = 65536 then (if bt132.2 = true then (if bt134.1 = 98304 then (if bt134.2 = true then (some (!bt136.2)) else (some false)) else (some false)) else (some false)) else (some false)) else (some false)) else (some false)) else (some false)) else (some false))) else (some false))))))))) = some r := h
  clear h
  replace H := Option.bind_eq_some_iff.mp H
  obtain ⟨⟨t126, t127⟩, A10, H⟩ := H
  replace H : ((sweep_T.f k 10 10 16384 32768 10 99).bind fun bt128 => ((sweep_T.f k 10 10 16384 32768 (-50) 10).bind fun bt130 => ((sweep_T.f k 0 0 32768 0 5 0).bind fun bt132 => ((sweep_T.f k 0 0 0 32768 0 (-5)).bind fun bt134 => ((sweep_T.f k 0 0 1099511627776 2199023255552 0 5).bind fun bt136 => ((versallaw23_known.f k).bind fun t138 => (if t138 = true then (if t127 = true then (some false) else (if bt128.1 = 0 then (if bt128.2 = true then (if bt130.1 = 65536 then (if bt130.2 = true then (if bt132.1 = 65536 then (if bt132.2 = true then (if bt134.1 = 98304 then (if bt134.2 = true then (some (!bt136.2)) else (some false)) else (some false)) else (some false)) else (some false)) else (some false)) else (some false)) else (some false)) else (some false))) else (some false)))))))) = some r := H
  have A1 := Aside0.mk A10
  clear A10
  replace H := Option.bind_eq_some_iff.mp H
  obtain ⟨⟨t128, t129⟩, A20, H⟩ := H
  replace H : ((sweep_T.f k 10 10 16384 32768 (-50) 10).bind fun bt130 => ((sweep_T.f k 0 0 32768 0 5 0).bind fun bt132 => ((sweep_T.f k 0 0 0 32768 0 (-5)).bind fun bt134 => ((sweep_T.f k 0 0 1099511627776 2199023255552 0 5).bind fun bt136 => ((versallaw23_known.f k).bind fun t138 => (if t138 = true then (if t127 = true then (some false) else (if t128 = 0 then (if t129 = true then (if bt130.1 = 65536 then (if bt130.2 = true then (if bt132.1 = 65536 then (if bt132.2 = true then (if bt134.1 = 98304 then (if bt134.2 = true then (some (!bt136.2)) else (some false)) else (some false)) else (some false)) else (some false)) else (some false)) else (some false)) else (some false)) else (some false))) else (some false))))))) = some r := H
  have A2 := Aside0.mk A20
  clear A20
  replace H := Option.bind_eq_some_iff.mp H
  obtain ⟨⟨t130, t131⟩, A30, H⟩ := H
  replace H : ((sweep_T.f k 0 0 32768 0 5 0).bind fun bt132 => ((sweep_T.f k 0 0 0 32768 0 (-5)).bind fun bt134 => ((sweep_T.f k 0 0 1099511627776 2199023255552 0 5).bind fun bt136 => ((versallaw23_known.f k).bind fun t138 => (if t138 = true then (if t127 = true then (some false) else (if t128 = 0 then (if t129 = true then (if t130 = 65536 then (if t131 = true then (if bt132.1 = 65536 then (if bt132.2 = true then (if bt134.1 = 98304 then (if bt134.2 = true then (some (!bt136.2)) else (some false)) else (some false)) else (some false)) else (some false)) else (some false)) else (some false)) else (some false)) else (some false))) else (some false)))))) = some r := H
  have A3 := Aside0.mk A30
  clear A30
  replace H := Option.bind_eq_some_iff.mp H
  obtain ⟨⟨t132, t133⟩, A40, H⟩ := H
  replace H : ((sweep_T.f k 0 0 0 32768 0 (-5)).bind fun bt134 => ((sweep_T.f k 0 0 1099511627776 2199023255552 0 5).bind fun bt136 => ((versallaw23_known.f k).bind fun t138 => (if t138 = true then (if t127 = true then (some false) else (if t128 = 0 then (if t129 = true then (if t130 = 65536 then (if t131 = true then (if t132 = 65536 then (if t133 = true then (if bt134.1 = 98304 then (if bt134.2 = true then (some (!bt136.2)) else (some false)) else (some false)) else (some false)) else (some false)) else (some false)) else (some false)) else (some false)) else (some false))) else (some false))))) = some r := H
  have A4 := Aside0.mk A40
  clear A40
  replace H := Option.bind_eq_some_iff.mp H
  obtain ⟨⟨t134, t135⟩, A50, H⟩ := H
  replace H : ((sweep_T.f k 0 0 1099511627776 2199023255552 0 5).bind fun bt136 => ((versallaw23_known.f k).bind fun t138 => (if t138 = true then (if t127 = true then (some false) else (if t128 = 0 then (if t129 = true then (if t130 = 65536 then (if t131 = true then (if t132 = 65536 then (if t133 = true then (if t134 = 98304 then (if t135 = true then (some (!bt136.2)) else (some false)) else (some false)) else (some false)) else (some false)) else (some false)) else (some false)) else (some false)) else (some false))) else (some false)))) = some r := H
  have A5 := Aside0.mk A50
  clear A50
  replace H := Option.bind_eq_some_iff.mp H
  obtain ⟨⟨t136, t137⟩, A60, H⟩ := H
  replace H : ((versallaw23_known.f k).bind fun t138 => (if t138 = true then (if t127 = true then (some false) else (if t128 = 0 then (if t129 = true then (if t130 = 65536 then (if t131 = true then (if t132 = 65536 then (if t133 = true then (if t134 = 98304 then (if t135 = true then (some (!t137)) else (some false)) else (some false)) else (some false)) else (some false)) else (some false)) else (some false)) else (some false)) else (some false))) else (some false))) = some r := H
  have A6 := Aside0.mk A60
  clear A60
  replace H := Option.bind_eq_some_iff.mp H
  obtain ⟨t138, A70, H⟩ := H
  replace H : (if t138 = true then (if t127 = true then (some false) else (if t128 = 0 then (if t129 = true then (if t130 = 65536 then (if t131 = true then (if t132 = 65536 then (if t133 = true then (if t134 = 98304 then (if t135 = true then (some (!t137)) else (some false)) else (some false)) else (some false)) else (some false)) else (some false)) else (some false)) else (some false)) else (some false))) else (some false)) = some r := H
  have A7 := Aside0.mk A70
  clear A70
  by_cases c8 : t138 = true
  · subst c8
    have H1 : (if t127 = true then (some false) else (if t128 = 0 then (if t129 = true then (if t130 = 65536 then (if t131 = true then (if t132 = 65536 then (if t133 = true then (if t134 = 98304 then (if t135 = true then (some (!t137)) else (some false)) else (some false)) else (some false)) else (some false)) else (some false)) else (some false)) else (some false)) else (some false))) = some r := by rw [if_pos rfl] at H; exact H
    clear H
    have H := H1
    clear H1
    by_cases c9 : t127 = true
    · subst c9
      have H1 : (some false) = some r := by rw [if_pos rfl] at H; exact H
      clear H
      have H := H1
      clear H1
      obtain rfl := Option.some.inj H
      go_enter Try.func5, Try.ntmps5
      go_wp2_with (first | ((with_reducible refine gate_callee (f := 20) rfl ?_); refine goesL_ (some 14) rfl rfl Try.func20 (by kernel_rfl) rfl #[.int .i64 0, .int .i64 0, .int .i64 77, .int .i64 77, .int .i64 5, .int .i64 5] rfl (by (try simp only [List.map_toArray, List.map_cons, List.map_nil]); first | done | rfl | (simp only [List.length_drop, List.length_take]; rfl)) ?_; (with_reducible refine (sweep_T.calls k 0 0 77 77 5 5 t126 true _ A1.out).mono ?_); rintro e w10 ⟨rfl, hb⟩; refine ⟨_, rfl, ?_⟩; have n0_ := Aside0.mk (below_step (by repeat (first | (with_reducible first | exact HB.out | apply below_alloc | apply pw_below_drewN | apply below_drew1) | exact HB.out)) hb); clear HB; have HB := n0_; clear n0_; (try clear hb); (try clear hb2); (try clear hk); (try clear hi)) | ((with_reducible refine gate_callee (f := 20) rfl ?_); refine goesL_ (some 18) rfl rfl Try.func20 (by kernel_rfl) rfl #[.int .i64 10, .int .i64 10, .int .i64 16384, .int .i64 32768, .int .i64 10, .int .i64 99] rfl (by (try simp only [List.map_toArray, List.map_cons, List.map_nil]); first | done | rfl | (simp only [List.length_drop, List.length_take]; rfl)) ?_; (with_reducible refine (sweep_T.calls k 10 10 16384 32768 10 99 t128 t129 _ A2.out).mono ?_); rintro e w11 ⟨rfl, hb⟩; refine ⟨_, rfl, ?_⟩; have n0_ := Aside0.mk (below_step (by repeat (first | (with_reducible first | exact HB.out | apply below_alloc | apply pw_below_drewN | apply below_drew1) | exact HB.out)) hb); clear HB; have HB := n0_; clear n0_; (try clear hb); (try clear hb2); (try clear hk); (try clear hi)) | ((with_reducible refine gate_callee (f := 20) rfl ?_); refine goesL_ (some 22) rfl rfl Try.func20 (by kernel_rfl) rfl #[.int .i64 10, .int .i64 10, .int .i64 16384, .int .i64 32768, .int .i64 (-50), .int .i64 10] rfl (by (try simp only [List.map_toArray, List.map_cons, List.map_nil]); first | done | rfl | (simp only [List.length_drop, List.length_take]; rfl)) ?_; (with_reducible refine (sweep_T.calls k 10 10 16384 32768 (-50) 10 t130 t131 _ A3.out).mono ?_); rintro e w12 ⟨rfl, hb⟩; refine ⟨_, rfl, ?_⟩; have n0_ := Aside0.mk (below_step (by repeat (first | (with_reducible first | exact HB.out | apply below_alloc | apply pw_below_drewN | apply below_drew1) | exact HB.out)) hb); clear HB; have HB := n0_; clear n0_; (try clear hb); (try clear hb2); (try clear hk); (try clear hi)) | ((with_reducible refine gate_callee (f := 20) rfl ?_); refine goesL_ (some 26) rfl rfl Try.func20 (by kernel_rfl) rfl #[.int .i64 0, .int .i64 0, .int .i64 32768, .int .i64 0, .int .i64 5, .int .i64 0] rfl (by (try simp only [List.map_toArray, List.map_cons, List.map_nil]); first | done | rfl | (simp only [List.length_drop, List.length_take]; rfl)) ?_; (with_reducible refine (sweep_T.calls k 0 0 32768 0 5 0 t132 t133 _ A4.out).mono ?_); rintro e w13 ⟨rfl, hb⟩; refine ⟨_, rfl, ?_⟩; have n0_ := Aside0.mk (below_step (by repeat (first | (with_reducible first | exact HB.out | apply below_alloc | apply pw_below_drewN | apply below_drew1) | exact HB.out)) hb); clear HB; have HB := n0_; clear n0_; (try clear hb); (try clear hb2); (try clear hk); (try clear hi)) | ((with_reducible refine gate_callee (f := 20) rfl ?_); refine goesL_ (some 30) rfl rfl Try.func20 (by kernel_rfl) rfl #[.int .i64 0, .int .i64 0, .int .i64 0, .int .i64 32768, .int .i64 0, .int .i64 (-5)] rfl (by (try simp only [List.map_toArray, List.map_cons, List.map_nil]); first | done | rfl | (simp only [List.length_drop, List.length_take]; rfl)) ?_; (with_reducible refine (sweep_T.calls k 0 0 0 32768 0 (-5) t134 t135 _ A5.out).mono ?_); rintro e w14 ⟨rfl, hb⟩; refine ⟨_, rfl, ?_⟩; have n0_ := Aside0.mk (below_step (by repeat (first | (with_reducible first | exact HB.out | apply below_alloc | apply pw_below_drewN | apply below_drew1) | exact HB.out)) hb); clear HB; have HB := n0_; clear n0_; (try clear hb); (try clear hb2); (try clear hk); (try clear hi)) | ((with_reducible refine gate_callee (f := 20) rfl ?_); refine goesL_ (some 34) rfl rfl Try.func20 (by kernel_rfl) rfl #[.int .i64 0, .int .i64 0, .int .i64 1099511627776, .int .i64 2199023255552, .int .i64 0, .int .i64 5] rfl (by (try simp only [List.map_toArray, List.map_cons, List.map_nil]); first | done | rfl | (simp only [List.length_drop, List.length_take]; rfl)) ?_; (with_reducible refine (sweep_T.calls k 0 0 1099511627776 2199023255552 0 5 t136 t137 _ A6.out).mono ?_); rintro e w15 ⟨rfl, hb⟩; refine ⟨_, rfl, ?_⟩; have n0_ := Aside0.mk (below_step (by repeat (first | (with_reducible first | exact HB.out | apply below_alloc | apply pw_below_drewN | apply below_drew1) | exact HB.out)) hb); clear HB; have HB := n0_; clear n0_; (try clear hb); (try clear hb2); (try clear hk); (try clear hi)) | ((with_reducible refine gate_callee (f := 21) rfl ?_); refine goesL_ (some 37) rfl rfl Try.func21 (by kernel_rfl) rfl #[] rfl (by (try simp only [List.map_toArray, List.map_cons, List.map_nil]); first | done | rfl | (simp only [List.length_drop, List.length_take]; rfl)) ?_; (with_reducible refine (versallaw23_known.calls k  true _ A7.out).mono ?_); rintro e w16 ⟨rfl, hb⟩; refine ⟨_, rfl, ?_⟩; have n0_ := Aside0.mk (below_step (by repeat (first | (with_reducible first | exact HB.out | apply below_alloc | apply pw_below_drewN | apply below_drew1) | exact HB.out)) hb); clear HB; have HB := n0_; clear n0_; (try clear hb); (try clear hb2); (try clear hk); (try clear hi)))
      go_ret
      exact ⟨by first | rfl | (simp [errW_none, errW_some] <;> rfl) | (simp [*, errW_none, errW_some] <;> rfl), by repeat (first | (with_reducible first | exact HB.out | apply below_alloc | apply pw_below_drewN | apply below_drew1) | exact HB.out)⟩
    · replace c9 := Bool.eq_false_iff.mpr c9
      subst c9
      have H1 : (if t128 = 0 then (if t129 = true then (if t130 = 65536 then (if t131 = true then (if t132 = 65536 then (if t133 = true then (if t134 = 98304 then (if t135 = true then (some (!t137)) else (some false)) else (some false)) else (some false)) else (some false)) else (some false)) else (some false)) else (some false)) else (some false)) = some r := by rw [if_neg (show ¬ (false = true) by decide)] at H; exact H
      clear H
      have H := H1
      clear H1
      by_cases c17 : t128 = 0
      · rw [if_pos c17] at H
        have c17b0 : (t128 == 0) = true := beq_iff_eq.mpr c17
        have c17b1 : (t128 != 0) = false := bne_eq_false_iff_eq.mpr c17
        clear c17
        by_cases c18 : t129 = true
        · subst c18
          have H1 : (if t130 = 65536 then (if t131 = true then (if t132 = 65536 then (if t133 = true then (if t134 = 98304 then (if t135 = true then (some (!t137)) else (some false)) else (some false)) else (some false)) else (some false)) else (some false)) else (some false)) = some r := by rw [if_pos rfl] at H; exact H
          clear H
          have H := H1
          clear H1
          by_cases c19 : t130 = 65536
          · rw [if_pos c19] at H
            have c19b0 : (t130 == 65536) = true := beq_iff_eq.mpr c19
            have c19b1 : (t130 != 65536) = false := bne_eq_false_iff_eq.mpr c19
            clear c19
            by_cases c20 : t131 = true
            · subst c20
              have H1 : (if t132 = 65536 then (if t133 = true then (if t134 = 98304 then (if t135 = true then (some (!t137)) else (some false)) else (some false)) else (some false)) else (some false)) = some r := by rw [if_pos rfl] at H; exact H
              clear H
              have H := H1
              clear H1
              by_cases c21 : t132 = 65536
              · rw [if_pos c21] at H
                have c21b0 : (t132 == 65536) = true := beq_iff_eq.mpr c21
                have c21b1 : (t132 != 65536) = false := bne_eq_false_iff_eq.mpr c21
                clear c21
                by_cases c22 : t133 = true
                · subst c22
                  have H1 : (if t134 = 98304 then (if t135 = true then (some (!t137)) else (some false)) else (some false)) = some r := by rw [if_pos rfl] at H; exact H
                  clear H
                  have H := H1
                  clear H1
                  by_cases c23 : t134 = 98304
                  · rw [if_pos c23] at H
                    have c23b0 : (t134 == 98304) = true := beq_iff_eq.mpr c23
                    have c23b1 : (t134 != 98304) = false := bne_eq_false_iff_eq.mpr c23
                    clear c23
                    by_cases c24 : t135 = true
                    · subst c24
                      have H1 : (some (!t137)) = some r := by rw [if_pos rfl] at H; exact H
                      clear H
                      have H := H1
                      clear H1
                      obtain rfl := Option.some.inj H
                      go_enter Try.func5, Try.ntmps5
                      go_wp2_with (first | ((with_reducible refine gate_callee (f := 20) rfl ?_); refine goesL_ (some 14) rfl rfl Try.func20 (by kernel_rfl) rfl #[.int .i64 0, .int .i64 0, .int .i64 77, .int .i64 77, .int .i64 5, .int .i64 5] rfl (by (try simp only [List.map_toArray, List.map_cons, List.map_nil]); first | done | rfl | (simp only [List.length_drop, List.length_take]; rfl)) ?_; (with_reducible refine (sweep_T.calls k 0 0 77 77 5 5 t126 false _ A1.out).mono ?_); rintro e w25 ⟨rfl, hb⟩; refine ⟨_, rfl, ?_⟩; have n0_ := Aside0.mk (below_step (by repeat (first | (with_reducible first | exact HB.out | apply below_alloc | apply pw_below_drewN | apply below_drew1) | exact HB.out)) hb); clear HB; have HB := n0_; clear n0_; (try clear hb); (try clear hb2); (try clear hk); (try clear hi)) | ((with_reducible refine gate_callee (f := 20) rfl ?_); refine goesL_ (some 18) rfl rfl Try.func20 (by kernel_rfl) rfl #[.int .i64 10, .int .i64 10, .int .i64 16384, .int .i64 32768, .int .i64 10, .int .i64 99] rfl (by (try simp only [List.map_toArray, List.map_cons, List.map_nil]); first | done | rfl | (simp only [List.length_drop, List.length_take]; rfl)) ?_; (with_reducible refine (sweep_T.calls k 10 10 16384 32768 10 99 t128 true _ A2.out).mono ?_); rintro e w26 ⟨rfl, hb⟩; refine ⟨_, rfl, ?_⟩; have n0_ := Aside0.mk (below_step (by repeat (first | (with_reducible first | exact HB.out | apply below_alloc | apply pw_below_drewN | apply below_drew1) | exact HB.out)) hb); clear HB; have HB := n0_; clear n0_; (try clear hb); (try clear hb2); (try clear hk); (try clear hi)) | ((with_reducible refine gate_callee (f := 20) rfl ?_); refine goesL_ (some 22) rfl rfl Try.func20 (by kernel_rfl) rfl #[.int .i64 10, .int .i64 10, .int .i64 16384, .int .i64 32768, .int .i64 (-50), .int .i64 10] rfl (by (try simp only [List.map_toArray, List.map_cons, List.map_nil]); first | done | rfl | (simp only [List.length_drop, List.length_take]; rfl)) ?_; (with_reducible refine (sweep_T.calls k 10 10 16384 32768 (-50) 10 t130 true _ A3.out).mono ?_); rintro e w27 ⟨rfl, hb⟩; refine ⟨_, rfl, ?_⟩; have n0_ := Aside0.mk (below_step (by repeat (first | (with_reducible first | exact HB.out | apply below_alloc | apply pw_below_drewN | apply below_drew1) | exact HB.out)) hb); clear HB; have HB := n0_; clear n0_; (try clear hb); (try clear hb2); (try clear hk); (try clear hi)) | ((with_reducible refine gate_callee (f := 20) rfl ?_); refine goesL_ (some 26) rfl rfl Try.func20 (by kernel_rfl) rfl #[.int .i64 0, .int .i64 0, .int .i64 32768, .int .i64 0, .int .i64 5, .int .i64 0] rfl (by (try simp only [List.map_toArray, List.map_cons, List.map_nil]); first | done | rfl | (simp only [List.length_drop, List.length_take]; rfl)) ?_; (with_reducible refine (sweep_T.calls k 0 0 32768 0 5 0 t132 true _ A4.out).mono ?_); rintro e w28 ⟨rfl, hb⟩; refine ⟨_, rfl, ?_⟩; have n0_ := Aside0.mk (below_step (by repeat (first | (with_reducible first | exact HB.out | apply below_alloc | apply pw_below_drewN | apply below_drew1) | exact HB.out)) hb); clear HB; have HB := n0_; clear n0_; (try clear hb); (try clear hb2); (try clear hk); (try clear hi)) | ((with_reducible refine gate_callee (f := 20) rfl ?_); refine goesL_ (some 30) rfl rfl Try.func20 (by kernel_rfl) rfl #[.int .i64 0, .int .i64 0, .int .i64 0, .int .i64 32768, .int .i64 0, .int .i64 (-5)] rfl (by (try simp only [List.map_toArray, List.map_cons, List.map_nil]); first | done | rfl | (simp only [List.length_drop, List.length_take]; rfl)) ?_; (with_reducible refine (sweep_T.calls k 0 0 0 32768 0 (-5) t134 true _ A5.out).mono ?_); rintro e w29 ⟨rfl, hb⟩; refine ⟨_, rfl, ?_⟩; have n0_ := Aside0.mk (below_step (by repeat (first | (with_reducible first | exact HB.out | apply below_alloc | apply pw_below_drewN | apply below_drew1) | exact HB.out)) hb); clear HB; have HB := n0_; clear n0_; (try clear hb); (try clear hb2); (try clear hk); (try clear hi)) | ((with_reducible refine gate_callee (f := 20) rfl ?_); refine goesL_ (some 34) rfl rfl Try.func20 (by kernel_rfl) rfl #[.int .i64 0, .int .i64 0, .int .i64 1099511627776, .int .i64 2199023255552, .int .i64 0, .int .i64 5] rfl (by (try simp only [List.map_toArray, List.map_cons, List.map_nil]); first | done | rfl | (simp only [List.length_drop, List.length_take]; rfl)) ?_; (with_reducible refine (sweep_T.calls k 0 0 1099511627776 2199023255552 0 5 t136 t137 _ A6.out).mono ?_); rintro e w30 ⟨rfl, hb⟩; refine ⟨_, rfl, ?_⟩; have n0_ := Aside0.mk (below_step (by repeat (first | (with_reducible first | exact HB.out | apply below_alloc | apply pw_below_drewN | apply below_drew1) | exact HB.out)) hb); clear HB; have HB := n0_; clear n0_; (try clear hb); (try clear hb2); (try clear hk); (try clear hi)) | ((with_reducible refine gate_callee (f := 21) rfl ?_); refine goesL_ (some 37) rfl rfl Try.func21 (by kernel_rfl) rfl #[] rfl (by (try simp only [List.map_toArray, List.map_cons, List.map_nil]); first | done | rfl | (simp only [List.length_drop, List.length_take]; rfl)) ?_; (with_reducible refine (versallaw23_known.calls k  true _ A7.out).mono ?_); rintro e w31 ⟨rfl, hb⟩; refine ⟨_, rfl, ?_⟩; have n0_ := Aside0.mk (below_step (by repeat (first | (with_reducible first | exact HB.out | apply below_alloc | apply pw_below_drewN | apply below_drew1) | exact HB.out)) hb); clear HB; have HB := n0_; clear n0_; (try clear hb); (try clear hb2); (try clear hk); (try clear hi)))
                      go_ret
                      exact ⟨by first | rfl | (simp [errW_none, errW_some] <;> rfl) | (simp [*, errW_none, errW_some] <;> rfl), by repeat (first | (with_reducible first | exact HB.out | apply below_alloc | apply pw_below_drewN | apply below_drew1) | exact HB.out)⟩
                    · replace c24 := Bool.eq_false_iff.mpr c24
                      subst c24
                      have H1 : (some false) = some r := by rw [if_neg (show ¬ (false = true) by decide)] at H; exact H
                      clear H
                      have H := H1
                      clear H1
                      obtain rfl := Option.some.inj H
                      go_enter Try.func5, Try.ntmps5
                      go_wp2_with (first | ((with_reducible refine gate_callee (f := 20) rfl ?_); refine goesL_ (some 14) rfl rfl Try.func20 (by kernel_rfl) rfl #[.int .i64 0, .int .i64 0, .int .i64 77, .int .i64 77, .int .i64 5, .int .i64 5] rfl (by (try simp only [List.map_toArray, List.map_cons, List.map_nil]); first | done | rfl | (simp only [List.length_drop, List.length_take]; rfl)) ?_; (with_reducible refine (sweep_T.calls k 0 0 77 77 5 5 t126 false _ A1.out).mono ?_); rintro e w32 ⟨rfl, hb⟩; refine ⟨_, rfl, ?_⟩; have n0_ := Aside0.mk (below_step (by repeat (first | (with_reducible first | exact HB.out | apply below_alloc | apply pw_below_drewN | apply below_drew1) | exact HB.out)) hb); clear HB; have HB := n0_; clear n0_; (try clear hb); (try clear hb2); (try clear hk); (try clear hi)) | ((with_reducible refine gate_callee (f := 20) rfl ?_); refine goesL_ (some 18) rfl rfl Try.func20 (by kernel_rfl) rfl #[.int .i64 10, .int .i64 10, .int .i64 16384, .int .i64 32768, .int .i64 10, .int .i64 99] rfl (by (try simp only [List.map_toArray, List.map_cons, List.map_nil]); first | done | rfl | (simp only [List.length_drop, List.length_take]; rfl)) ?_; (with_reducible refine (sweep_T.calls k 10 10 16384 32768 10 99 t128 true _ A2.out).mono ?_); rintro e w33 ⟨rfl, hb⟩; refine ⟨_, rfl, ?_⟩; have n0_ := Aside0.mk (below_step (by repeat (first | (with_reducible first | exact HB.out | apply below_alloc | apply pw_below_drewN | apply below_drew1) | exact HB.out)) hb); clear HB; have HB := n0_; clear n0_; (try clear hb); (try clear hb2); (try clear hk); (try clear hi)) | ((with_reducible refine gate_callee (f := 20) rfl ?_); refine goesL_ (some 22) rfl rfl Try.func20 (by kernel_rfl) rfl #[.int .i64 10, .int .i64 10, .int .i64 16384, .int .i64 32768, .int .i64 (-50), .int .i64 10] rfl (by (try simp only [List.map_toArray, List.map_cons, List.map_nil]); first | done | rfl | (simp only [List.length_drop, List.length_take]; rfl)) ?_; (with_reducible refine (sweep_T.calls k 10 10 16384 32768 (-50) 10 t130 true _ A3.out).mono ?_); rintro e w34 ⟨rfl, hb⟩; refine ⟨_, rfl, ?_⟩; have n0_ := Aside0.mk (below_step (by repeat (first | (with_reducible first | exact HB.out | apply below_alloc | apply pw_below_drewN | apply below_drew1) | exact HB.out)) hb); clear HB; have HB := n0_; clear n0_; (try clear hb); (try clear hb2); (try clear hk); (try clear hi)) | ((with_reducible refine gate_callee (f := 20) rfl ?_); refine goesL_ (some 26) rfl rfl Try.func20 (by kernel_rfl) rfl #[.int .i64 0, .int .i64 0, .int .i64 32768, .int .i64 0, .int .i64 5, .int .i64 0] rfl (by (try simp only [List.map_toArray, List.map_cons, List.map_nil]); first | done | rfl | (simp only [List.length_drop, List.length_take]; rfl)) ?_; (with_reducible refine (sweep_T.calls k 0 0 32768 0 5 0 t132 true _ A4.out).mono ?_); rintro e w35 ⟨rfl, hb⟩; refine ⟨_, rfl, ?_⟩; have n0_ := Aside0.mk (below_step (by repeat (first | (with_reducible first | exact HB.out | apply below_alloc | apply pw_below_drewN | apply below_drew1) | exact HB.out)) hb); clear HB; have HB := n0_; clear n0_; (try clear hb); (try clear hb2); (try clear hk); (try clear hi)) | ((with_reducible refine gate_callee (f := 20) rfl ?_); refine goesL_ (some 30) rfl rfl Try.func20 (by kernel_rfl) rfl #[.int .i64 0, .int .i64 0, .int .i64 0, .int .i64 32768, .int .i64 0, .int .i64 (-5)] rfl (by (try simp only [List.map_toArray, List.map_cons, List.map_nil]); first | done | rfl | (simp only [List.length_drop, List.length_take]; rfl)) ?_; (with_reducible refine (sweep_T.calls k 0 0 0 32768 0 (-5) t134 false _ A5.out).mono ?_); rintro e w36 ⟨rfl, hb⟩; refine ⟨_, rfl, ?_⟩; have n0_ := Aside0.mk (below_step (by repeat (first | (with_reducible first | exact HB.out | apply below_alloc | apply pw_below_drewN | apply below_drew1) | exact HB.out)) hb); clear HB; have HB := n0_; clear n0_; (try clear hb); (try clear hb2); (try clear hk); (try clear hi)) | ((with_reducible refine gate_callee (f := 20) rfl ?_); refine goesL_ (some 34) rfl rfl Try.func20 (by kernel_rfl) rfl #[.int .i64 0, .int .i64 0, .int .i64 1099511627776, .int .i64 2199023255552, .int .i64 0, .int .i64 5] rfl (by (try simp only [List.map_toArray, List.map_cons, List.map_nil]); first | done | rfl | (simp only [List.length_drop, List.length_take]; rfl)) ?_; (with_reducible refine (sweep_T.calls k 0 0 1099511627776 2199023255552 0 5 t136 t137 _ A6.out).mono ?_); rintro e w37 ⟨rfl, hb⟩; refine ⟨_, rfl, ?_⟩; have n0_ := Aside0.mk (below_step (by repeat (first | (with_reducible first | exact HB.out | apply below_alloc | apply pw_below_drewN | apply below_drew1) | exact HB.out)) hb); clear HB; have HB := n0_; clear n0_; (try clear hb); (try clear hb2); (try clear hk); (try clear hi)) | ((with_reducible refine gate_callee (f := 21) rfl ?_); refine goesL_ (some 37) rfl rfl Try.func21 (by kernel_rfl) rfl #[] rfl (by (try simp only [List.map_toArray, List.map_cons, List.map_nil]); first | done | rfl | (simp only [List.length_drop, List.length_take]; rfl)) ?_; (with_reducible refine (versallaw23_known.calls k  true _ A7.out).mono ?_); rintro e w38 ⟨rfl, hb⟩; refine ⟨_, rfl, ?_⟩; have n0_ := Aside0.mk (below_step (by repeat (first | (with_reducible first | exact HB.out | apply below_alloc | apply pw_below_drewN | apply below_drew1) | exact HB.out)) hb); clear HB; have HB := n0_; clear n0_; (try clear hb); (try clear hb2); (try clear hk); (try clear hi)))
                      go_ret
                      exact ⟨by first | rfl | (simp [errW_none, errW_some] <;> rfl) | (simp [*, errW_none, errW_some] <;> rfl), by repeat (first | (with_reducible first | exact HB.out | apply below_alloc | apply pw_below_drewN | apply below_drew1) | exact HB.out)⟩
                  · rw [if_neg c23] at H
                    have c23b0 : (t134 == 98304) = false := beq_eq_false_iff_ne.mpr c23
                    have c23b1 : (t134 != 98304) = true := bne_iff_ne.mpr c23
                    obtain rfl := Option.some.inj H
                    go_enter Try.func5, Try.ntmps5
                    go_wp2_with (first | ((with_reducible refine gate_callee (f := 20) rfl ?_); refine goesL_ (some 14) rfl rfl Try.func20 (by kernel_rfl) rfl #[.int .i64 0, .int .i64 0, .int .i64 77, .int .i64 77, .int .i64 5, .int .i64 5] rfl (by (try simp only [List.map_toArray, List.map_cons, List.map_nil]); first | done | rfl | (simp only [List.length_drop, List.length_take]; rfl)) ?_; (with_reducible refine (sweep_T.calls k 0 0 77 77 5 5 t126 false _ A1.out).mono ?_); rintro e w39 ⟨rfl, hb⟩; refine ⟨_, rfl, ?_⟩; have n0_ := Aside0.mk (below_step (by repeat (first | (with_reducible first | exact HB.out | apply below_alloc | apply pw_below_drewN | apply below_drew1) | exact HB.out)) hb); clear HB; have HB := n0_; clear n0_; (try clear hb); (try clear hb2); (try clear hk); (try clear hi)) | ((with_reducible refine gate_callee (f := 20) rfl ?_); refine goesL_ (some 18) rfl rfl Try.func20 (by kernel_rfl) rfl #[.int .i64 10, .int .i64 10, .int .i64 16384, .int .i64 32768, .int .i64 10, .int .i64 99] rfl (by (try simp only [List.map_toArray, List.map_cons, List.map_nil]); first | done | rfl | (simp only [List.length_drop, List.length_take]; rfl)) ?_; (with_reducible refine (sweep_T.calls k 10 10 16384 32768 10 99 t128 true _ A2.out).mono ?_); rintro e w40 ⟨rfl, hb⟩; refine ⟨_, rfl, ?_⟩; have n0_ := Aside0.mk (below_step (by repeat (first | (with_reducible first | exact HB.out | apply below_alloc | apply pw_below_drewN | apply below_drew1) | exact HB.out)) hb); clear HB; have HB := n0_; clear n0_; (try clear hb); (try clear hb2); (try clear hk); (try clear hi)) | ((with_reducible refine gate_callee (f := 20) rfl ?_); refine goesL_ (some 22) rfl rfl Try.func20 (by kernel_rfl) rfl #[.int .i64 10, .int .i64 10, .int .i64 16384, .int .i64 32768, .int .i64 (-50), .int .i64 10] rfl (by (try simp only [List.map_toArray, List.map_cons, List.map_nil]); first | done | rfl | (simp only [List.length_drop, List.length_take]; rfl)) ?_; (with_reducible refine (sweep_T.calls k 10 10 16384 32768 (-50) 10 t130 true _ A3.out).mono ?_); rintro e w41 ⟨rfl, hb⟩; refine ⟨_, rfl, ?_⟩; have n0_ := Aside0.mk (below_step (by repeat (first | (with_reducible first | exact HB.out | apply below_alloc | apply pw_below_drewN | apply below_drew1) | exact HB.out)) hb); clear HB; have HB := n0_; clear n0_; (try clear hb); (try clear hb2); (try clear hk); (try clear hi)) | ((with_reducible refine gate_callee (f := 20) rfl ?_); refine goesL_ (some 26) rfl rfl Try.func20 (by kernel_rfl) rfl #[.int .i64 0, .int .i64 0, .int .i64 32768, .int .i64 0, .int .i64 5, .int .i64 0] rfl (by (try simp only [List.map_toArray, List.map_cons, List.map_nil]); first | done | rfl | (simp only [List.length_drop, List.length_take]; rfl)) ?_; (with_reducible refine (sweep_T.calls k 0 0 32768 0 5 0 t132 true _ A4.out).mono ?_); rintro e w42 ⟨rfl, hb⟩; refine ⟨_, rfl, ?_⟩; have n0_ := Aside0.mk (below_step (by repeat (first | (with_reducible first | exact HB.out | apply below_alloc | apply pw_below_drewN | apply below_drew1) | exact HB.out)) hb); clear HB; have HB := n0_; clear n0_; (try clear hb); (try clear hb2); (try clear hk); (try clear hi)) | ((with_reducible refine gate_callee (f := 20) rfl ?_); refine goesL_ (some 30) rfl rfl Try.func20 (by kernel_rfl) rfl #[.int .i64 0, .int .i64 0, .int .i64 0, .int .i64 32768, .int .i64 0, .int .i64 (-5)] rfl (by (try simp only [List.map_toArray, List.map_cons, List.map_nil]); first | done | rfl | (simp only [List.length_drop, List.length_take]; rfl)) ?_; (with_reducible refine (sweep_T.calls k 0 0 0 32768 0 (-5) t134 t135 _ A5.out).mono ?_); rintro e w43 ⟨rfl, hb⟩; refine ⟨_, rfl, ?_⟩; have n0_ := Aside0.mk (below_step (by repeat (first | (with_reducible first | exact HB.out | apply below_alloc | apply pw_below_drewN | apply below_drew1) | exact HB.out)) hb); clear HB; have HB := n0_; clear n0_; (try clear hb); (try clear hb2); (try clear hk); (try clear hi)) | ((with_reducible refine gate_callee (f := 20) rfl ?_); refine goesL_ (some 34) rfl rfl Try.func20 (by kernel_rfl) rfl #[.int .i64 0, .int .i64 0, .int .i64 1099511627776, .int .i64 2199023255552, .int .i64 0, .int .i64 5] rfl (by (try simp only [List.map_toArray, List.map_cons, List.map_nil]); first | done | rfl | (simp only [List.length_drop, List.length_take]; rfl)) ?_; (with_reducible refine (sweep_T.calls k 0 0 1099511627776 2199023255552 0 5 t136 t137 _ A6.out).mono ?_); rintro e w44 ⟨rfl, hb⟩; refine ⟨_, rfl, ?_⟩; have n0_ := Aside0.mk (below_step (by repeat (first | (with_reducible first | exact HB.out | apply below_alloc | apply pw_below_drewN | apply below_drew1) | exact HB.out)) hb); clear HB; have HB := n0_; clear n0_; (try clear hb); (try clear hb2); (try clear hk); (try clear hi)) | ((with_reducible refine gate_callee (f := 21) rfl ?_); refine goesL_ (some 37) rfl rfl Try.func21 (by kernel_rfl) rfl #[] rfl (by (try simp only [List.map_toArray, List.map_cons, List.map_nil]); first | done | rfl | (simp only [List.length_drop, List.length_take]; rfl)) ?_; (with_reducible refine (versallaw23_known.calls k  true _ A7.out).mono ?_); rintro e w45 ⟨rfl, hb⟩; refine ⟨_, rfl, ?_⟩; have n0_ := Aside0.mk (below_step (by repeat (first | (with_reducible first | exact HB.out | apply below_alloc | apply pw_below_drewN | apply below_drew1) | exact HB.out)) hb); clear HB; have HB := n0_; clear n0_; (try clear hb); (try clear hb2); (try clear hk); (try clear hi)))
                    go_ret
                    exact ⟨by first | rfl | (simp [errW_none, errW_some] <;> rfl) | (simp [*, errW_none, errW_some] <;> rfl), by repeat (first | (with_reducible first | exact HB.out | apply below_alloc | apply pw_below_drewN | apply below_drew1) | exact HB.out)⟩
                · replace c22 := Bool.eq_false_iff.mpr c22
                  subst c22
                  have H1 : (some false) = some r := by rw [if_neg (show ¬ (false = true) by decide)] at H; exact H
                  clear H
                  have H := H1
                  clear H1
                  obtain rfl := Option.some.inj H
                  go_enter Try.func5, Try.ntmps5
                  go_wp2_with (first | ((with_reducible refine gate_callee (f := 20) rfl ?_); refine goesL_ (some 14) rfl rfl Try.func20 (by kernel_rfl) rfl #[.int .i64 0, .int .i64 0, .int .i64 77, .int .i64 77, .int .i64 5, .int .i64 5] rfl (by (try simp only [List.map_toArray, List.map_cons, List.map_nil]); first | done | rfl | (simp only [List.length_drop, List.length_take]; rfl)) ?_; (with_reducible refine (sweep_T.calls k 0 0 77 77 5 5 t126 false _ A1.out).mono ?_); rintro e w46 ⟨rfl, hb⟩; refine ⟨_, rfl, ?_⟩; have n0_ := Aside0.mk (below_step (by repeat (first | (with_reducible first | exact HB.out | apply below_alloc | apply pw_below_drewN | apply below_drew1) | exact HB.out)) hb); clear HB; have HB := n0_; clear n0_; (try clear hb); (try clear hb2); (try clear hk); (try clear hi)) | ((with_reducible refine gate_callee (f := 20) rfl ?_); refine goesL_ (some 18) rfl rfl Try.func20 (by kernel_rfl) rfl #[.int .i64 10, .int .i64 10, .int .i64 16384, .int .i64 32768, .int .i64 10, .int .i64 99] rfl (by (try simp only [List.map_toArray, List.map_cons, List.map_nil]); first | done | rfl | (simp only [List.length_drop, List.length_take]; rfl)) ?_; (with_reducible refine (sweep_T.calls k 10 10 16384 32768 10 99 t128 true _ A2.out).mono ?_); rintro e w47 ⟨rfl, hb⟩; refine ⟨_, rfl, ?_⟩; have n0_ := Aside0.mk (below_step (by repeat (first | (with_reducible first | exact HB.out | apply below_alloc | apply pw_below_drewN | apply below_drew1) | exact HB.out)) hb); clear HB; have HB := n0_; clear n0_; (try clear hb); (try clear hb2); (try clear hk); (try clear hi)) | ((with_reducible refine gate_callee (f := 20) rfl ?_); refine goesL_ (some 22) rfl rfl Try.func20 (by kernel_rfl) rfl #[.int .i64 10, .int .i64 10, .int .i64 16384, .int .i64 32768, .int .i64 (-50), .int .i64 10] rfl (by (try simp only [List.map_toArray, List.map_cons, List.map_nil]); first | done | rfl | (simp only [List.length_drop, List.length_take]; rfl)) ?_; (with_reducible refine (sweep_T.calls k 10 10 16384 32768 (-50) 10 t130 true _ A3.out).mono ?_); rintro e w48 ⟨rfl, hb⟩; refine ⟨_, rfl, ?_⟩; have n0_ := Aside0.mk (below_step (by repeat (first | (with_reducible first | exact HB.out | apply below_alloc | apply pw_below_drewN | apply below_drew1) | exact HB.out)) hb); clear HB; have HB := n0_; clear n0_; (try clear hb); (try clear hb2); (try clear hk); (try clear hi)) | ((with_reducible refine gate_callee (f := 20) rfl ?_); refine goesL_ (some 26) rfl rfl Try.func20 (by kernel_rfl) rfl #[.int .i64 0, .int .i64 0, .int .i64 32768, .int .i64 0, .int .i64 5, .int .i64 0] rfl (by (try simp only [List.map_toArray, List.map_cons, List.map_nil]); first | done | rfl | (simp only [List.length_drop, List.length_take]; rfl)) ?_; (with_reducible refine (sweep_T.calls k 0 0 32768 0 5 0 t132 false _ A4.out).mono ?_); rintro e w49 ⟨rfl, hb⟩; refine ⟨_, rfl, ?_⟩; have n0_ := Aside0.mk (below_step (by repeat (first | (with_reducible first | exact HB.out | apply below_alloc | apply pw_below_drewN | apply below_drew1) | exact HB.out)) hb); clear HB; have HB := n0_; clear n0_; (try clear hb); (try clear hb2); (try clear hk); (try clear hi)) | ((with_reducible refine gate_callee (f := 20) rfl ?_); refine goesL_ (some 30) rfl rfl Try.func20 (by kernel_rfl) rfl #[.int .i64 0, .int .i64 0, .int .i64 0, .int .i64 32768, .int .i64 0, .int .i64 (-5)] rfl (by (try simp only [List.map_toArray, List.map_cons, List.map_nil]); first | done | rfl | (simp only [List.length_drop, List.length_take]; rfl)) ?_; (with_reducible refine (sweep_T.calls k 0 0 0 32768 0 (-5) t134 t135 _ A5.out).mono ?_); rintro e w50 ⟨rfl, hb⟩; refine ⟨_, rfl, ?_⟩; have n0_ := Aside0.mk (below_step (by repeat (first | (with_reducible first | exact HB.out | apply below_alloc | apply pw_below_drewN | apply below_drew1) | exact HB.out)) hb); clear HB; have HB := n0_; clear n0_; (try clear hb); (try clear hb2); (try clear hk); (try clear hi)) | ((with_reducible refine gate_callee (f := 20) rfl ?_); refine goesL_ (some 34) rfl rfl Try.func20 (by kernel_rfl) rfl #[.int .i64 0, .int .i64 0, .int .i64 1099511627776, .int .i64 2199023255552, .int .i64 0, .int .i64 5] rfl (by (try simp only [List.map_toArray, List.map_cons, List.map_nil]); first | done | rfl | (simp only [List.length_drop, List.length_take]; rfl)) ?_; (with_reducible refine (sweep_T.calls k 0 0 1099511627776 2199023255552 0 5 t136 t137 _ A6.out).mono ?_); rintro e w51 ⟨rfl, hb⟩; refine ⟨_, rfl, ?_⟩; have n0_ := Aside0.mk (below_step (by repeat (first | (with_reducible first | exact HB.out | apply below_alloc | apply pw_below_drewN | apply below_drew1) | exact HB.out)) hb); clear HB; have HB := n0_; clear n0_; (try clear hb); (try clear hb2); (try clear hk); (try clear hi)) | ((with_reducible refine gate_callee (f := 21) rfl ?_); refine goesL_ (some 37) rfl rfl Try.func21 (by kernel_rfl) rfl #[] rfl (by (try simp only [List.map_toArray, List.map_cons, List.map_nil]); first | done | rfl | (simp only [List.length_drop, List.length_take]; rfl)) ?_; (with_reducible refine (versallaw23_known.calls k  true _ A7.out).mono ?_); rintro e w52 ⟨rfl, hb⟩; refine ⟨_, rfl, ?_⟩; have n0_ := Aside0.mk (below_step (by repeat (first | (with_reducible first | exact HB.out | apply below_alloc | apply pw_below_drewN | apply below_drew1) | exact HB.out)) hb); clear HB; have HB := n0_; clear n0_; (try clear hb); (try clear hb2); (try clear hk); (try clear hi)))
                  go_ret
                  exact ⟨by first | rfl | (simp [errW_none, errW_some] <;> rfl) | (simp [*, errW_none, errW_some] <;> rfl), by repeat (first | (with_reducible first | exact HB.out | apply below_alloc | apply pw_below_drewN | apply below_drew1) | exact HB.out)⟩
              · rw [if_neg c21] at H
                have c21b0 : (t132 == 65536) = false := beq_eq_false_iff_ne.mpr c21
                have c21b1 : (t132 != 65536) = true := bne_iff_ne.mpr c21
                obtain rfl := Option.some.inj H
                go_enter Try.func5, Try.ntmps5
                go_wp2_with (first | ((with_reducible refine gate_callee (f := 20) rfl ?_); refine goesL_ (some 14) rfl rfl Try.func20 (by kernel_rfl) rfl #[.int .i64 0, .int .i64 0, .int .i64 77, .int .i64 77, .int .i64 5, .int .i64 5] rfl (by (try simp only [List.map_toArray, List.map_cons, List.map_nil]); first | done | rfl | (simp only [List.length_drop, List.length_take]; rfl)) ?_; (with_reducible refine (sweep_T.calls k 0 0 77 77 5 5 t126 false _ A1.out).mono ?_); rintro e w53 ⟨rfl, hb⟩; refine ⟨_, rfl, ?_⟩; have n0_ := Aside0.mk (below_step (by repeat (first | (with_reducible first | exact HB.out | apply below_alloc | apply pw_below_drewN | apply below_drew1) | exact HB.out)) hb); clear HB; have HB := n0_; clear n0_; (try clear hb); (try clear hb2); (try clear hk); (try clear hi)) | ((with_reducible refine gate_callee (f := 20) rfl ?_); refine goesL_ (some 18) rfl rfl Try.func20 (by kernel_rfl) rfl #[.int .i64 10, .int .i64 10, .int .i64 16384, .int .i64 32768, .int .i64 10, .int .i64 99] rfl (by (try simp only [List.map_toArray, List.map_cons, List.map_nil]); first | done | rfl | (simp only [List.length_drop, List.length_take]; rfl)) ?_; (with_reducible refine (sweep_T.calls k 10 10 16384 32768 10 99 t128 true _ A2.out).mono ?_); rintro e w54 ⟨rfl, hb⟩; refine ⟨_, rfl, ?_⟩; have n0_ := Aside0.mk (below_step (by repeat (first | (with_reducible first | exact HB.out | apply below_alloc | apply pw_below_drewN | apply below_drew1) | exact HB.out)) hb); clear HB; have HB := n0_; clear n0_; (try clear hb); (try clear hb2); (try clear hk); (try clear hi)) | ((with_reducible refine gate_callee (f := 20) rfl ?_); refine goesL_ (some 22) rfl rfl Try.func20 (by kernel_rfl) rfl #[.int .i64 10, .int .i64 10, .int .i64 16384, .int .i64 32768, .int .i64 (-50), .int .i64 10] rfl (by (try simp only [List.map_toArray, List.map_cons, List.map_nil]); first | done | rfl | (simp only [List.length_drop, List.length_take]; rfl)) ?_; (with_reducible refine (sweep_T.calls k 10 10 16384 32768 (-50) 10 t130 true _ A3.out).mono ?_); rintro e w55 ⟨rfl, hb⟩; refine ⟨_, rfl, ?_⟩; have n0_ := Aside0.mk (below_step (by repeat (first | (with_reducible first | exact HB.out | apply below_alloc | apply pw_below_drewN | apply below_drew1) | exact HB.out)) hb); clear HB; have HB := n0_; clear n0_; (try clear hb); (try clear hb2); (try clear hk); (try clear hi)) | ((with_reducible refine gate_callee (f := 20) rfl ?_); refine goesL_ (some 26) rfl rfl Try.func20 (by kernel_rfl) rfl #[.int .i64 0, .int .i64 0, .int .i64 32768, .int .i64 0, .int .i64 5, .int .i64 0] rfl (by (try simp only [List.map_toArray, List.map_cons, List.map_nil]); first | done | rfl | (simp only [List.length_drop, List.length_take]; rfl)) ?_; (with_reducible refine (sweep_T.calls k 0 0 32768 0 5 0 t132 t133 _ A4.out).mono ?_); rintro e w56 ⟨rfl, hb⟩; refine ⟨_, rfl, ?_⟩; have n0_ := Aside0.mk (below_step (by repeat (first | (with_reducible first | exact HB.out | apply below_alloc | apply pw_below_drewN | apply below_drew1) | exact HB.out)) hb); clear HB; have HB := n0_; clear n0_; (try clear hb); (try clear hb2); (try clear hk); (try clear hi)) | ((with_reducible refine gate_callee (f := 20) rfl ?_); refine goesL_ (some 30) rfl rfl Try.func20 (by kernel_rfl) rfl #[.int .i64 0, .int .i64 0, .int .i64 0, .int .i64 32768, .int .i64 0, .int .i64 (-5)] rfl (by (try simp only [List.map_toArray, List.map_cons, List.map_nil]); first | done | rfl | (simp only [List.length_drop, List.length_take]; rfl)) ?_; (with_reducible refine (sweep_T.calls k 0 0 0 32768 0 (-5) t134 t135 _ A5.out).mono ?_); rintro e w57 ⟨rfl, hb⟩; refine ⟨_, rfl, ?_⟩; have n0_ := Aside0.mk (below_step (by repeat (first | (with_reducible first | exact HB.out | apply below_alloc | apply pw_below_drewN | apply below_drew1) | exact HB.out)) hb); clear HB; have HB := n0_; clear n0_; (try clear hb); (try clear hb2); (try clear hk); (try clear hi)) | ((with_reducible refine gate_callee (f := 20) rfl ?_); refine goesL_ (some 34) rfl rfl Try.func20 (by kernel_rfl) rfl #[.int .i64 0, .int .i64 0, .int .i64 1099511627776, .int .i64 2199023255552, .int .i64 0, .int .i64 5] rfl (by (try simp only [List.map_toArray, List.map_cons, List.map_nil]); first | done | rfl | (simp only [List.length_drop, List.length_take]; rfl)) ?_; (with_reducible refine (sweep_T.calls k 0 0 1099511627776 2199023255552 0 5 t136 t137 _ A6.out).mono ?_); rintro e w58 ⟨rfl, hb⟩; refine ⟨_, rfl, ?_⟩; have n0_ := Aside0.mk (below_step (by repeat (first | (with_reducible first | exact HB.out | apply below_alloc | apply pw_below_drewN | apply below_drew1) | exact HB.out)) hb); clear HB; have HB := n0_; clear n0_; (try clear hb); (try clear hb2); (try clear hk); (try clear hi)) | ((with_reducible refine gate_callee (f := 21) rfl ?_); refine goesL_ (some 37) rfl rfl Try.func21 (by kernel_rfl) rfl #[] rfl (by (try simp only [List.map_toArray, List.map_cons, List.map_nil]); first | done | rfl | (simp only [List.length_drop, List.length_take]; rfl)) ?_; (with_reducible refine (versallaw23_known.calls k  true _ A7.out).mono ?_); rintro e w59 ⟨rfl, hb⟩; refine ⟨_, rfl, ?_⟩; have n0_ := Aside0.mk (below_step (by repeat (first | (with_reducible first | exact HB.out | apply below_alloc | apply pw_below_drewN | apply below_drew1) | exact HB.out)) hb); clear HB; have HB := n0_; clear n0_; (try clear hb); (try clear hb2); (try clear hk); (try clear hi)))
                go_ret
                exact ⟨by first | rfl | (simp [errW_none, errW_some] <;> rfl) | (simp [*, errW_none, errW_some] <;> rfl), by repeat (first | (with_reducible first | exact HB.out | apply below_alloc | apply pw_below_drewN | apply below_drew1) | exact HB.out)⟩
            · replace c20 := Bool.eq_false_iff.mpr c20
              subst c20
              have H1 : (some false) = some r := by rw [if_neg (show ¬ (false = true) by decide)] at H; exact H
              clear H
              have H := H1
              clear H1
              obtain rfl := Option.some.inj H
              go_enter Try.func5, Try.ntmps5
              go_wp2_with (first | ((with_reducible refine gate_callee (f := 20) rfl ?_); refine goesL_ (some 14) rfl rfl Try.func20 (by kernel_rfl) rfl #[.int .i64 0, .int .i64 0, .int .i64 77, .int .i64 77, .int .i64 5, .int .i64 5] rfl (by (try simp only [List.map_toArray, List.map_cons, List.map_nil]); first | done | rfl | (simp only [List.length_drop, List.length_take]; rfl)) ?_; (with_reducible refine (sweep_T.calls k 0 0 77 77 5 5 t126 false _ A1.out).mono ?_); rintro e w60 ⟨rfl, hb⟩; refine ⟨_, rfl, ?_⟩; have n0_ := Aside0.mk (below_step (by repeat (first | (with_reducible first | exact HB.out | apply below_alloc | apply pw_below_drewN | apply below_drew1) | exact HB.out)) hb); clear HB; have HB := n0_; clear n0_; (try clear hb); (try clear hb2); (try clear hk); (try clear hi)) | ((with_reducible refine gate_callee (f := 20) rfl ?_); refine goesL_ (some 18) rfl rfl Try.func20 (by kernel_rfl) rfl #[.int .i64 10, .int .i64 10, .int .i64 16384, .int .i64 32768, .int .i64 10, .int .i64 99] rfl (by (try simp only [List.map_toArray, List.map_cons, List.map_nil]); first | done | rfl | (simp only [List.length_drop, List.length_take]; rfl)) ?_; (with_reducible refine (sweep_T.calls k 10 10 16384 32768 10 99 t128 true _ A2.out).mono ?_); rintro e w61 ⟨rfl, hb⟩; refine ⟨_, rfl, ?_⟩; have n0_ := Aside0.mk (below_step (by repeat (first | (with_reducible first | exact HB.out | apply below_alloc | apply pw_below_drewN | apply below_drew1) | exact HB.out)) hb); clear HB; have HB := n0_; clear n0_; (try clear hb); (try clear hb2); (try clear hk); (try clear hi)) | ((with_reducible refine gate_callee (f := 20) rfl ?_); refine goesL_ (some 22) rfl rfl Try.func20 (by kernel_rfl) rfl #[.int .i64 10, .int .i64 10, .int .i64 16384, .int .i64 32768, .int .i64 (-50), .int .i64 10] rfl (by (try simp only [List.map_toArray, List.map_cons, List.map_nil]); first | done | rfl | (simp only [List.length_drop, List.length_take]; rfl)) ?_; (with_reducible refine (sweep_T.calls k 10 10 16384 32768 (-50) 10 t130 false _ A3.out).mono ?_); rintro e w62 ⟨rfl, hb⟩; refine ⟨_, rfl, ?_⟩; have n0_ := Aside0.mk (below_step (by repeat (first | (with_reducible first | exact HB.out | apply below_alloc | apply pw_below_drewN | apply below_drew1) | exact HB.out)) hb); clear HB; have HB := n0_; clear n0_; (try clear hb); (try clear hb2); (try clear hk); (try clear hi)) | ((with_reducible refine gate_callee (f := 20) rfl ?_); refine goesL_ (some 26) rfl rfl Try.func20 (by kernel_rfl) rfl #[.int .i64 0, .int .i64 0, .int .i64 32768, .int .i64 0, .int .i64 5, .int .i64 0] rfl (by (try simp only [List.map_toArray, List.map_cons, List.map_nil]); first | done | rfl | (simp only [List.length_drop, List.length_take]; rfl)) ?_; (with_reducible refine (sweep_T.calls k 0 0 32768 0 5 0 t132 t133 _ A4.out).mono ?_); rintro e w63 ⟨rfl, hb⟩; refine ⟨_, rfl, ?_⟩; have n0_ := Aside0.mk (below_step (by repeat (first | (with_reducible first | exact HB.out | apply below_alloc | apply pw_below_drewN | apply below_drew1) | exact HB.out)) hb); clear HB; have HB := n0_; clear n0_; (try clear hb); (try clear hb2); (try clear hk); (try clear hi)) | ((with_reducible refine gate_callee (f := 20) rfl ?_); refine goesL_ (some 30) rfl rfl Try.func20 (by kernel_rfl) rfl #[.int .i64 0, .int .i64 0, .int .i64 0, .int .i64 32768, .int .i64 0, .int .i64 (-5)] rfl (by (try simp only [List.map_toArray, List.map_cons, List.map_nil]); first | done | rfl | (simp only [List.length_drop, List.length_take]; rfl)) ?_; (with_reducible refine (sweep_T.calls k 0 0 0 32768 0 (-5) t134 t135 _ A5.out).mono ?_); rintro e w64 ⟨rfl, hb⟩; refine ⟨_, rfl, ?_⟩; have n0_ := Aside0.mk (below_step (by repeat (first | (with_reducible first | exact HB.out | apply below_alloc | apply pw_below_drewN | apply below_drew1) | exact HB.out)) hb); clear HB; have HB := n0_; clear n0_; (try clear hb); (try clear hb2); (try clear hk); (try clear hi)) | ((with_reducible refine gate_callee (f := 20) rfl ?_); refine goesL_ (some 34) rfl rfl Try.func20 (by kernel_rfl) rfl #[.int .i64 0, .int .i64 0, .int .i64 1099511627776, .int .i64 2199023255552, .int .i64 0, .int .i64 5] rfl (by (try simp only [List.map_toArray, List.map_cons, List.map_nil]); first | done | rfl | (simp only [List.length_drop, List.length_take]; rfl)) ?_; (with_reducible refine (sweep_T.calls k 0 0 1099511627776 2199023255552 0 5 t136 t137 _ A6.out).mono ?_); rintro e w65 ⟨rfl, hb⟩; refine ⟨_, rfl, ?_⟩; have n0_ := Aside0.mk (below_step (by repeat (first | (with_reducible first | exact HB.out | apply below_alloc | apply pw_below_drewN | apply below_drew1) | exact HB.out)) hb); clear HB; have HB := n0_; clear n0_; (try clear hb); (try clear hb2); (try clear hk); (try clear hi)) | ((with_reducible refine gate_callee (f := 21) rfl ?_); refine goesL_ (some 37) rfl rfl Try.func21 (by kernel_rfl) rfl #[] rfl (by (try simp only [List.map_toArray, List.map_cons, List.map_nil]); first | done | rfl | (simp only [List.length_drop, List.length_take]; rfl)) ?_; (with_reducible refine (versallaw23_known.calls k  true _ A7.out).mono ?_); rintro e w66 ⟨rfl, hb⟩; refine ⟨_, rfl, ?_⟩; have n0_ := Aside0.mk (below_step (by repeat (first | (with_reducible first | exact HB.out | apply below_alloc | apply pw_below_drewN | apply below_drew1) | exact HB.out)) hb); clear HB; have HB := n0_; clear n0_; (try clear hb); (try clear hb2); (try clear hk); (try clear hi)))
              go_ret
              exact ⟨by first | rfl | (simp [errW_none, errW_some] <;> rfl) | (simp [*, errW_none, errW_some] <;> rfl), by repeat (first | (with_reducible first | exact HB.out | apply below_alloc | apply pw_below_drewN | apply below_drew1) | exact HB.out)⟩
          · rw [if_neg c19] at H
            have c19b0 : (t130 == 65536) = false := beq_eq_false_iff_ne.mpr c19
            have c19b1 : (t130 != 65536) = true := bne_iff_ne.mpr c19
            obtain rfl := Option.some.inj H
            go_enter Try.func5, Try.ntmps5
            go_wp2_with (first | ((with_reducible refine gate_callee (f := 20) rfl ?_); refine goesL_ (some 14) rfl rfl Try.func20 (by kernel_rfl) rfl #[.int .i64 0, .int .i64 0, .int .i64 77, .int .i64 77, .int .i64 5, .int .i64 5] rfl (by (try simp only [List.map_toArray, List.map_cons, List.map_nil]); first | done | rfl | (simp only [List.length_drop, List.length_take]; rfl)) ?_; (with_reducible refine (sweep_T.calls k 0 0 77 77 5 5 t126 false _ A1.out).mono ?_); rintro e w67 ⟨rfl, hb⟩; refine ⟨_, rfl, ?_⟩; have n0_ := Aside0.mk (below_step (by repeat (first | (with_reducible first | exact HB.out | apply below_alloc | apply pw_below_drewN | apply below_drew1) | exact HB.out)) hb); clear HB; have HB := n0_; clear n0_; (try clear hb); (try clear hb2); (try clear hk); (try clear hi)) | ((with_reducible refine gate_callee (f := 20) rfl ?_); refine goesL_ (some 18) rfl rfl Try.func20 (by kernel_rfl) rfl #[.int .i64 10, .int .i64 10, .int .i64 16384, .int .i64 32768, .int .i64 10, .int .i64 99] rfl (by (try simp only [List.map_toArray, List.map_cons, List.map_nil]); first | done | rfl | (simp only [List.length_drop, List.length_take]; rfl)) ?_; (with_reducible refine (sweep_T.calls k 10 10 16384 32768 10 99 t128 true _ A2.out).mono ?_); rintro e w68 ⟨rfl, hb⟩; refine ⟨_, rfl, ?_⟩; have n0_ := Aside0.mk (below_step (by repeat (first | (with_reducible first | exact HB.out | apply below_alloc | apply pw_below_drewN | apply below_drew1) | exact HB.out)) hb); clear HB; have HB := n0_; clear n0_; (try clear hb); (try clear hb2); (try clear hk); (try clear hi)) | ((with_reducible refine gate_callee (f := 20) rfl ?_); refine goesL_ (some 22) rfl rfl Try.func20 (by kernel_rfl) rfl #[.int .i64 10, .int .i64 10, .int .i64 16384, .int .i64 32768, .int .i64 (-50), .int .i64 10] rfl (by (try simp only [List.map_toArray, List.map_cons, List.map_nil]); first | done | rfl | (simp only [List.length_drop, List.length_take]; rfl)) ?_; (with_reducible refine (sweep_T.calls k 10 10 16384 32768 (-50) 10 t130 t131 _ A3.out).mono ?_); rintro e w69 ⟨rfl, hb⟩; refine ⟨_, rfl, ?_⟩; have n0_ := Aside0.mk (below_step (by repeat (first | (with_reducible first | exact HB.out | apply below_alloc | apply pw_below_drewN | apply below_drew1) | exact HB.out)) hb); clear HB; have HB := n0_; clear n0_; (try clear hb); (try clear hb2); (try clear hk); (try clear hi)) | ((with_reducible refine gate_callee (f := 20) rfl ?_); refine goesL_ (some 26) rfl rfl Try.func20 (by kernel_rfl) rfl #[.int .i64 0, .int .i64 0, .int .i64 32768, .int .i64 0, .int .i64 5, .int .i64 0] rfl (by (try simp only [List.map_toArray, List.map_cons, List.map_nil]); first | done | rfl | (simp only [List.length_drop, List.length_take]; rfl)) ?_; (with_reducible refine (sweep_T.calls k 0 0 32768 0 5 0 t132 t133 _ A4.out).mono ?_); rintro e w70 ⟨rfl, hb⟩; refine ⟨_, rfl, ?_⟩; have n0_ := Aside0.mk (below_step (by repeat (first | (with_reducible first | exact HB.out | apply below_alloc | apply pw_below_drewN | apply below_drew1) | exact HB.out)) hb); clear HB; have HB := n0_; clear n0_; (try clear hb); (try clear hb2); (try clear hk); (try clear hi)) | ((with_reducible refine gate_callee (f := 20) rfl ?_); refine goesL_ (some 30) rfl rfl Try.func20 (by kernel_rfl) rfl #[.int .i64 0, .int .i64 0, .int .i64 0, .int .i64 32768, .int .i64 0, .int .i64 (-5)] rfl (by (try simp only [List.map_toArray, List.map_cons, List.map_nil]); first | done | rfl | (simp only [List.length_drop, List.length_take]; rfl)) ?_; (with_reducible refine (sweep_T.calls k 0 0 0 32768 0 (-5) t134 t135 _ A5.out).mono ?_); rintro e w71 ⟨rfl, hb⟩; refine ⟨_, rfl, ?_⟩; have n0_ := Aside0.mk (below_step (by repeat (first | (with_reducible first | exact HB.out | apply below_alloc | apply pw_below_drewN | apply below_drew1) | exact HB.out)) hb); clear HB; have HB := n0_; clear n0_; (try clear hb); (try clear hb2); (try clear hk); (try clear hi)) | ((with_reducible refine gate_callee (f := 20) rfl ?_); refine goesL_ (some 34) rfl rfl Try.func20 (by kernel_rfl) rfl #[.int .i64 0, .int .i64 0, .int .i64 1099511627776, .int .i64 2199023255552, .int .i64 0, .int .i64 5] rfl (by (try simp only [List.map_toArray, List.map_cons, List.map_nil]); first | done | rfl | (simp only [List.length_drop, List.length_take]; rfl)) ?_; (with_reducible refine (sweep_T.calls k 0 0 1099511627776 2199023255552 0 5 t136 t137 _ A6.out).mono ?_); rintro e w72 ⟨rfl, hb⟩; refine ⟨_, rfl, ?_⟩; have n0_ := Aside0.mk (below_step (by repeat (first | (with_reducible first | exact HB.out | apply below_alloc | apply pw_below_drewN | apply below_drew1) | exact HB.out)) hb); clear HB; have HB := n0_; clear n0_; (try clear hb); (try clear hb2); (try clear hk); (try clear hi)) | ((with_reducible refine gate_callee (f := 21) rfl ?_); refine goesL_ (some 37) rfl rfl Try.func21 (by kernel_rfl) rfl #[] rfl (by (try simp only [List.map_toArray, List.map_cons, List.map_nil]); first | done | rfl | (simp only [List.length_drop, List.length_take]; rfl)) ?_; (with_reducible refine (versallaw23_known.calls k  true _ A7.out).mono ?_); rintro e w73 ⟨rfl, hb⟩; refine ⟨_, rfl, ?_⟩; have n0_ := Aside0.mk (below_step (by repeat (first | (with_reducible first | exact HB.out | apply below_alloc | apply pw_below_drewN | apply below_drew1) | exact HB.out)) hb); clear HB; have HB := n0_; clear n0_; (try clear hb); (try clear hb2); (try clear hk); (try clear hi)))
            go_ret
            exact ⟨by first | rfl | (simp [errW_none, errW_some] <;> rfl) | (simp [*, errW_none, errW_some] <;> rfl), by repeat (first | (with_reducible first | exact HB.out | apply below_alloc | apply pw_below_drewN | apply below_drew1) | exact HB.out)⟩
        · replace c18 := Bool.eq_false_iff.mpr c18
          subst c18
          have H1 : (some false) = some r := by rw [if_neg (show ¬ (false = true) by decide)] at H; exact H
          clear H
          have H := H1
          clear H1
          obtain rfl := Option.some.inj H
          go_enter Try.func5, Try.ntmps5
          go_wp2_with (first | ((with_reducible refine gate_callee (f := 20) rfl ?_); refine goesL_ (some 14) rfl rfl Try.func20 (by kernel_rfl) rfl #[.int .i64 0, .int .i64 0, .int .i64 77, .int .i64 77, .int .i64 5, .int .i64 5] rfl (by (try simp only [List.map_toArray, List.map_cons, List.map_nil]); first | done | rfl | (simp only [List.length_drop, List.length_take]; rfl)) ?_; (with_reducible refine (sweep_T.calls k 0 0 77 77 5 5 t126 false _ A1.out).mono ?_); rintro e w74 ⟨rfl, hb⟩; refine ⟨_, rfl, ?_⟩; have n0_ := Aside0.mk (below_step (by repeat (first | (with_reducible first | exact HB.out | apply below_alloc | apply pw_below_drewN | apply below_drew1) | exact HB.out)) hb); clear HB; have HB := n0_; clear n0_; (try clear hb); (try clear hb2); (try clear hk); (try clear hi)) | ((with_reducible refine gate_callee (f := 20) rfl ?_); refine goesL_ (some 18) rfl rfl Try.func20 (by kernel_rfl) rfl #[.int .i64 10, .int .i64 10, .int .i64 16384, .int .i64 32768, .int .i64 10, .int .i64 99] rfl (by (try simp only [List.map_toArray, List.map_cons, List.map_nil]); first | done | rfl | (simp only [List.length_drop, List.length_take]; rfl)) ?_; (with_reducible refine (sweep_T.calls k 10 10 16384 32768 10 99 t128 false _ A2.out).mono ?_); rintro e w75 ⟨rfl, hb⟩; refine ⟨_, rfl, ?_⟩; have n0_ := Aside0.mk (below_step (by repeat (first | (with_reducible first | exact HB.out | apply below_alloc | apply pw_below_drewN | apply below_drew1) | exact HB.out)) hb); clear HB; have HB := n0_; clear n0_; (try clear hb); (try clear hb2); (try clear hk); (try clear hi)) | ((with_reducible refine gate_callee (f := 20) rfl ?_); refine goesL_ (some 22) rfl rfl Try.func20 (by kernel_rfl) rfl #[.int .i64 10, .int .i64 10, .int .i64 16384, .int .i64 32768, .int .i64 (-50), .int .i64 10] rfl (by (try simp only [List.map_toArray, List.map_cons, List.map_nil]); first | done | rfl | (simp only [List.length_drop, List.length_take]; rfl)) ?_; (with_reducible refine (sweep_T.calls k 10 10 16384 32768 (-50) 10 t130 t131 _ A3.out).mono ?_); rintro e w76 ⟨rfl, hb⟩; refine ⟨_, rfl, ?_⟩; have n0_ := Aside0.mk (below_step (by repeat (first | (with_reducible first | exact HB.out | apply below_alloc | apply pw_below_drewN | apply below_drew1) | exact HB.out)) hb); clear HB; have HB := n0_; clear n0_; (try clear hb); (try clear hb2); (try clear hk); (try clear hi)) | ((with_reducible refine gate_callee (f := 20) rfl ?_); refine goesL_ (some 26) rfl rfl Try.func20 (by kernel_rfl) rfl #[.int .i64 0, .int .i64 0, .int .i64 32768, .int .i64 0, .int .i64 5, .int .i64 0] rfl (by (try simp only [List.map_toArray, List.map_cons, List.map_nil]); first | done | rfl | (simp only [List.length_drop, List.length_take]; rfl)) ?_; (with_reducible refine (sweep_T.calls k 0 0 32768 0 5 0 t132 t133 _ A4.out).mono ?_); rintro e w77 ⟨rfl, hb⟩; refine ⟨_, rfl, ?_⟩; have n0_ := Aside0.mk (below_step (by repeat (first | (with_reducible first | exact HB.out | apply below_alloc | apply pw_below_drewN | apply below_drew1) | exact HB.out)) hb); clear HB; have HB := n0_; clear n0_; (try clear hb); (try clear hb2); (try clear hk); (try clear hi)) | ((with_reducible refine gate_callee (f := 20) rfl ?_); refine goesL_ (some 30) rfl rfl Try.func20 (by kernel_rfl) rfl #[.int .i64 0, .int .i64 0, .int .i64 0, .int .i64 32768, .int .i64 0, .int .i64 (-5)] rfl (by (try simp only [List.map_toArray, List.map_cons, List.map_nil]); first | done | rfl | (simp only [List.length_drop, List.length_take]; rfl)) ?_; (with_reducible refine (sweep_T.calls k 0 0 0 32768 0 (-5) t134 t135 _ A5.out).mono ?_); rintro e w78 ⟨rfl, hb⟩; refine ⟨_, rfl, ?_⟩; have n0_ := Aside0.mk (below_step (by repeat (first | (with_reducible first | exact HB.out | apply below_alloc | apply pw_below_drewN | apply below_drew1) | exact HB.out)) hb); clear HB; have HB := n0_; clear n0_; (try clear hb); (try clear hb2); (try clear hk); (try clear hi)) | ((with_reducible refine gate_callee (f := 20) rfl ?_); refine goesL_ (some 34) rfl rfl Try.func20 (by kernel_rfl) rfl #[.int .i64 0, .int .i64 0, .int .i64 1099511627776, .int .i64 2199023255552, .int .i64 0, .int .i64 5] rfl (by (try simp only [List.map_toArray, List.map_cons, List.map_nil]); first | done | rfl | (simp only [List.length_drop, List.length_take]; rfl)) ?_; (with_reducible refine (sweep_T.calls k 0 0 1099511627776 2199023255552 0 5 t136 t137 _ A6.out).mono ?_); rintro e w79 ⟨rfl, hb⟩; refine ⟨_, rfl, ?_⟩; have n0_ := Aside0.mk (below_step (by repeat (first | (with_reducible first | exact HB.out | apply below_alloc | apply pw_below_drewN | apply below_drew1) | exact HB.out)) hb); clear HB; have HB := n0_; clear n0_; (try clear hb); (try clear hb2); (try clear hk); (try clear hi)) | ((with_reducible refine gate_callee (f := 21) rfl ?_); refine goesL_ (some 37) rfl rfl Try.func21 (by kernel_rfl) rfl #[] rfl (by (try simp only [List.map_toArray, List.map_cons, List.map_nil]); first | done | rfl | (simp only [List.length_drop, List.length_take]; rfl)) ?_; (with_reducible refine (versallaw23_known.calls k  true _ A7.out).mono ?_); rintro e w80 ⟨rfl, hb⟩; refine ⟨_, rfl, ?_⟩; have n0_ := Aside0.mk (below_step (by repeat (first | (with_reducible first | exact HB.out | apply below_alloc | apply pw_below_drewN | apply below_drew1) | exact HB.out)) hb); clear HB; have HB := n0_; clear n0_; (try clear hb); (try clear hb2); (try clear hk); (try clear hi)))
          go_ret
          exact ⟨by first | rfl | (simp [errW_none, errW_some] <;> rfl) | (simp [*, errW_none, errW_some] <;> rfl), by repeat (first | (with_reducible first | exact HB.out | apply below_alloc | apply pw_below_drewN | apply below_drew1) | exact HB.out)⟩
      · rw [if_neg c17] at H
        have c17b0 : (t128 == 0) = false := beq_eq_false_iff_ne.mpr c17
        have c17b1 : (t128 != 0) = true := bne_iff_ne.mpr c17
        obtain rfl := Option.some.inj H
        go_enter Try.func5, Try.ntmps5
        go_wp2_with (first | ((with_reducible refine gate_callee (f := 20) rfl ?_); refine goesL_ (some 14) rfl rfl Try.func20 (by kernel_rfl) rfl #[.int .i64 0, .int .i64 0, .int .i64 77, .int .i64 77, .int .i64 5, .int .i64 5] rfl (by (try simp only [List.map_toArray, List.map_cons, List.map_nil]); first | done | rfl | (simp only [List.length_drop, List.length_take]; rfl)) ?_; (with_reducible refine (sweep_T.calls k 0 0 77 77 5 5 t126 false _ A1.out).mono ?_); rintro e w81 ⟨rfl, hb⟩; refine ⟨_, rfl, ?_⟩; have n0_ := Aside0.mk (below_step (by repeat (first | (with_reducible first | exact HB.out | apply below_alloc | apply pw_below_drewN | apply below_drew1) | exact HB.out)) hb); clear HB; have HB := n0_; clear n0_; (try clear hb); (try clear hb2); (try clear hk); (try clear hi)) | ((with_reducible refine gate_callee (f := 20) rfl ?_); refine goesL_ (some 18) rfl rfl Try.func20 (by kernel_rfl) rfl #[.int .i64 10, .int .i64 10, .int .i64 16384, .int .i64 32768, .int .i64 10, .int .i64 99] rfl (by (try simp only [List.map_toArray, List.map_cons, List.map_nil]); first | done | rfl | (simp only [List.length_drop, List.length_take]; rfl)) ?_; (with_reducible refine (sweep_T.calls k 10 10 16384 32768 10 99 t128 t129 _ A2.out).mono ?_); rintro e w82 ⟨rfl, hb⟩; refine ⟨_, rfl, ?_⟩; have n0_ := Aside0.mk (below_step (by repeat (first | (with_reducible first | exact HB.out | apply below_alloc | apply pw_below_drewN | apply below_drew1) | exact HB.out)) hb); clear HB; have HB := n0_; clear n0_; (try clear hb); (try clear hb2); (try clear hk); (try clear hi)) | ((with_reducible refine gate_callee (f := 20) rfl ?_); refine goesL_ (some 22) rfl rfl Try.func20 (by kernel_rfl) rfl #[.int .i64 10, .int .i64 10, .int .i64 16384, .int .i64 32768, .int .i64 (-50), .int .i64 10] rfl (by (try simp only [List.map_toArray, List.map_cons, List.map_nil]); first | done | rfl | (simp only [List.length_drop, List.length_take]; rfl)) ?_; (with_reducible refine (sweep_T.calls k 10 10 16384 32768 (-50) 10 t130 t131 _ A3.out).mono ?_); rintro e w83 ⟨rfl, hb⟩; refine ⟨_, rfl, ?_⟩; have n0_ := Aside0.mk (below_step (by repeat (first | (with_reducible first | exact HB.out | apply below_alloc | apply pw_below_drewN | apply below_drew1) | exact HB.out)) hb); clear HB; have HB := n0_; clear n0_; (try clear hb); (try clear hb2); (try clear hk); (try clear hi)) | ((with_reducible refine gate_callee (f := 20) rfl ?_); refine goesL_ (some 26) rfl rfl Try.func20 (by kernel_rfl) rfl #[.int .i64 0, .int .i64 0, .int .i64 32768, .int .i64 0, .int .i64 5, .int .i64 0] rfl (by (try simp only [List.map_toArray, List.map_cons, List.map_nil]); first | done | rfl | (simp only [List.length_drop, List.length_take]; rfl)) ?_; (with_reducible refine (sweep_T.calls k 0 0 32768 0 5 0 t132 t133 _ A4.out).mono ?_); rintro e w84 ⟨rfl, hb⟩; refine ⟨_, rfl, ?_⟩; have n0_ := Aside0.mk (below_step (by repeat (first | (with_reducible first | exact HB.out | apply below_alloc | apply pw_below_drewN | apply below_drew1) | exact HB.out)) hb); clear HB; have HB := n0_; clear n0_; (try clear hb); (try clear hb2); (try clear hk); (try clear hi)) | ((with_reducible refine gate_callee (f := 20) rfl ?_); refine goesL_ (some 30) rfl rfl Try.func20 (by kernel_rfl) rfl #[.int .i64 0, .int .i64 0, .int .i64 0, .int .i64 32768, .int .i64 0, .int .i64 (-5)] rfl (by (try simp only [List.map_toArray, List.map_cons, List.map_nil]); first | done | rfl | (simp only [List.length_drop, List.length_take]; rfl)) ?_; (with_reducible refine (sweep_T.calls k 0 0 0 32768 0 (-5) t134 t135 _ A5.out).mono ?_); rintro e w85 ⟨rfl, hb⟩; refine ⟨_, rfl, ?_⟩; have n0_ := Aside0.mk (below_step (by repeat (first | (with_reducible first | exact HB.out | apply below_alloc | apply pw_below_drewN | apply below_drew1) | exact HB.out)) hb); clear HB; have HB := n0_; clear n0_; (try clear hb); (try clear hb2); (try clear hk); (try clear hi)) | ((with_reducible refine gate_callee (f := 20) rfl ?_); refine goesL_ (some 34) rfl rfl Try.func20 (by kernel_rfl) rfl #[.int .i64 0, .int .i64 0, .int .i64 1099511627776, .int .i64 2199023255552, .int .i64 0, .int .i64 5] rfl (by (try simp only [List.map_toArray, List.map_cons, List.map_nil]); first | done | rfl | (simp only [List.length_drop, List.length_take]; rfl)) ?_; (with_reducible refine (sweep_T.calls k 0 0 1099511627776 2199023255552 0 5 t136 t137 _ A6.out).mono ?_); rintro e w86 ⟨rfl, hb⟩; refine ⟨_, rfl, ?_⟩; have n0_ := Aside0.mk (below_step (by repeat (first | (with_reducible first | exact HB.out | apply below_alloc | apply pw_below_drewN | apply below_drew1) | exact HB.out)) hb); clear HB; have HB := n0_; clear n0_; (try clear hb); (try clear hb2); (try clear hk); (try clear hi)) | ((with_reducible refine gate_callee (f := 21) rfl ?_); refine goesL_ (some 37) rfl rfl Try.func21 (by kernel_rfl) rfl #[] rfl (by (try simp only [List.map_toArray, List.map_cons, List.map_nil]); first | done | rfl | (simp only [List.length_drop, List.length_take]; rfl)) ?_; (with_reducible refine (versallaw23_known.calls k  true _ A7.out).mono ?_); rintro e w87 ⟨rfl, hb⟩; refine ⟨_, rfl, ?_⟩; have n0_ := Aside0.mk (below_step (by repeat (first | (with_reducible first | exact HB.out | apply below_alloc | apply pw_below_drewN | apply below_drew1) | exact HB.out)) hb); clear HB; have HB := n0_; clear n0_; (try clear hb); (try clear hb2); (try clear hk); (try clear hi)))
        go_ret
        exact ⟨by first | rfl | (simp [errW_none, errW_some] <;> rfl) | (simp [*, errW_none, errW_some] <;> rfl), by repeat (first | (with_reducible first | exact HB.out | apply below_alloc | apply pw_below_drewN | apply below_drew1) | exact HB.out)⟩
  · replace c8 := Bool.eq_false_iff.mpr c8
    subst c8
    have H1 : (some false) = some r := by rw [if_neg (show ¬ (false = true) by decide)] at H; exact H
    clear H
    have H := H1
    clear H1
    obtain rfl := Option.some.inj H
    go_enter Try.func5, Try.ntmps5
    go_wp2_with (first | ((with_reducible refine gate_callee (f := 20) rfl ?_); refine goesL_ (some 14) rfl rfl Try.func20 (by kernel_rfl) rfl #[.int .i64 0, .int .i64 0, .int .i64 77, .int .i64 77, .int .i64 5, .int .i64 5] rfl (by (try simp only [List.map_toArray, List.map_cons, List.map_nil]); first | done | rfl | (simp only [List.length_drop, List.length_take]; rfl)) ?_; (with_reducible refine (sweep_T.calls k 0 0 77 77 5 5 t126 t127 _ A1.out).mono ?_); rintro e w88 ⟨rfl, hb⟩; refine ⟨_, rfl, ?_⟩; have n0_ := Aside0.mk (below_step (by repeat (first | (with_reducible first | exact HB.out | apply below_alloc | apply pw_below_drewN | apply below_drew1) | exact HB.out)) hb); clear HB; have HB := n0_; clear n0_; (try clear hb); (try clear hb2); (try clear hk); (try clear hi)) | ((with_reducible refine gate_callee (f := 20) rfl ?_); refine goesL_ (some 18) rfl rfl Try.func20 (by kernel_rfl) rfl #[.int .i64 10, .int .i64 10, .int .i64 16384, .int .i64 32768, .int .i64 10, .int .i64 99] rfl (by (try simp only [List.map_toArray, List.map_cons, List.map_nil]); first | done | rfl | (simp only [List.length_drop, List.length_take]; rfl)) ?_; (with_reducible refine (sweep_T.calls k 10 10 16384 32768 10 99 t128 t129 _ A2.out).mono ?_); rintro e w89 ⟨rfl, hb⟩; refine ⟨_, rfl, ?_⟩; have n0_ := Aside0.mk (below_step (by repeat (first | (with_reducible first | exact HB.out | apply below_alloc | apply pw_below_drewN | apply below_drew1) | exact HB.out)) hb); clear HB; have HB := n0_; clear n0_; (try clear hb); (try clear hb2); (try clear hk); (try clear hi)) | ((with_reducible refine gate_callee (f := 20) rfl ?_); refine goesL_ (some 22) rfl rfl Try.func20 (by kernel_rfl) rfl #[.int .i64 10, .int .i64 10, .int .i64 16384, .int .i64 32768, .int .i64 (-50), .int .i64 10] rfl (by (try simp only [List.map_toArray, List.map_cons, List.map_nil]); first | done | rfl | (simp only [List.length_drop, List.length_take]; rfl)) ?_; (with_reducible refine (sweep_T.calls k 10 10 16384 32768 (-50) 10 t130 t131 _ A3.out).mono ?_); rintro e w90 ⟨rfl, hb⟩; refine ⟨_, rfl, ?_⟩; have n0_ := Aside0.mk (below_step (by repeat (first | (with_reducible first | exact HB.out | apply below_alloc | apply pw_below_drewN | apply below_drew1) | exact HB.out)) hb); clear HB; have HB := n0_; clear n0_; (try clear hb); (try clear hb2); (try clear hk); (try clear hi)) | ((with_reducible refine gate_callee (f := 20) rfl ?_); refine goesL_ (some 26) rfl rfl Try.func20 (by kernel_rfl) rfl #[.int .i64 0, .int .i64 0, .int .i64 32768, .int .i64 0, .int .i64 5, .int .i64 0] rfl (by (try simp only [List.map_toArray, List.map_cons, List.map_nil]); first | done | rfl | (simp only [List.length_drop, List.length_take]; rfl)) ?_; (with_reducible refine (sweep_T.calls k 0 0 32768 0 5 0 t132 t133 _ A4.out).mono ?_); rintro e w91 ⟨rfl, hb⟩; refine ⟨_, rfl, ?_⟩; have n0_ := Aside0.mk (below_step (by repeat (first | (with_reducible first | exact HB.out | apply below_alloc | apply pw_below_drewN | apply below_drew1) | exact HB.out)) hb); clear HB; have HB := n0_; clear n0_; (try clear hb); (try clear hb2); (try clear hk); (try clear hi)) | ((with_reducible refine gate_callee (f := 20) rfl ?_); refine goesL_ (some 30) rfl rfl Try.func20 (by kernel_rfl) rfl #[.int .i64 0, .int .i64 0, .int .i64 0, .int .i64 32768, .int .i64 0, .int .i64 (-5)] rfl (by (try simp only [List.map_toArray, List.map_cons, List.map_nil]); first | done | rfl | (simp only [List.length_drop, List.length_take]; rfl)) ?_; (with_reducible refine (sweep_T.calls k 0 0 0 32768 0 (-5) t134 t135 _ A5.out).mono ?_); rintro e w92 ⟨rfl, hb⟩; refine ⟨_, rfl, ?_⟩; have n0_ := Aside0.mk (below_step (by repeat (first | (with_reducible first | exact HB.out | apply below_alloc | apply pw_below_drewN | apply below_drew1) | exact HB.out)) hb); clear HB; have HB := n0_; clear n0_; (try clear hb); (try clear hb2); (try clear hk); (try clear hi)) | ((with_reducible refine gate_callee (f := 20) rfl ?_); refine goesL_ (some 34) rfl rfl Try.func20 (by kernel_rfl) rfl #[.int .i64 0, .int .i64 0, .int .i64 1099511627776, .int .i64 2199023255552, .int .i64 0, .int .i64 5] rfl (by (try simp only [List.map_toArray, List.map_cons, List.map_nil]); first | done | rfl | (simp only [List.length_drop, List.length_take]; rfl)) ?_; (with_reducible refine (sweep_T.calls k 0 0 1099511627776 2199023255552 0 5 t136 t137 _ A6.out).mono ?_); rintro e w93 ⟨rfl, hb⟩; refine ⟨_, rfl, ?_⟩; have n0_ := Aside0.mk (below_step (by repeat (first | (with_reducible first | exact HB.out | apply below_alloc | apply pw_below_drewN | apply below_drew1) | exact HB.out)) hb); clear HB; have HB := n0_; clear n0_; (try clear hb); (try clear hb2); (try clear hk); (try clear hi)) | ((with_reducible refine gate_callee (f := 21) rfl ?_); refine goesL_ (some 37) rfl rfl Try.func21 (by kernel_rfl) rfl #[] rfl (by (try simp only [List.map_toArray, List.map_cons, List.map_nil]); first | done | rfl | (simp only [List.length_drop, List.length_take]; rfl)) ?_; (with_reducible refine (versallaw23_known.calls k  false _ A7.out).mono ?_); rintro e w94 ⟨rfl, hb⟩; refine ⟨_, rfl, ?_⟩; have n0_ := Aside0.mk (below_step (by repeat (first | (with_reducible first | exact HB.out | apply below_alloc | apply pw_below_drewN | apply below_drew1) | exact HB.out)) hb); clear HB; have HB := n0_; clear n0_; (try clear hb); (try clear hb2); (try clear hk); (try clear hi)))
    go_ret
    exact ⟨by first | rfl | (simp [errW_none, errW_some] <;> rfl) | (simp [*, errW_none, errW_some] <;> rfl), by repeat (first | (with_reducible first | exact HB.out | apply below_alloc | apply pw_below_drewN | apply below_drew1) | exact HB.out)⟩

/-- THE ONE PURE STATEMENT of versallaw23_SweepKnown: yours. -/
def versallaw23_SweepKnown.Pure : Prop := ∃ k, versallaw23_SweepKnown.f k  = some true
theorem versallaw23_SweepKnown.walk (P : versallaw23_SweepKnown.Pure)  (w : World)  :
    Calls Try.prog 5 #[] w fun e w' => e = .returned (.bool true) ∧ Below w.heap.size w w' := by
  obtain ⟨k, h⟩ := P  
  refine (versallaw23_SweepKnown.calls k  true w h).mono ?_
  rintro e w' ⟨rfl, hd⟩
  exact ⟨rfl, hd⟩

end Go.Proofs.Ytaohkdieigbccaa.PSweepKnown
