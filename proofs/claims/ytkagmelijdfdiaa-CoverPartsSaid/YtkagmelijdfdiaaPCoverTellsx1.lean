-- PRINTED BY print.sh 35421559b90ae4d0a3588c463048766b98c2df88dd9212a6774a882060cdf62d: not written by this session
import Derived.Test.YtkagmelijdfdiaaPCoverTellsx0
namespace Go.Proofs.Ytkagmelijdfdiaa.PCoverTells
open Go.RowKit Go.Proofs.YtkagmelijdfdiaaW.PrintWords Go.Proofs.YtkagmelijdfdiaaW.PrintLast Go.Proofs.YtkagmelijdfdiaaW.PrintMore
attribute [local go_sem] max2_int min2_int max_two min_two max_three min_three max_four min_four   -- for this text's walks alone
set_option linter.unusedVariables false
set_option linter.unusedSimpArgs false

/-! ### cover_brought: function 27 -/
def cover_brought.f (a0 : Int) (a1 : Int) : Option (Int) := some (mx (wrap64 (-a1)) (mn a0 a1))
set_option maxHeartbeats 8000000 in
set_option maxRecDepth 100000 in
theorem cover_brought.calls (a0 : Int) (a1 : Int) (r : Int) (w : World) (h : cover_brought.f a0 a1 = some r) :
    Calls Try.prog 27 #[.int .i64 a0, .int .i64 a1] w fun e w' => e = .returned (.int .i64 r) ∧ Below w.heap.size w w' := by
  have HB := Aside0.mk (Below.refl w.heap.size w)
  have H : (some (mx (wrap64 (-a1)) (mn a0 a1))) = some r := h
  clear h
  obtain ⟨ji3, hji3⟩ : ∃ j_ : Int, (mn a0 a1) = j_ := ⟨_, rfl⟩
  replace H : (some (mx (wrap64 (-a1)) (ji3))) = some r := by first | (rw [hji3] at H; exact H) | (simp only [hji3] at H ⊢; exact H)
  have hji3_ : (if a1 < a0 then a1 else a0) = ji3 := hji3
  obtain ⟨ji4, hji4⟩ : ∃ j_ : Int, (mx (wrap64 (-a1)) (ji3)) = j_ := ⟨_, rfl⟩
  replace H : (some ji4) = some r := by first | (rw [hji4] at H; exact H) | (simp only [hji4] at H ⊢; exact H)
  have hji4_ : (if (wrap64 (-a1)) < (ji3) then (ji3) else (wrap64 (-a1))) = ji4 := hji4
  obtain rfl := Option.some.inj H
  go_enter Try.func27, Try.ntmps27
  go_wp2
  go_ret
  exact ⟨by first | rfl | (simp [errW_none, errW_some] <;> rfl) | (simp only [← hji3, ← hji4]; first | rfl | (simp [errW_none, errW_some] <;> rfl)) | (simp [*, errW_none, errW_some] <;> rfl), by repeat (first | (with_reducible first | exact HB.out | apply below_alloc | apply pw_below_drewN | apply below_drew1) | exact HB.out)⟩

/-! ### cover_crosses: function 29 -/
def cover_crosses.j0 : Nat → Int → Int → Int → Int → Int → Bool → Option (Int)
  | 0, _, _, _, _, _, _ => none
  | k + 1, x2, x8, x10, x11, x12, x39 => if x39 = true then (some 1) else (if x8 > x2 then (if x10 ≤ x2 then (if x11 < x12 then (some (-1)) else (some 0)) else (some 0)) else (some 0))
def cover_crosses.f (k : Nat) (a0_0 : Int) (a0_1 : Int) (a0_2 : Int) (a0_3 : Int) (a1 : Int) (a2 : Int) : Option (Int) := (cover_brought.f a0_0 1073741824).bind fun t102 => ((cover_brought.f a0_1 1073741824).bind fun t103 => ((cover_brought.f a0_2 1073741824).bind fun t104 => ((cover_brought.f a0_3 1073741824).bind fun t105 => (if t103 ≤ a2 then (if t105 > a2 then (cover_crosses.j0 k a2 t103 t105 (wrap64 ((wrap64 (t104 - t102)) * (wrap64 (a2 - t103)))) (wrap64 ((wrap64 (a1 - t102)) * (wrap64 (t105 - t103)))) (decide ((wrap64 ((wrap64 (t104 - t102)) * (wrap64 (a2 - t103)))) > (wrap64 ((wrap64 (a1 - t102)) * (wrap64 (t105 - t103))))))) else (cover_crosses.j0 k a2 t103 t105 (wrap64 ((wrap64 (t104 - t102)) * (wrap64 (a2 - t103)))) (wrap64 ((wrap64 (a1 - t102)) * (wrap64 (t105 - t103)))) false)) else (cover_crosses.j0 k a2 t103 t105 (wrap64 ((wrap64 (t104 - t102)) * (wrap64 (a2 - t103)))) (wrap64 ((wrap64 (a1 - t102)) * (wrap64 (t105 - t103)))) false)))))
theorem cover_crosses.mono_l : ∀ k, (∀ y0 y1 y2 y3 y4 y5, LeO (cover_crosses.j0 k y0 y1 y2 y3 y4 y5) (cover_crosses.j0 (k + 1) y0 y1 y2 y3 y4 y5))
  | 0 => fun _ _ _ _ _ _ r h => by simp [cover_crosses.j0] at h
  | k + 1 => by
    have ih0 := cover_crosses.mono_l k
    · intro y0 y1 y2 y3 y4 y5
      unfold cover_crosses.j0
      repeat' first
      | (with_reducible exact ih0 _ _ _ _ _ _)
      | (with_reducible exact LeO.refl _)
      | (with_reducible exact LeO.none _)
      | (with_reducible refine LeO.ite ?_ ?_)
      | (with_reducible refine LeO.bind ?_ (fun _ => ?_))
      | exact ih0 _ _ _ _ _ _
      | exact LeO.none _
      | refine LeO.ite ?_ ?_
      | refine LeO.bind ?_ (fun _ => ?_)
theorem cover_crosses.mono : ∀ a0 a1 a2 a3 a4 a5 k, LeO (cover_crosses.f k a0 a1 a2 a3 a4 a5) (cover_crosses.f (k + 1) a0 a1 a2 a3 a4 a5) := by
  intro a0 a1 a2 a3 a4 a5 k
  have ih0 := cover_crosses.mono_l k
  unfold cover_crosses.f
  repeat' first
      | (with_reducible exact ih0 _ _ _ _ _ _)
      | (with_reducible exact LeO.refl _)
      | (with_reducible exact LeO.none _)
      | (with_reducible refine LeO.ite ?_ ?_)
      | (with_reducible refine LeO.bind ?_ (fun _ => ?_))
      | exact ih0 _ _ _ _ _ _
      | exact LeO.none _
      | refine LeO.ite ?_ ?_
      | refine LeO.bind ?_ (fun _ => ?_)
def cover_crosses.T1 : Bool × List (List Nat × List Nat) := (true, [([], []), ([0], [0]), ([1], [1]), ([], []), ([3], [3]), ([4, 2], [4]), ([], []), ([6], [6]), ([7, 5], [7]), ([], []), ([9], [9]), ([10, 8], [10]), ([2, 11, 0, 1, 2], [2]), ([5, 12, 0, 1, 2, 3, 4, 5, 12], [5]), ([8, 13, 0, 1, 2, 3, 4, 5, 6, 7, 8, 12, 13], [8]), ([11, 14, 0, 1, 2, 3, 4, 5, 6, 7, 8, 9, 10, 11, 12, 13, 14], [11])])
def cover_crosses.B1 : List Nat := [0, 1, 3, 0, 8, 31, 0, 64, 255, 0, 512, 2047, 4095, 8191, 16383, 32767]
theorem cover_crosses.tab1 : rtab .any (opsOf Try.f29 1) = cover_crosses.T1 := by kernel_rfl
theorem cover_crosses.bits1 : waitsOk cover_crosses.T1.2 cover_crosses.B1 = true := by kernel_rfl
set_option maxHeartbeats 8000000 in
set_option maxRecDepth 100000 in
theorem cover_crosses.calls (k : Nat) (a0_0 : Int) (a0_1 : Int) (a0_2 : Int) (a0_3 : Int) (a1 : Int) (a2 : Int) (r : Int) (w : World) (h : cover_crosses.f k a0_0 a0_1 a0_2 a0_3 a1 a2 = some r) :
    Calls Try.prog 29 #[.agg #[.int .i64 a0_0, .int .i64 a0_1, .int .i64 a0_2, .int .i64 a0_3], .int .i64 a1, .int .i64 a2] w fun e w' => e = .returned (.int .i64 r) ∧ Below w.heap.size w w' := by
  have hu33 := Try.underlying33
  have HB := Aside0.mk (Below.refl w.heap.size w)
  have H : ((cover_brought.f a0_0 1073741824).bind fun t102 => ((cover_brought.f a0_1 1073741824).bind fun t103 => ((cover_brought.f a0_2 1073741824).bind fun t104 => ((cover_brought.f a0_3 1073741824).bind fun t105 => (if t103 ≤ a2 then (if t105 > a2 then (cover_crosses.j0 k a2 t103 t105 (wrap64 ((wrap64 (t104 - t102)) * (wrap64 (a2 - t103)))) (wrap64 ((wrap64 (a1 - t102)) * (wrap64 (t105 - t103)))) (decide ((wrap64 ((wrap64 (t104 - t102)) * (wrap64 (a2 - t103)))) > (wrap64 ((wrap64 (a1 - t102)) * (wrap64 (t105 - t103))))))) else (cover_crosses.j0 k a2 t103 t105 (wrap64 ((wrap64 (t104 - t102)) * (wrap64 (a2 - t103)))) (wrap64 ((wrap64 (a1 - t102)) * (wrap64 (t105 - t103)))) false)) else (cover_crosses.j0 k a2 t103 t105 (wrap64 ((wrap64 (t104 - t102)) * (wrap64 (a2 - t103)))) (wrap64 ((wrap64 (a1 - t102)) * (wrap64 (t105 - t103)))) false)))))) = some r := h
  clear h
  replace H := Option.bind_eq_some_iff.mp H
  obtain ⟨t102, A40, H⟩ := H
  replace H : ((cover_brought.f a0_1 1073741824).bind fun t103 => ((cover_brought.f a0_2 1073741824).bind fun t104 => ((cover_brought.f a0_3 1073741824).bind fun t105 => (if t103 ≤ a2 then (if t105 > a2 then (cover_crosses.j0 k a2 t103 t105 (wrap64 ((wrap64 (t104 - t102)) * (wrap64 (a2 - t103)))) (wrap64 ((wrap64 (a1 - t102)) * (wrap64 (t105 - t103)))) (decide ((wrap64 ((wrap64 (t104 - t102)) * (wrap64 (a2 - t103)))) > (wrap64 ((wrap64 (a1 - t102)) * (wrap64 (t105 - t103))))))) else (cover_crosses.j0 k a2 t103 t105 (wrap64 ((wrap64 (t104 - t102)) * (wrap64 (a2 - t103)))) (wrap64 ((wrap64 (a1 - t102)) * (wrap64 (t105 - t103)))) false)) else (cover_crosses.j0 k a2 t103 t105 (wrap64 ((wrap64 (t104 - t102)) * (wrap64 (a2 - t103)))) (wrap64 ((wrap64 (a1 - t102)) * (wrap64 (t105 - t103)))) false))))) = some r := H
  have A4 := Aside0.mk A40
  clear A40
  replace H := Option.bind_eq_some_iff.mp H
  obtain ⟨t103, A50, H⟩ := H
  replace H : ((cover_brought.f a0_2 1073741824).bind fun t104 => ((cover_brought.f a0_3 1073741824).bind fun t105 => (if t103 ≤ a2 then (if t105 > a2 then (cover_crosses.j0 k a2 t103 t105 (wrap64 ((wrap64 (t104 - t102)) * (wrap64 (a2 - t103)))) (wrap64 ((wrap64 (a1 - t102)) * (wrap64 (t105 - t103)))) (decide ((wrap64 ((wrap64 (t104 - t102)) * (wrap64 (a2 - t103)))) > (wrap64 ((wrap64 (a1 - t102)) * (wrap64 (t105 - t103))))))) else (cover_crosses.j0 k a2 t103 t105 (wrap64 ((wrap64 (t104 - t102)) * (wrap64 (a2 - t103)))) (wrap64 ((wrap64 (a1 - t102)) * (wrap64 (t105 - t103)))) false)) else (cover_crosses.j0 k a2 t103 t105 (wrap64 ((wrap64 (t104 - t102)) * (wrap64 (a2 - t103)))) (wrap64 ((wrap64 (a1 - t102)) * (wrap64 (t105 - t103)))) false)))) = some r := H
  have A5 := Aside0.mk A50
  clear A50
  replace H := Option.bind_eq_some_iff.mp H
  obtain ⟨t104, A60, H⟩ := H
  replace H : ((cover_brought.f a0_3 1073741824).bind fun t105 => (if t103 ≤ a2 then (if t105 > a2 then (cover_crosses.j0 k a2 t103 t105 (wrap64 ((wrap64 (t104 - t102)) * (wrap64 (a2 - t103)))) (wrap64 ((wrap64 (a1 - t102)) * (wrap64 (t105 - t103)))) (decide ((wrap64 ((wrap64 (t104 - t102)) * (wrap64 (a2 - t103)))) > (wrap64 ((wrap64 (a1 - t102)) * (wrap64 (t105 - t103))))))) else (cover_crosses.j0 k a2 t103 t105 (wrap64 ((wrap64 (t104 - t102)) * (wrap64 (a2 - t103)))) (wrap64 ((wrap64 (a1 - t102)) * (wrap64 (t105 - t103)))) false)) else (cover_crosses.j0 k a2 t103 t105 (wrap64 ((wrap64 (t104 - t102)) * (wrap64 (a2 - t103)))) (wrap64 ((wrap64 (a1 - t102)) * (wrap64 (t105 - t103)))) false))) = some r := H
  have A6 := Aside0.mk A60
  clear A60
  replace H := Option.bind_eq_some_iff.mp H
  obtain ⟨t105, A70, H⟩ := H
  replace H : (if t103 ≤ a2 then (if t105 > a2 then (cover_crosses.j0 k a2 t103 t105 (wrap64 ((wrap64 (t104 - t102)) * (wrap64 (a2 - t103)))) (wrap64 ((wrap64 (a1 - t102)) * (wrap64 (t105 - t103)))) (decide ((wrap64 ((wrap64 (t104 - t102)) * (wrap64 (a2 - t103)))) > (wrap64 ((wrap64 (a1 - t102)) * (wrap64 (t105 - t103))))))) else (cover_crosses.j0 k a2 t103 t105 (wrap64 ((wrap64 (t104 - t102)) * (wrap64 (a2 - t103)))) (wrap64 ((wrap64 (a1 - t102)) * (wrap64 (t105 - t103)))) false)) else (cover_crosses.j0 k a2 t103 t105 (wrap64 ((wrap64 (t104 - t102)) * (wrap64 (a2 - t103)))) (wrap64 ((wrap64 (a1 - t102)) * (wrap64 (t105 - t103)))) false)) = some r := H
  have A7 := Aside0.mk A70
  clear A70
  have HC8 := Aside0.mk H
  clear H
  go_enter Try.func29, Try.ntmps29
  try go_wp2_with (first | ((with_reducible refine gate_dst (N := 3) rfl ?_); refine box_event ?hg (N := 3) ?hd (cs := #[.int .i64 a0_0, .int .i64 a0_1, .int .i64 a0_2, .int .i64 a0_3]) (t := 33) ?hr ?_; (case hd => rfl); (case hg => rfl); (case hr => first | (go_simp; done) | (go_simp; rfl)); intro gb101 hg w9 hbox hb; have n0_ := Aside0.mk (below_step (by repeat (first | (with_reducible first | exact HB.out | apply below_alloc | apply pw_below_drewN | apply below_drew1) | exact HB.out)) hb); have n1_ := Aside0.mk (hbox); have n2_ := Aside0.mk ((by rw [hg]; exact (below_size (by repeat (first | (with_reducible first | exact HB.out | apply below_alloc | apply pw_below_drewN | apply below_drew1) | exact HB.out))) : w.heap.size ≤ gb101)); have n3_ := Aside0.mk ((by rw [hg]; exact (below_size (by repeat (first | (with_reducible first | exact HB.out | apply below_alloc | apply pw_below_drewN | apply below_drew1) | exact HB.out))) : w.heap.size ≤ gb101)); clear HB; have HB := n0_; have BK101 := n1_; have GW101 := n2_; have GE101 := n3_; clear n0_ n1_ n2_ n3_; clear hb hbox hg))
  have n0_ := Aside0.mk (blk_drew BK101.out)
  have n1_ := Aside0.mk (below_drew1 HB.out)
  clear BK101
  clear HB
  have BK101 := n0_
  have HB := n1_
  clear n0_ n1_
  refine start_ (n := 16) (S := fun w' => w'.cell? ⟨gb101, 0, none⟩ = some (.int .i64 a0_0) ∧ w'.cell? ⟨gb101, 1, none⟩ = some (.int .i64 a0_1) ∧ w'.cell? ⟨gb101, 2, none⟩ = some (.int .i64 a0_2) ∧ w'.cell? ⟨gb101, 3, none⟩ = some (.int .i64 a0_3)) (ds := []) #[false, false, false, false, false, false, false, false, false, false, false, false, false, false, false, false] (by kernel_rfl) rfl rfl ⟨(blk_cell BK101.out 0).trans rfl, (blk_cell BK101.out 1).trans rfl, (blk_cell BK101.out 2).trans rfl, (blk_cell BK101.out 3).trans rfl⟩ (fun hHeld => ?_); refine with_tabW cover_crosses.tab1 cover_crosses.bits1 (fun HT_ HW_ => ?_)
  generalize w9.drew = w10 at BK101 HB hHeld ⊢
  refine pure_ (i := 0) (N := some 13) (v := ?_) (a' := ?_) #[true, false, false, false, false, false, false, false, false, false, false, false, false, false, false, false] rfl rfl (any_of HT_.out (by kernel_rfl)) (fun _ _ _ h => h) (Or.inl ⟨by rfl, ?_⟩) ?_ ?_
  rotate_left
  · intro w'
    go_simp
    with_reducible rfl
  rotate_left
  · simp only [Act.put, List.setIfInBounds_toArray, List.set_cons_zero, List.set_cons_succ, i64_w, i32_w]
    rfl
  refine pure_ (i := 3) (N := some 16) (v := ?_) (a' := ?_) #[true, false, false, true, false, false, false, false, false, false, false, false, false, false, false, false] rfl rfl (any_of HT_.out (by kernel_rfl)) (fun _ _ _ h => h) (Or.inl ⟨by rfl, ?_⟩) ?_ ?_
  rotate_left
  · intro w'
    go_simp
    with_reducible rfl
  rotate_left
  · simp only [Act.put, List.setIfInBounds_toArray, List.set_cons_zero, List.set_cons_succ, i64_w, i32_w]
    rfl
  refine pure_ (i := 6) (N := some 19) (v := ?_) (a' := ?_) #[true, false, false, true, false, false, true, false, false, false, false, false, false, false, false, false] rfl rfl (any_of HT_.out (by kernel_rfl)) (fun _ _ _ h => h) (Or.inl ⟨by rfl, ?_⟩) ?_ ?_
  rotate_left
  · intro w'
    go_simp
    with_reducible rfl
  rotate_left
  · simp only [Act.put, List.setIfInBounds_toArray, List.set_cons_zero, List.set_cons_succ, i64_w, i32_w]
    rfl
  refine pure_ (i := 9) (N := some 22) (v := ?_) (a' := ?_) #[true, false, false, true, false, false, true, false, false, true, false, false, false, false, false, false] rfl rfl (any_of HT_.out (by kernel_rfl)) (fun _ _ _ h => h) (Or.inl ⟨by rfl, ?_⟩) ?_ ?_
  rotate_left
  · intro w'
    go_simp
    with_reducible rfl
  rotate_left
  · simp only [Act.put, List.setIfInBounds_toArray, List.set_cons_zero, List.set_cons_succ, i64_w, i32_w]
    rfl
  refine take_ (i := 1) (N := some 14) (v := ?_) (a' := ?_) #[true, true, false, true, false, false, true, false, false, true, false, false, false, false, false, false] rfl rfl (take_ofW HT_.out HW_.out (by kernel_rfl)) (fun _ _ _ h => h) (Or.inl ⟨by rfl, ?_⟩) hHeld ?_ ?_
  rotate_left
  · rintro w' ⟨s0, s1, s2, s3⟩
    go_simp
    with_reducible rfl
  rotate_left
  · simp only [Act.put, List.setIfInBounds_toArray, List.set_cons_zero, List.set_cons_succ, i64_w, i32_w]
    rfl
  refine take_ (i := 4) (N := some 17) (v := ?_) (a' := ?_) #[true, true, false, true, true, false, true, false, false, true, false, false, false, false, false, false] rfl rfl (take_ofW HT_.out HW_.out (by kernel_rfl)) (fun _ _ _ h => h) (Or.inl ⟨by rfl, ?_⟩) hHeld ?_ ?_
  rotate_left
  · rintro w' ⟨s0, s1, s2, s3⟩
    go_simp
    with_reducible rfl
  rotate_left
  · simp only [Act.put, List.setIfInBounds_toArray, List.set_cons_zero, List.set_cons_succ, i64_w, i32_w]
    rfl
  refine take_ (i := 7) (N := some 20) (v := ?_) (a' := ?_) #[true, true, false, true, true, false, true, true, false, true, false, false, false, false, false, false] rfl rfl (take_ofW HT_.out HW_.out (by kernel_rfl)) (fun _ _ _ h => h) (Or.inl ⟨by rfl, ?_⟩) hHeld ?_ ?_
  rotate_left
  · rintro w' ⟨s0, s1, s2, s3⟩
    go_simp
    with_reducible rfl
  rotate_left
  · simp only [Act.put, List.setIfInBounds_toArray, List.set_cons_zero, List.set_cons_succ, i64_w, i32_w]
    rfl
  refine take_ (i := 10) (N := some 23) (v := ?_) (a' := ?_) #[true, true, false, true, true, false, true, true, false, true, true, false, false, false, false, false] rfl rfl (take_ofW HT_.out HW_.out (by kernel_rfl)) (fun _ _ _ h => h) (Or.inl ⟨by rfl, ?_⟩) hHeld ?_ ?_
  rotate_left
  · rintro w' ⟨s0, s1, s2, s3⟩
    go_simp
    with_reducible rfl
  rotate_left
  · simp only [Act.put, List.setIfInBounds_toArray, List.set_cons_zero, List.set_cons_succ, i64_w, i32_w]
    rfl
  refine one_ (i := 2) (N := some 15) #[true, true, true, true, true, false, true, true, false, true, true, false, false, false, false, false] rfl rfl (one_of HT_.out (by kernel_rfl)) (by decide) (fun K hK => ?_)
  refine goes_ Try.func27 (by kernel_rfl) rfl #[.int .i64 a0_0, .int .i64 1073741824] (by rfl) rfl rfl (by (try simp only [List.map_toArray, List.map_cons, List.map_nil]); first | done | rfl | (simp only [List.length_drop, List.length_take]; rfl)) ?_
  with_reducible refine (cover_brought.calls a0_0 1073741824 t102 _ A4.out).mono ?_
  rintro e w11 ⟨rfl, hb⟩
  refine ⟨_, rfl, ?_⟩
  have n0_ := Aside0.mk (blk_below (g := gb101) (o := .cells #[.int .i64 a0_0, .int .i64 a0_1, .int .i64 a0_2, .int .i64 a0_3] 33 (0, 0)) (by (with_reducible repeat (first | refine blk_drewN ?_ _ | refine blk_drew ?_ | refine blk_alloc ?_ _)); exact BK101.out) hb)
  have n1_ := Aside0.mk (below_step (by repeat (first | (with_reducible first | exact HB.out | apply below_alloc | apply pw_below_drewN | apply below_drew1 | refine below_set ?_ GE101.out) | exact HB.out)) hb)
  clear BK101
  clear HB
  have BK101 := n0_
  have HB := n1_
  clear n0_ n1_
  (try clear hb)
  (try clear hb2)
  (try clear hk)
  (try clear hi)
  refine hK.out _ _ ⟨(blk_cell BK101.out 0).trans rfl, (blk_cell BK101.out 1).trans rfl, (blk_cell BK101.out 2).trans rfl, (blk_cell BK101.out 3).trans rfl⟩ (fun hHeld => ?_)
  clear hK K
  refine norm_ (a' := ?_) ?_ ?_
  rotate_left
  · show Act.put _ (some 15) _ = _
    simp only [Act.put, List.setIfInBounds_toArray, List.set_cons_zero, List.set_cons_succ, i64_w, i32_w]
    rfl
  refine one_ (i := 5) (N := some 18) #[true, true, true, true, true, true, true, true, false, true, true, false, false, false, false, false] rfl rfl (one_of HT_.out (by kernel_rfl)) (by decide) (fun K hK => ?_)
  refine goes_ Try.func27 (by kernel_rfl) rfl #[.int .i64 a0_1, .int .i64 1073741824] (by rfl) rfl rfl (by (try simp only [List.map_toArray, List.map_cons, List.map_nil]); first | done | rfl | (simp only [List.length_drop, List.length_take]; rfl)) ?_
  with_reducible refine (cover_brought.calls a0_1 1073741824 t103 _ A5.out).mono ?_
  rintro e w12 ⟨rfl, hb⟩
  refine ⟨_, rfl, ?_⟩
  have n0_ := Aside0.mk (blk_below (g := gb101) (o := .cells #[.int .i64 a0_0, .int .i64 a0_1, .int .i64 a0_2, .int .i64 a0_3] 33 (0, 0)) (by (with_reducible repeat (first | refine blk_drewN ?_ _ | refine blk_drew ?_ | refine blk_alloc ?_ _)); exact BK101.out) hb)
  have n1_ := Aside0.mk (below_step (by repeat (first | (with_reducible first | exact HB.out | apply below_alloc | apply pw_below_drewN | apply below_drew1 | refine below_set ?_ GE101.out) | exact HB.out)) hb)
  clear BK101
  clear HB
  have BK101 := n0_
  have HB := n1_
  clear n0_ n1_
  (try clear hb)
  (try clear hb2)
  (try clear hk)
  (try clear hi)
  refine hK.out _ _ ⟨(blk_cell BK101.out 0).trans rfl, (blk_cell BK101.out 1).trans rfl, (blk_cell BK101.out 2).trans rfl, (blk_cell BK101.out 3).trans rfl⟩ (fun hHeld => ?_)
  clear hK K
  refine norm_ (a' := ?_) ?_ ?_
  rotate_left
  · show Act.put _ (some 18) _ = _
    simp only [Act.put, List.setIfInBounds_toArray, List.set_cons_zero, List.set_cons_succ, i64_w, i32_w]
    rfl
  refine one_ (i := 8) (N := some 21) #[true, true, true, true, true, true, true, true, true, true, true, false, false, false, false, false] rfl rfl (one_of HT_.out (by kernel_rfl)) (by decide) (fun K hK => ?_)
  refine goes_ Try.func27 (by kernel_rfl) rfl #[.int .i64 a0_2, .int .i64 1073741824] (by rfl) rfl rfl (by (try simp only [List.map_toArray, List.map_cons, List.map_nil]); first | done | rfl | (simp only [List.length_drop, List.length_take]; rfl)) ?_
  with_reducible refine (cover_brought.calls a0_2 1073741824 t104 _ A6.out).mono ?_
  rintro e w13 ⟨rfl, hb⟩
  refine ⟨_, rfl, ?_⟩
  have n0_ := Aside0.mk (blk_below (g := gb101) (o := .cells #[.int .i64 a0_0, .int .i64 a0_1, .int .i64 a0_2, .int .i64 a0_3] 33 (0, 0)) (by (with_reducible repeat (first | refine blk_drewN ?_ _ | refine blk_drew ?_ | refine blk_alloc ?_ _)); exact BK101.out) hb)
  have n1_ := Aside0.mk (below_step (by repeat (first | (with_reducible first | exact HB.out | apply below_alloc | apply pw_below_drewN | apply below_drew1 | refine below_set ?_ GE101.out) | exact HB.out)) hb)
  clear BK101
  clear HB
  have BK101 := n0_
  have HB := n1_
  clear n0_ n1_
  (try clear hb)
  (try clear hb2)
  (try clear hk)
  (try clear hi)
  refine hK.out _ _ ⟨(blk_cell BK101.out 0).trans rfl, (blk_cell BK101.out 1).trans rfl, (blk_cell BK101.out 2).trans rfl, (blk_cell BK101.out 3).trans rfl⟩ (fun hHeld => ?_)
  clear hK K
  refine norm_ (a' := ?_) ?_ ?_
  rotate_left
  · show Act.put _ (some 21) _ = _
    simp only [Act.put, List.setIfInBounds_toArray, List.set_cons_zero, List.set_cons_succ, i64_w, i32_w]
    rfl
  refine one_ (i := 11) (N := some 24) #[true, true, true, true, true, true, true, true, true, true, true, true, false, false, false, false] rfl rfl (one_of HT_.out (by kernel_rfl)) (by decide) (fun K hK => ?_)
  refine goes_ Try.func27 (by kernel_rfl) rfl #[.int .i64 a0_3, .int .i64 1073741824] (by rfl) rfl rfl (by (try simp only [List.map_toArray, List.map_cons, List.map_nil]); first | done | rfl | (simp only [List.length_drop, List.length_take]; rfl)) ?_
  with_reducible refine (cover_brought.calls a0_3 1073741824 t105 _ A7.out).mono ?_
  rintro e w14 ⟨rfl, hb⟩
  refine ⟨_, rfl, ?_⟩
  have n0_ := Aside0.mk (blk_below (g := gb101) (o := .cells #[.int .i64 a0_0, .int .i64 a0_1, .int .i64 a0_2, .int .i64 a0_3] 33 (0, 0)) (by (with_reducible repeat (first | refine blk_drewN ?_ _ | refine blk_drew ?_ | refine blk_alloc ?_ _)); exact BK101.out) hb)
  have n1_ := Aside0.mk (below_step (by repeat (first | (with_reducible first | exact HB.out | apply below_alloc | apply pw_below_drewN | apply below_drew1 | refine below_set ?_ GE101.out) | exact HB.out)) hb)
  clear BK101
  clear HB
  have BK101 := n0_
  have HB := n1_
  clear n0_ n1_
  (try clear hb)
  (try clear hb2)
  (try clear hk)
  (try clear hi)
  refine hK.out _ _ ⟨(blk_cell BK101.out 0).trans rfl, (blk_cell BK101.out 1).trans rfl, (blk_cell BK101.out 2).trans rfl, (blk_cell BK101.out 3).trans rfl⟩ (fun hHeld => ?_)
  clear hK K
  refine norm_ (a' := ?_) ?_ ?_
  rotate_left
  · show Act.put _ (some 24) _ = _
    simp only [Act.put, List.setIfInBounds_toArray, List.set_cons_zero, List.set_cons_succ, i64_w, i32_w]
    rfl
  refine pure_ (i := 12) (N := some 7) (v := ?_) (a' := ?_) #[true, true, true, true, true, true, true, true, true, true, true, true, true, false, false, false] rfl rfl (any_of HT_.out (by kernel_rfl)) (fun _ _ _ h => h) (Or.inl ⟨by rfl, ?_⟩) ?_ ?_
  rotate_left
  · intro w'
    go_simp
    with_reducible rfl
  rotate_left
  · simp only [Act.put, List.setIfInBounds_toArray, List.set_cons_zero, List.set_cons_succ, i64_w, i32_w]
    rfl
  refine pure_ (i := 13) (N := some 8) (v := ?_) (a' := ?_) #[true, true, true, true, true, true, true, true, true, true, true, true, true, true, false, false] rfl rfl (any_of HT_.out (by kernel_rfl)) (fun _ _ _ h => h) (Or.inl ⟨by rfl, ?_⟩) ?_ ?_
  rotate_left
  · intro w'
    go_simp
    with_reducible rfl
  rotate_left
  · simp only [Act.put, List.setIfInBounds_toArray, List.set_cons_zero, List.set_cons_succ, i64_w, i32_w]
    rfl
  refine pure_ (i := 14) (N := some 9) (v := ?_) (a' := ?_) #[true, true, true, true, true, true, true, true, true, true, true, true, true, true, true, false] rfl rfl (any_of HT_.out (by kernel_rfl)) (fun _ _ _ h => h) (Or.inl ⟨by rfl, ?_⟩) ?_ ?_
  rotate_left
  · intro w'
    go_simp
    with_reducible rfl
  rotate_left
  · simp only [Act.put, List.setIfInBounds_toArray, List.set_cons_zero, List.set_cons_succ, i64_w, i32_w]
    rfl
  refine pure_ (i := 15) (N := some 10) (v := ?_) (a' := ?_) #[true, true, true, true, true, true, true, true, true, true, true, true, true, true, true, true] rfl rfl (any_of HT_.out (by kernel_rfl)) (fun _ _ _ h => h) (Or.inl ⟨by rfl, ?_⟩) ?_ ?_
  rotate_left
  · intro w'
    go_simp
    with_reducible rfl
  rotate_left
  · simp only [Act.put, List.setIfInBounds_toArray, List.set_cons_zero, List.set_cons_succ, i64_w, i32_w]
    rfl
  refine done_ (done_of HT_.out (by kernel_rfl)) ?_
  go_upto_region 3 with (fail)
  go_cut [39] (fun v39 wc => ∃ (kq : Nat) (x39_7 : Bool), v39 = .bool x39_7 ∧ Aside0 (cover_crosses.j0 kq a2 t103 t105 (wrap64 ((wrap64 (t104 - t102)) * (wrap64 (a2 - t103)))) (wrap64 ((wrap64 (a1 - t102)) * (wrap64 (t105 - t103)))) x39_7 = some r) ∧ Aside0 (kq ≤ k) ∧ Aside0 (wc.heap[gb101]? = some (.cells #[.int .i64 a0_0, .int .i64 a0_1, .int .i64 a0_2, .int .i64 a0_3] 33 (0, 0))) ∧ Aside0 (Below w.heap.size w wc))
  case first =>
    have H := HC8.out
    clear HC8
    by_cases c15 : t103 ≤ a2
    · rw [if_pos c15] at H
      have c15b0 : decide (t103 ≤ a2) = true := decide_eq_true c15
      clear c15
      (first | rw [c15b0] | (simp only [i64_w, i32_w]; rw [c15b0]) | skip)
      by_cases c16 : t105 > a2
      · rw [if_pos c16] at H
        have c16b0 : decide (a2 < t105) = true := decide_eq_true c16
        clear c16
        have H' := Aside0.mk H
        clear H
        go_wp2
        go_meet
        case rel => exact ⟨_, (decide ((wrap64 ((wrap64 (t104 - t102)) * (wrap64 (a2 - t103)))) > (wrap64 ((wrap64 (a1 - t102)) * (wrap64 (t105 - t103)))))), (by first | rfl | (simp; done) | (simp [*]; done)), H', ⟨by first | omega | exact Nat.le_refl _⟩, ⟨by (with_reducible repeat (first | refine blk_drewN ?_ _ | refine blk_drew ?_ | refine blk_alloc ?_ _)); exact BK101.out⟩, ⟨by repeat (first | (with_reducible first | exact HB.out | apply below_alloc | apply pw_below_drewN | apply below_drew1 | refine below_set ?_ GE101.out) | exact HB.out)⟩⟩
      · rw [if_neg c16] at H
        have c16b0 : decide (a2 < t105) = false := decide_eq_false c16
        clear c16
        have H' := Aside0.mk H
        clear H
        go_wp2
        go_meet
        case rel => exact ⟨_, (false), (by first | rfl | (simp; done) | (simp [*]; done)), H', ⟨by first | omega | exact Nat.le_refl _⟩, ⟨by (with_reducible repeat (first | refine blk_drewN ?_ _ | refine blk_drew ?_ | refine blk_alloc ?_ _)); exact BK101.out⟩, ⟨by repeat (first | (with_reducible first | exact HB.out | apply below_alloc | apply pw_below_drewN | apply below_drew1 | refine below_set ?_ GE101.out) | exact HB.out)⟩⟩
    · rw [if_neg c15] at H
      have c15b0 : decide (t103 ≤ a2) = false := decide_eq_false c15
      clear c15
      (first | rw [c15b0] | (simp only [i64_w, i32_w]; rw [c15b0]) | skip)
      have H' := Aside0.mk H
      clear H
      go_wp2
      go_meet
      case rel => exact ⟨_, (false), (by first | rfl | (simp; done) | (simp [*]; done)), H', ⟨by first | omega | exact Nat.le_refl _⟩, ⟨by (with_reducible repeat (first | refine blk_drewN ?_ _ | refine blk_drew ?_ | refine blk_alloc ?_ _)); exact BK101.out⟩, ⟨by repeat (first | (with_reducible first | exact HB.out | apply below_alloc | apply pw_below_drewN | apply below_drew1 | refine below_set ?_ GE101.out) | exact HB.out)⟩⟩
  case rest =>
    clear HC8
    try clear c1
    try clear c2
    try clear p2
    try clear p6
    try clear c15
    try clear c15b0
    try clear c16
    try clear c16b0
    obtain ⟨kq, x39_7, rfl, HA, HJ7, BK101, HB⟩ := hcut
    cases kq with
    | zero => exact absurd HA.out (by simp [cover_crosses.j0])
    | succ kj7 =>
      have H := HA.out
      clear HA
      simp only [cover_crosses.j0] at H
      by_cases c17 : x39_7 = true
      · subst c17
        have H1 : (some 1) = some r := by rw [if_pos rfl] at H; exact H
        clear H
        have H := H1
        clear H1
        obtain rfl := Option.some.inj H
        go_wp2
        go_ret
        exact ⟨by first | rfl | (simp [errW_none, errW_some] <;> rfl) | (simp [*, errW_none, errW_some] <;> rfl), by repeat (first | (with_reducible first | exact HB.out | apply below_alloc | apply pw_below_drewN | apply below_drew1 | refine below_set ?_ GE101.out) | exact HB.out)⟩
      · replace c17 := Bool.eq_false_iff.mpr c17
        subst c17
        have H1 : (if t103 > a2 then (if t105 ≤ a2 then (if (wrap64 ((wrap64 (t104 - t102)) * (wrap64 (a2 - t103)))) < (wrap64 ((wrap64 (a1 - t102)) * (wrap64 (t105 - t103)))) then (some (-1)) else (some 0)) else (some 0)) else (some 0)) = some r := by rw [if_neg (show ¬ (false = true) by decide)] at H; exact H
        clear H
        have H := H1
        clear H1
        by_cases c18 : t103 > a2
        · rw [if_pos c18] at H
          have c18b0 : decide (a2 < t103) = true := decide_eq_true c18
          clear c18
          by_cases c19 : t105 ≤ a2
          · rw [if_pos c19] at H
            have c19b0 : decide (t105 ≤ a2) = true := decide_eq_true c19
            clear c19
            by_cases c20 : (wrap64 ((wrap64 (t104 - t102)) * (wrap64 (a2 - t103)))) < (wrap64 ((wrap64 (a1 - t102)) * (wrap64 (t105 - t103))))
            · rw [if_pos c20] at H
              have c20b0 : decide ((wrap64 ((wrap64 (t104 - t102)) * (wrap64 (a2 - t103)))) < (wrap64 ((wrap64 (a1 - t102)) * (wrap64 (t105 - t103))))) = true := decide_eq_true c20
              clear c20
              obtain rfl := Option.some.inj H
              go_wp2
              go_ret
              exact ⟨by first | rfl | (simp [errW_none, errW_some] <;> rfl) | (simp [*, errW_none, errW_some] <;> rfl), by repeat (first | (with_reducible first | exact HB.out | apply below_alloc | apply pw_below_drewN | apply below_drew1 | refine below_set ?_ GE101.out) | exact HB.out)⟩
            · rw [if_neg c20] at H
              have c20b0 : decide ((wrap64 ((wrap64 (t104 - t102)) * (wrap64 (a2 - t103)))) < (wrap64 ((wrap64 (a1 - t102)) * (wrap64 (t105 - t103))))) = false := decide_eq_false c20
              clear c20
              obtain rfl := Option.some.inj H
              go_wp2
              go_ret
              exact ⟨by first | rfl | (simp [errW_none, errW_some] <;> rfl) | (simp [*, errW_none, errW_some] <;> rfl), by repeat (first | (with_reducible first | exact HB.out | apply below_alloc | apply pw_below_drewN | apply below_drew1 | refine below_set ?_ GE101.out) | exact HB.out)⟩
          · rw [if_neg c19] at H
            have c19b0 : decide (t105 ≤ a2) = false := decide_eq_false c19
            clear c19
            obtain rfl := Option.some.inj H
            go_wp2
            go_ret
            exact ⟨by first | rfl | (simp [errW_none, errW_some] <;> rfl) | (simp [*, errW_none, errW_some] <;> rfl), by repeat (first | (with_reducible first | exact HB.out | apply below_alloc | apply pw_below_drewN | apply below_drew1 | refine below_set ?_ GE101.out) | exact HB.out)⟩
        · rw [if_neg c18] at H
          have c18b0 : decide (a2 < t103) = false := decide_eq_false c18
          clear c18
          obtain rfl := Option.some.inj H
          go_wp2
          go_ret
          exact ⟨by first | rfl | (simp [errW_none, errW_some] <;> rfl) | (simp [*, errW_none, errW_some] <;> rfl), by repeat (first | (with_reducible first | exact HB.out | apply below_alloc | apply pw_below_drewN | apply below_drew1 | refine below_set ?_ GE101.out) | exact HB.out)⟩

/-! ### cover_Winding: function 14 -/
def cover_Winding.l0 : Nat → Int → Int → Int → List (S33) → Int → Int → Option (Int)
  | 0, _, _, _, _, _, _ => none
  | k + 1, x1, x2, x7, x14, x15, x16 => if x16 < x15 then (if 0 ≤ x16 then (if x16 < (x14.length : Int) then ((cover_crosses.f k ((rd_T33 x14 x16).f0) ((rd_T33 x14 x16).f1) ((rd_T33 x14 x16).f2) ((rd_T33 x14 x16).f3) x1 x2).bind fun t110 => (cover_Winding.l0 k x1 x2 (wrap64 (x7 + t110)) x14 x15 (wrap64 (x16 + 1)))) else (none)) else (none)) else (some x7)
def cover_Winding.f (k : Nat) (l0 : List (S33)) (a1 : Int) (a2 : Int) : Option (Int) := (cover_brought.f a1 1073741824).bind fun t106 => ((cover_brought.f a2 1073741824).bind fun t107 => (cover_Winding.l0 k t106 t107 0 l0 (l0.length : Int) 0))
theorem cover_Winding.mono_l : ∀ k, (∀ y0 y1 y2 y3 y4 y5, LeO (cover_Winding.l0 k y0 y1 y2 y3 y4 y5) (cover_Winding.l0 (k + 1) y0 y1 y2 y3 y4 y5))
  | 0 => fun _ _ _ _ _ _ r h => by simp [cover_Winding.l0] at h
  | k + 1 => by
    have ih0 := cover_Winding.mono_l k
    · intro y0 y1 y2 y3 y4 y5
      unfold cover_Winding.l0
      repeat' first
      | (with_reducible exact ih0 _ _ _ _ _ _)
      | (with_reducible exact cover_crosses.mono _ _ _ _ _ _ _)
      | (with_reducible exact LeO.refl _)
      | (with_reducible exact LeO.none _)
      | (with_reducible refine LeO.ite ?_ ?_)
      | (with_reducible refine LeO.bind ?_ (fun _ => ?_))
      | exact ih0 _ _ _ _ _ _
      | exact cover_crosses.mono _ _ _ _ _ _ _
      | exact LeO.none _
      | refine LeO.ite ?_ ?_
      | refine LeO.bind ?_ (fun _ => ?_)
theorem cover_Winding.mono : ∀ a0 a1 a2 k, LeO (cover_Winding.f k a0 a1 a2) (cover_Winding.f (k + 1) a0 a1 a2) := by
  intro a0 a1 a2 k
  have ih0 := cover_Winding.mono_l k
  unfold cover_Winding.f
  repeat' first
      | (with_reducible exact ih0 _ _ _ _ _ _)
      | (with_reducible exact cover_crosses.mono _ _ _ _ _ _ _)
      | (with_reducible exact LeO.refl _)
      | (with_reducible exact LeO.none _)
      | (with_reducible refine LeO.ite ?_ ?_)
      | (with_reducible refine LeO.bind ?_ (fun _ => ?_))
      | exact ih0 _ _ _ _ _ _
      | exact cover_crosses.mono _ _ _ _ _ _ _
      | exact LeO.none _
      | refine LeO.ite ?_ ?_
      | refine LeO.bind ?_ (fun _ => ?_)
set_option maxHeartbeats 8000000 in
set_option maxRecDepth 100000 in
theorem cover_Winding.calls (k : Nat) (A0 : Option Addr) (c0 : Nat) (l0 : List (S33)) (a1 : Int) (a2 : Int) (r : Int) (w : World) (hr0 : Kd.C k33 w A0 l0.length l0) (hc0 : l0.length ≤ c0) (h : cover_Winding.f k l0 a1 a2 = some r) :
    Calls Try.prog 14 #[.slice A0 l0.length c0, .int .i64 a1, .int .i64 a2] w fun e w' => e = .returned (.int .i64 r) ∧ Below w.heap.size w w' := by
  have hu33 := Try.underlying33
  have HR0 := Aside0.mk hr0
  have HC0 := Aside0.mk hc0
  clear hr0 hc0
  have HB := Aside0.mk (Below.refl w.heap.size w)
  have H : ((cover_brought.f a1 1073741824).bind fun t106 => ((cover_brought.f a2 1073741824).bind fun t107 => (cover_Winding.l0 k t106 t107 0 l0 (l0.length : Int) 0))) = some r := h
  clear h
  replace H := Option.bind_eq_some_iff.mp H
  obtain ⟨t106, A40, H⟩ := H
  replace H : ((cover_brought.f a2 1073741824).bind fun t107 => (cover_Winding.l0 k t106 t107 0 l0 (l0.length : Int) 0)) = some r := H
  have A4 := Aside0.mk A40
  clear A40
  replace H := Option.bind_eq_some_iff.mp H
  obtain ⟨t107, A50, H⟩ := H
  replace H : (cover_Winding.l0 k t106 t107 0 l0 (l0.length : Int) 0) = some r := H
  have A5 := Aside0.mk A50
  clear A50
  have H' := Aside0.mk H
  clear H
  go_enter Try.func14, Try.ntmps14
  go_wp2_with (first | ((with_reducible refine gate_callee (f := 27) rfl ?_); refine goesL_ (some 11) rfl rfl Try.func27 (by kernel_rfl) rfl #[.int .i64 a1, .int .i64 1073741824] rfl (by (try simp only [List.map_toArray, List.map_cons, List.map_nil]); first | done | rfl | (simp only [List.length_drop, List.length_take]; rfl)) ?_; (with_reducible refine (cover_brought.calls a1 1073741824 t106 _ A4.out).mono ?_); rintro e w6 ⟨rfl, hb⟩; refine ⟨_, rfl, ?_⟩; have n0_ := Aside0.mk (below_step (by repeat (first | (with_reducible first | exact HB.out | apply below_alloc | apply pw_below_drewN | apply below_drew1) | exact HB.out)) hb); clear HB; have HB := n0_; clear n0_; (try clear hb); (try clear hb2); (try clear hk); (try clear hi)) | ((with_reducible refine gate_callee (f := 27) rfl ?_); refine goesL_ (some 13) rfl rfl Try.func27 (by kernel_rfl) rfl #[.int .i64 a2, .int .i64 1073741824] rfl (by (try simp only [List.map_toArray, List.map_cons, List.map_nil]); first | done | rfl | (simp only [List.length_drop, List.length_take]; rfl)) ?_; (with_reducible refine (cover_brought.calls a2 1073741824 t107 _ A5.out).mono ?_); rintro e w7 ⟨rfl, hb⟩; refine ⟨_, rfl, ?_⟩; have n0_ := Aside0.mk (below_step (by repeat (first | (with_reducible first | exact HB.out | apply below_alloc | apply pw_below_drewN | apply below_drew1) | exact HB.out)) hb); clear HB; have HB := n0_; clear n0_; (try clear hb); (try clear hb2); (try clear hk); (try clear hi)))
  go_loopg [7, 16] k (fun kq v7 v16 w' => ∃ (x7_1 : Int) (x16_1 : Int), v7 = .int .i64 x7_1 ∧ v16 = .int .i64 x16_1 ∧ Aside0 (cover_Winding.l0 kq t106 t107 x7_1 l0 (l0.length : Int) x16_1 = some r) ∧ Aside0 (kq ≤ k) ∧ Aside0 (Below w.heap.size w w'))
  case atStart => exact ⟨(0), (0), (by first | rfl | (simp; done) | (simp [*]; done)), (by first | rfl | (simp; done) | (simp [*]; done)), H', ⟨Nat.le_refl _⟩, ⟨by repeat (first | (with_reducible first | exact HB.out | apply below_alloc | apply pw_below_drewN | apply below_drew1) | exact HB.out)⟩⟩
  case round =>
    clear H'
    try clear c1
    try clear c2
    try clear p2
    obtain ⟨x7_1, x16_1, rfl, rfl, HA, HK1, HB⟩ := hrel
    cases gk with
    | zero => exact absurd HA.out (by simp [cover_Winding.l0])
    | succ k1 =>
      have H := HA.out
      clear HA
      simp only [cover_Winding.l0] at H
      by_cases c8 : x16_1 < (l0.length : Int)
      · rw [if_pos c8] at H
        have c8b0 : decide (x16_1 < (l0.length : Int)) = true := decide_eq_true c8
        clear c8
        by_cases c9 : 0 ≤ x16_1
        · rw [if_pos c9] at H
          have c9b0 : decide (0 ≤ x16_1) = true := decide_eq_true c9
          clear c9
          by_cases c10 : x16_1 < (l0.length : Int)
          · rw [if_pos c10] at H
            have c10b0 : decide (x16_1 < (l0.length : Int)) = true := decide_eq_true c10
            clear c10
            replace H := Option.bind_eq_some_iff.mp H
            obtain ⟨t110, A110, H⟩ := H
            replace H : (cover_Winding.l0 k1 t106 t107 (wrap64 (x7_1 + t110)) l0 (l0.length : Int) (wrap64 (x16_1 + 1))) = some r := H
            have A11 := Aside0.mk A110
            clear A110
            have H' := Aside0.mk H
            clear H
            have p108 : 0 ≤ (x16_1 : Int) := of_decide_eq_true (by first | (with_reducible assumption) | assumption)
            have q108 : x16_1 < (l0.length : Int) := of_decide_eq_true (by first | (with_reducible assumption) | assumption)
            obtain ⟨ad108, e108, hx108_0, hx108_1, hx108_2, hx108_3⟩ := at_T33 HR0.out x16_1 p108 q108
            cases e108
            replace hx108_0 := (HB.out.cell (World.block_lt_of_cell? w _ hx108_0)).trans hx108_0
            replace hx108_1 := (HB.out.cell (World.block_lt_of_cell? w _ hx108_1)).trans hx108_1
            replace hx108_2 := (HB.out.cell (World.block_lt_of_cell? w _ hx108_2)).trans hx108_2
            replace hx108_3 := (HB.out.cell (World.block_lt_of_cell? w _ hx108_3)).trans hx108_3
            replace p108 := eq_true p108
            replace q108 := eq_true q108
            go_wp2_with (first | ((with_reducible refine gate_dst (N := 9) rfl ?_); refine box_event ?hg (N := 9) ?hd (cs := #[.int .i64 0, .int .i64 0, .int .i64 0, .int .i64 0]) (t := 33) ?hr ?_; (case hd => rfl); (case hg => rfl); (case hr => first | (go_simp; done) | (go_simp; rfl)); intro gb109 hg w12 hbox hb; have n0_ := Aside0.mk (below_step (by repeat (first | (with_reducible first | exact HB.out | apply below_alloc | apply pw_below_drewN | apply below_drew1) | exact HB.out)) hb); have n1_ := Aside0.mk (hbox); have n2_ := Aside0.mk ((by rw [hg]; exact (below_size (by repeat (first | (with_reducible first | exact HB.out | apply below_alloc | apply pw_below_drewN | apply below_drew1) | exact HB.out))) : w.heap.size ≤ gb109)); have n3_ := Aside0.mk ((by rw [hg]; exact (below_size (by repeat (first | (with_reducible first | exact HB.out | apply below_alloc | apply pw_below_drewN | apply below_drew1) | exact HB.out))) : w.heap.size ≤ gb109)); clear HB; have HB := n0_; have BK109 := n1_; have GW109 := n2_; have GE109 := n3_; clear n0_ n1_ n2_ n3_; clear hb hbox hg; have hcz13_0 : w12.cell? ⟨gb109, 0, none⟩ = some (.int .i64 0) := (blk_cell BK109.out 0).trans rfl; have hcz13_1 : w12.cell? ⟨gb109, 1, none⟩ = some (.int .i64 0) := (blk_cell BK109.out 1).trans rfl; have hcz13_2 : w12.cell? ⟨gb109, 2, none⟩ = some (.int .i64 0) := (blk_cell BK109.out 2).trans rfl; have hcz13_3 : w12.cell? ⟨gb109, 3, none⟩ = some (.int .i64 0) := (blk_cell BK109.out 3).trans rfl; have hfz13_0 := blk_frozen BK109.out 0; have hfz13_1 := blk_frozen BK109.out 1; have hfz13_2 := blk_frozen BK109.out 2; have hfz13_3 := blk_frozen BK109.out 3) | ((with_reducible refine gate_callee (f := 29) rfl ?_); refine goesL_ (some 24) rfl rfl Try.func29 (by kernel_rfl) rfl #[.agg #[.int .i64 ((rd_T33 l0 x16_1).f0), .int .i64 ((rd_T33 l0 x16_1).f1), .int .i64 ((rd_T33 l0 x16_1).f2), .int .i64 ((rd_T33 l0 x16_1).f3)], .int .i64 t106, .int .i64 t107] rfl (by (try simp only [List.map_toArray, List.map_cons, List.map_nil]); first | done | rfl | (simp only [List.length_drop, List.length_take]; rfl)) ?_; (with_reducible refine (cover_crosses.calls k1 ((rd_T33 l0 x16_1).f0) ((rd_T33 l0 x16_1).f1) ((rd_T33 l0 x16_1).f2) ((rd_T33 l0 x16_1).f3) t106 t107 t110 _ A11.out).mono ?_); rintro e w14 ⟨rfl, hb⟩; refine ⟨_, rfl, ?_⟩; have n0_ := Aside0.mk (blk_below (g := gb109) (o := .cells #[.int .i64 ((rd_T33 l0 x16_1).f0), .int .i64 ((rd_T33 l0 x16_1).f1), .int .i64 ((rd_T33 l0 x16_1).f2), .int .i64 ((rd_T33 l0 x16_1).f3)] 33 (0, 0)) (by (with_reducible repeat (first | refine blk_drewN ?_ _ | refine blk_drew ?_ | refine blk_alloc ?_ _)); refine blk_put (cs := #[.int .i64 ((rd_T33 l0 x16_1).f0), .int .i64 ((rd_T33 l0 x16_1).f1), .int .i64 ((rd_T33 l0 x16_1).f2), .int .i64 0]) ?_ 3 _ rfl; (with_reducible repeat (first | refine blk_drewN ?_ _ | refine blk_drew ?_ | refine blk_alloc ?_ _)); refine blk_put (cs := #[.int .i64 ((rd_T33 l0 x16_1).f0), .int .i64 ((rd_T33 l0 x16_1).f1), .int .i64 0, .int .i64 0]) ?_ 2 _ rfl; (with_reducible repeat (first | refine blk_drewN ?_ _ | refine blk_drew ?_ | refine blk_alloc ?_ _)); refine blk_put (cs := #[.int .i64 ((rd_T33 l0 x16_1).f0), .int .i64 0, .int .i64 0, .int .i64 0]) ?_ 1 _ rfl; (with_reducible repeat (first | refine blk_drewN ?_ _ | refine blk_drew ?_ | refine blk_alloc ?_ _)); refine blk_put (cs := #[.int .i64 0, .int .i64 0, .int .i64 0, .int .i64 0]) ?_ 0 _ rfl; (with_reducible repeat (first | refine blk_drewN ?_ _ | refine blk_drew ?_ | refine blk_alloc ?_ _)); exact BK109.out) hb); have n1_ := Aside0.mk (below_step (by repeat (first | (with_reducible first | exact HB.out | apply below_alloc | apply pw_below_drewN | apply below_drew1 | refine below_set ?_ GE109.out) | exact HB.out)) hb); clear BK109; clear HB; have BK109 := n0_; have HB := n1_; clear n0_ n1_; (try clear hb); (try clear hb2); (try clear hk); (try clear hi)))
            go_roundg k1
            case measure => have := HK1.out; omega
            case rel => exact ⟨(wrap64 (x7_1 + t110)), (wrap64 (x16_1 + 1)), (by first | rfl | (simp; done) | (simp [*]; done)), (by first | rfl | (simp; done) | (simp [*]; done)), H', ⟨by have := HK1.out; omega⟩, ⟨by repeat (first | (with_reducible first | exact HB.out | apply below_alloc | apply pw_below_drewN | apply below_drew1 | refine below_set ?_ GE109.out) | exact HB.out)⟩⟩
          · rw [if_neg c10] at H
            exact absurd H (by simp)
        · rw [if_neg c9] at H
          exact absurd H (by simp)
      · rw [if_neg c8] at H
        have c8b0 : decide (x16_1 < (l0.length : Int)) = false := decide_eq_false c8
        clear c8
        obtain rfl := Option.some.inj H
        go_wp2
        go_ret
        exact ⟨by first | rfl | (simp [errW_none, errW_some] <;> rfl) | (simp [*, errW_none, errW_some] <;> rfl), by repeat (first | (with_reducible first | exact HB.out | apply below_alloc | apply pw_below_drewN | apply below_drew1) | exact HB.out)⟩

/-! ### cover_covered: function 28 -/
mutual
def cover_covered.l0 : Nat → List (S33) → Int → Int → Int → Int → Option (Int)
  | 0, _, _, _, _, _ => none
  | k + 1, x0, x1, x2, x7, x10 => if x10 < 4 then (cover_covered.l1 k x0 x1 x2 x7 x10 x10 0) else (some ((wrap64 (Int.tdiv (wrap64 ((wrap64 (x7 * 255)) + 8)) 16)) % 256))
def cover_covered.l1 : Nat → List (S33) → Int → Int → Int → Int → Int → Int → Option (Int)
  | 0, _, _, _, _, _, _, _ => none
  | k + 1, x0, x1, x2, x7, x8, x10, x13 => if x13 < 4 then ((cover_Winding.f k x0 (wrap64 ((wrap64 (x1 * 65536)) + (wrap64 ((wrap64 ((wrap64 (2 * x13)) + 1)) * 8192)))) (wrap64 ((wrap64 (x2 * 65536)) + (wrap64 ((wrap64 ((wrap64 (2 * x8)) + 1)) * 8192))))).bind fun t111 => (if t111 = 0 then (cover_covered.l1 k x0 x1 x2 x7 x8 x10 (wrap64 (x13 + 1))) else (cover_covered.l1 k x0 x1 x2 (wrap64 (x7 + 1)) x8 x10 (wrap64 (x13 + 1))))) else (cover_covered.l0 k x0 x1 x2 x7 (wrap64 (x10 + 1)))
end
def cover_covered.f (k : Nat) (l0 : List (S33)) (a1 : Int) (a2 : Int) : Option (Int) := cover_covered.l0 k l0 a1 a2 0 0
theorem cover_covered.mono_l : ∀ k, (∀ y0 y1 y2 y3 y4, LeO (cover_covered.l0 k y0 y1 y2 y3 y4) (cover_covered.l0 (k + 1) y0 y1 y2 y3 y4)) ∧ (∀ y0 y1 y2 y3 y4 y5 y6, LeO (cover_covered.l1 k y0 y1 y2 y3 y4 y5 y6) (cover_covered.l1 (k + 1) y0 y1 y2 y3 y4 y5 y6))
  | 0 => ⟨fun _ _ _ _ _ r h => by simp [cover_covered.l0] at h, fun _ _ _ _ _ _ _ r h => by simp [cover_covered.l1] at h⟩
  | k + 1 => by
    obtain ⟨ih0, ih1⟩ := cover_covered.mono_l k
    refine ⟨?_, ?_⟩
    · intro y0 y1 y2 y3 y4
      unfold cover_covered.l0
      repeat' first
      | (with_reducible exact ih0 _ _ _ _ _)
      | (with_reducible exact ih1 _ _ _ _ _ _ _)
      | (with_reducible exact cover_Winding.mono _ _ _ _)
      | (with_reducible exact LeO.refl _)
      | (with_reducible exact LeO.none _)
      | (with_reducible refine LeO.ite ?_ ?_)
      | (with_reducible refine LeO.bind ?_ (fun _ => ?_))
      | exact ih0 _ _ _ _ _
      | exact ih1 _ _ _ _ _ _ _
      | exact cover_Winding.mono _ _ _ _
      | exact LeO.none _
      | refine LeO.ite ?_ ?_
      | refine LeO.bind ?_ (fun _ => ?_)
    · intro y0 y1 y2 y3 y4 y5 y6
      unfold cover_covered.l1
      repeat' first
      | (with_reducible exact ih0 _ _ _ _ _)
      | (with_reducible exact ih1 _ _ _ _ _ _ _)
      | (with_reducible exact cover_Winding.mono _ _ _ _)
      | (with_reducible exact LeO.refl _)
      | (with_reducible exact LeO.none _)
      | (with_reducible refine LeO.ite ?_ ?_)
      | (with_reducible refine LeO.bind ?_ (fun _ => ?_))
      | exact ih0 _ _ _ _ _
      | exact ih1 _ _ _ _ _ _ _
      | exact cover_Winding.mono _ _ _ _
      | exact LeO.none _
      | refine LeO.ite ?_ ?_
      | refine LeO.bind ?_ (fun _ => ?_)
theorem cover_covered.mono : ∀ a0 a1 a2 k, LeO (cover_covered.f k a0 a1 a2) (cover_covered.f (k + 1) a0 a1 a2) := by
  intro a0 a1 a2 k
  obtain ⟨ih0, ih1⟩ := cover_covered.mono_l k
  unfold cover_covered.f
  repeat' first
      | (with_reducible exact ih0 _ _ _ _ _)
      | (with_reducible exact ih1 _ _ _ _ _ _ _)
      | (with_reducible exact cover_Winding.mono _ _ _ _)
      | (with_reducible exact LeO.refl _)
      | (with_reducible exact LeO.none _)
      | (with_reducible refine LeO.ite ?_ ?_)
      | (with_reducible refine LeO.bind ?_ (fun _ => ?_))
      | exact ih0 _ _ _ _ _
      | exact ih1 _ _ _ _ _ _ _
      | exact cover_Winding.mono _ _ _ _
      | exact LeO.none _
      | refine LeO.ite ?_ ?_
      | refine LeO.bind ?_ (fun _ => ?_)
set_option maxHeartbeats 8000000 in
set_option maxRecDepth 100000 in
theorem cover_covered.calls (k : Nat) (A0 : Option Addr) (c0 : Nat) (l0 : List (S33)) (a1 : Int) (a2 : Int) (r : Int) (w : World) (hr0 : Kd.C k33 w A0 l0.length l0) (hc0 : l0.length ≤ c0) (h : cover_covered.f k l0 a1 a2 = some r) :
    Calls Try.prog 28 #[.slice A0 l0.length c0, .int .i64 a1, .int .i64 a2] w fun e w' => e = .returned (.int .u8 r) ∧ Below w.heap.size w w' := by
  have HR0 := Aside0.mk hr0
  have HC0 := Aside0.mk hc0
  clear hr0 hc0
  have HB := Aside0.mk (Below.refl w.heap.size w)
  have H : (cover_covered.l0 k l0 a1 a2 0 0) = some r := h
  clear h
  have H' := Aside0.mk H
  clear H
  go_enter Try.func28, Try.ntmps28
  go_wp2
  go_loopg [7, 10] k (fun kq v7 v10 w' => ∃ (x7_1 : Int) (x10_1 : Int), v7 = .int .i64 x7_1 ∧ v10 = .int .i64 x10_1 ∧ Aside0 (cover_covered.l0 kq l0 a1 a2 x7_1 x10_1 = some r) ∧ Aside0 (kq ≤ k) ∧ Aside0 (Below w.heap.size w w'))
  case atStart => exact ⟨(0), (0), (by first | rfl | (simp; done) | (simp [*]; done)), (by first | rfl | (simp; done) | (simp [*]; done)), H', ⟨Nat.le_refl _⟩, ⟨by repeat (first | (with_reducible first | exact HB.out | apply below_alloc | apply pw_below_drewN | apply below_drew1) | exact HB.out)⟩⟩
  case round =>
    clear H'
    try clear c2
    try clear p2
    obtain ⟨x7_1, x10_1, rfl, rfl, HA, HK1, HB⟩ := hrel
    cases gk with
    | zero => exact absurd HA.out (by simp [cover_covered.l0])
    | succ k1 =>
      have H := HA.out
      clear HA
      simp only [cover_covered.l0] at H
      by_cases c4 : x10_1 < 4
      · rw [if_pos c4] at H
        have c4b0 : decide (x10_1 < 4) = true := decide_eq_true c4
        clear c4
        have H' := Aside0.mk H
        clear H
        go_wp2
        go_loopg [7, 13] k1 (fun kq v7 v13 w' => ∃ (x7_2 : Int) (x13_2 : Int), v7 = .int .i64 x7_2 ∧ v13 = .int .i64 x13_2 ∧ Aside0 (cover_covered.l1 kq l0 a1 a2 x7_2 x10_1 x10_1 x13_2 = some r) ∧ Aside0 (kq ≤ k1) ∧ Aside0 (Below w.heap.size w w'))
        case atStart => exact ⟨(x7_1), (0), (by first | rfl | (simp; done) | (simp [*]; done)), (by first | rfl | (simp; done) | (simp [*]; done)), H', ⟨Nat.le_refl _⟩, ⟨by repeat (first | (with_reducible first | exact HB.out | apply below_alloc | apply pw_below_drewN | apply below_drew1) | exact HB.out)⟩⟩
        case round =>
          clear H'
          try clear c2
          try clear p2
          try clear c4
          try clear c4b0
          try clear p2
          obtain ⟨x7_2, x13_2, rfl, rfl, HA, HK2, HB⟩ := hrel
          cases gk with
          | zero => exact absurd HA.out (by simp [cover_covered.l1])
          | succ k2 =>
            have H := HA.out
            clear HA
            simp only [cover_covered.l1] at H
            by_cases c5 : x13_2 < 4
            · rw [if_pos c5] at H
              have c5b0 : decide (x13_2 < 4) = true := decide_eq_true c5
              clear c5
              replace H := Option.bind_eq_some_iff.mp H
              obtain ⟨t111, A60, H⟩ := H
              replace H : (if t111 = 0 then (cover_covered.l1 k2 l0 a1 a2 x7_2 x10_1 x10_1 (wrap64 (x13_2 + 1))) else (cover_covered.l1 k2 l0 a1 a2 (wrap64 (x7_2 + 1)) x10_1 x10_1 (wrap64 (x13_2 + 1)))) = some r := H
              have A6 := Aside0.mk A60
              clear A60
              by_cases c7 : t111 = 0
              · rw [if_pos c7] at H
                have c7b0 : (t111 == 0) = true := beq_iff_eq.mpr c7
                have c7b1 : (t111 != 0) = false := bne_eq_false_iff_eq.mpr c7
                clear c7
                have H' := Aside0.mk H
                clear H
                go_wp2_with (first | ((with_reducible refine gate_callee (f := 14) rfl ?_); refine goesL_ (some 31) rfl rfl Try.func14 (by kernel_rfl) rfl #[.slice A0 l0.length c0, .int .i64 (wrap64 ((wrap64 (a1 * 65536)) + (wrap64 ((wrap64 ((wrap64 (2 * x13_2)) + 1)) * 8192)))), .int .i64 (wrap64 ((wrap64 (a2 * 65536)) + (wrap64 ((wrap64 ((wrap64 (2 * x10_1)) + 1)) * 8192))))] rfl (by (try simp only [List.map_toArray, List.map_cons, List.map_nil]); first | done | rfl | (simp only [List.length_drop, List.length_take]; rfl)) ?_; (with_reducible refine (cover_Winding.calls k2 _ _ l0 (wrap64 ((wrap64 (a1 * 65536)) + (wrap64 ((wrap64 ((wrap64 (2 * x13_2)) + 1)) * 8192)))) (wrap64 ((wrap64 (a2 * 65536)) + (wrap64 ((wrap64 ((wrap64 (2 * x10_1)) + 1)) * 8192)))) t111 _ ?side1 ?side2 A6.out).mono ?_); (case side1 => repeat (first | exact (Kd.C_below HR0.out HB.out) | (with_reducible refine Kd.C_alloc ?_ _) | (with_reducible refine Kd.C_drewN ?_ _) | (with_reducible refine Kd.C_drew ?_))); (case side2 => exact HC0.out); rintro e w8 ⟨rfl, hb⟩; refine ⟨_, rfl, ?_⟩; have n0_ := Aside0.mk (below_step (by repeat (first | (with_reducible first | exact HB.out | apply below_alloc | apply pw_below_drewN | apply below_drew1) | exact HB.out)) hb); clear HB; have HB := n0_; clear n0_; (try clear hb); (try clear hb2); (try clear hk); (try clear hi)))
                go_roundg k2
                case measure => have := HK1.out; have := HK2.out; omega
                case rel => exact ⟨(x7_2), (wrap64 (x13_2 + 1)), (by first | rfl | (simp; done) | (simp [*]; done)), (by first | rfl | (simp; done) | (simp [*]; done)), H', ⟨by have := HK1.out; have := HK2.out; omega⟩, ⟨by repeat (first | (with_reducible first | exact HB.out | apply below_alloc | apply pw_below_drewN | apply below_drew1) | exact HB.out)⟩⟩
              · rw [if_neg c7] at H
                have c7b0 : (t111 == 0) = false := beq_eq_false_iff_ne.mpr c7
                have c7b1 : (t111 != 0) = true := bne_iff_ne.mpr c7
                have H' := Aside0.mk H
                clear H
                go_wp2_with (first | ((with_reducible refine gate_callee (f := 14) rfl ?_); refine goesL_ (some 31) rfl rfl Try.func14 (by kernel_rfl) rfl #[.slice A0 l0.length c0, .int .i64 (wrap64 ((wrap64 (a1 * 65536)) + (wrap64 ((wrap64 ((wrap64 (2 * x13_2)) + 1)) * 8192)))), .int .i64 (wrap64 ((wrap64 (a2 * 65536)) + (wrap64 ((wrap64 ((wrap64 (2 * x10_1)) + 1)) * 8192))))] rfl (by (try simp only [List.map_toArray, List.map_cons, List.map_nil]); first | done | rfl | (simp only [List.length_drop, List.length_take]; rfl)) ?_; (with_reducible refine (cover_Winding.calls k2 _ _ l0 (wrap64 ((wrap64 (a1 * 65536)) + (wrap64 ((wrap64 ((wrap64 (2 * x13_2)) + 1)) * 8192)))) (wrap64 ((wrap64 (a2 * 65536)) + (wrap64 ((wrap64 ((wrap64 (2 * x10_1)) + 1)) * 8192)))) t111 _ ?side1 ?side2 A6.out).mono ?_); (case side1 => repeat (first | exact (Kd.C_below HR0.out HB.out) | (with_reducible refine Kd.C_alloc ?_ _) | (with_reducible refine Kd.C_drewN ?_ _) | (with_reducible refine Kd.C_drew ?_))); (case side2 => exact HC0.out); rintro e w9 ⟨rfl, hb⟩; refine ⟨_, rfl, ?_⟩; have n0_ := Aside0.mk (below_step (by repeat (first | (with_reducible first | exact HB.out | apply below_alloc | apply pw_below_drewN | apply below_drew1) | exact HB.out)) hb); clear HB; have HB := n0_; clear n0_; (try clear hb); (try clear hb2); (try clear hk); (try clear hi)))
                go_roundg k2
                case measure => have := HK1.out; have := HK2.out; omega
                case rel => exact ⟨(wrap64 (x7_2 + 1)), (wrap64 (x13_2 + 1)), (by first | rfl | (simp; done) | (simp [*]; done)), (by first | rfl | (simp; done) | (simp [*]; done)), H', ⟨by have := HK1.out; have := HK2.out; omega⟩, ⟨by repeat (first | (with_reducible first | exact HB.out | apply below_alloc | apply pw_below_drewN | apply below_drew1) | exact HB.out)⟩⟩
            · rw [if_neg c5] at H
              have c5b0 : decide (x13_2 < 4) = false := decide_eq_false c5
              clear c5
              have H' := Aside0.mk H
              clear H
              go_wp2
              go_roundg k2
              case measure => have := HK1.out; have := HK2.out; omega
              case rel => exact ⟨(x7_2), (wrap64 (x10_1 + 1)), (by first | rfl | (simp; done) | (simp [*]; done)), (by first | rfl | (simp; done) | (simp [*]; done)), H', ⟨by have := HK1.out; have := HK2.out; omega⟩, ⟨by repeat (first | (with_reducible first | exact HB.out | apply below_alloc | apply pw_below_drewN | apply below_drew1) | exact HB.out)⟩⟩
      · rw [if_neg c4] at H
        have c4b0 : decide (x10_1 < 4) = false := decide_eq_false c4
        clear c4
        obtain rfl := Option.some.inj H
        go_wp2
        go_ret
        exact ⟨by first | rfl | (simp [errW_none, errW_some] <;> rfl) | (simp [*, errW_none, errW_some] <;> rfl), by repeat (first | (with_reducible first | exact HB.out | apply below_alloc | apply pw_below_drewN | apply below_drew1) | exact HB.out)⟩

/-! ### cover_Mask: function 12 -/
mutual
def cover_Mask.l0 : Nat → List (S33) → Int → Int → Int → List Int → Int → Int → Option (List Int)
  | 0, _, _, _, _, _, _, _ => none
  | k + 1, x0, x1, x2, x3, x11, x24, x25 => if x25 < x24 then (cover_Mask.l1 k x0 x1 x2 x3 x11 x25 x24 x25 x3 0) else (some x11)
def cover_Mask.l1 : Nat → List (S33) → Int → Int → Int → List Int → Int → Int → Int → Int → Int → Option (List Int)
  | 0, _, _, _, _, _, _, _, _, _, _ => none
  | k + 1, x0, x1, x2, x3, x11, x12, x24, x25, x28, x29 => if x29 < x28 then ((cover_covered.f k x0 (wrap64 (x1 + x29)) (wrap64 (x2 + x12))).bind fun t114 => (if x11.length < 140737488355328 then (cover_Mask.l1 k x0 x1 x2 x3 (x11 ++ [t114]) x12 x24 x25 x28 (wrap64 (x29 + 1))) else (none))) else (cover_Mask.l0 k x0 x1 x2 x3 x11 x24 (wrap64 (x25 + 1)))
end
def cover_Mask.f (k : Nat) (l0 : List (S33)) (a1 : Int) (a2 : Int) (a3 : Int) (a4 : Int) : Option (List Int) := (cover_brought.f a1 16000).bind fun t112 => ((cover_brought.f a2 16000).bind fun t113 => (cover_Mask.l0 k l0 t112 t113 (mx 0 (mn a3 64)) ([] : List Int) (mx 0 (mn a4 64)) 0))
theorem cover_Mask.mono_l : ∀ k, (∀ y0 y1 y2 y3 y4 y5 y6, LeO (cover_Mask.l0 k y0 y1 y2 y3 y4 y5 y6) (cover_Mask.l0 (k + 1) y0 y1 y2 y3 y4 y5 y6)) ∧ (∀ y0 y1 y2 y3 y4 y5 y6 y7 y8 y9, LeO (cover_Mask.l1 k y0 y1 y2 y3 y4 y5 y6 y7 y8 y9) (cover_Mask.l1 (k + 1) y0 y1 y2 y3 y4 y5 y6 y7 y8 y9))
  | 0 => ⟨fun _ _ _ _ _ _ _ r h => by simp [cover_Mask.l0] at h, fun _ _ _ _ _ _ _ _ _ _ r h => by simp [cover_Mask.l1] at h⟩
  | k + 1 => by
    obtain ⟨ih0, ih1⟩ := cover_Mask.mono_l k
    refine ⟨?_, ?_⟩
    · intro y0 y1 y2 y3 y4 y5 y6
      unfold cover_Mask.l0
      repeat' first
      | (with_reducible exact ih0 _ _ _ _ _ _ _)
      | (with_reducible exact ih1 _ _ _ _ _ _ _ _ _ _)
      | (with_reducible exact cover_covered.mono _ _ _ _)
      | (with_reducible exact LeO.refl _)
      | (with_reducible exact LeO.none _)
      | (with_reducible refine LeO.ite ?_ ?_)
      | (with_reducible refine LeO.bind ?_ (fun _ => ?_))
      | exact ih0 _ _ _ _ _ _ _
      | exact ih1 _ _ _ _ _ _ _ _ _ _
      | exact cover_covered.mono _ _ _ _
      | exact LeO.none _
      | refine LeO.ite ?_ ?_
      | refine LeO.bind ?_ (fun _ => ?_)
    · intro y0 y1 y2 y3 y4 y5 y6 y7 y8 y9
      unfold cover_Mask.l1
      repeat' first
      | (with_reducible exact ih0 _ _ _ _ _ _ _)
      | (with_reducible exact ih1 _ _ _ _ _ _ _ _ _ _)
      | (with_reducible exact cover_covered.mono _ _ _ _)
      | (with_reducible exact LeO.refl _)
      | (with_reducible exact LeO.none _)
      | (with_reducible refine LeO.ite ?_ ?_)
      | (with_reducible refine LeO.bind ?_ (fun _ => ?_))
      | exact ih0 _ _ _ _ _ _ _
      | exact ih1 _ _ _ _ _ _ _ _ _ _
      | exact cover_covered.mono _ _ _ _
      | exact LeO.none _
      | refine LeO.ite ?_ ?_
      | refine LeO.bind ?_ (fun _ => ?_)
theorem cover_Mask.mono : ∀ a0 a1 a2 a3 a4 k, LeO (cover_Mask.f k a0 a1 a2 a3 a4) (cover_Mask.f (k + 1) a0 a1 a2 a3 a4) := by
  intro a0 a1 a2 a3 a4 k
  obtain ⟨ih0, ih1⟩ := cover_Mask.mono_l k
  unfold cover_Mask.f
  repeat' first
      | (with_reducible exact ih0 _ _ _ _ _ _ _)
      | (with_reducible exact ih1 _ _ _ _ _ _ _ _ _ _)
      | (with_reducible exact cover_covered.mono _ _ _ _)
      | (with_reducible exact LeO.refl _)
      | (with_reducible exact LeO.none _)
      | (with_reducible refine LeO.ite ?_ ?_)
      | (with_reducible refine LeO.bind ?_ (fun _ => ?_))
      | exact ih0 _ _ _ _ _ _ _
      | exact ih1 _ _ _ _ _ _ _ _ _ _
      | exact cover_covered.mono _ _ _ _
      | exact LeO.none _
      | refine LeO.ite ?_ ?_
      | refine LeO.bind ?_ (fun _ => ?_)
set_option maxHeartbeats 8000000 in
set_option maxRecDepth 100000 in
theorem cover_Mask.calls (k : Nat) (A0 : Option Addr) (c0 : Nat) (l0 : List (S33)) (a1 : Int) (a2 : Int) (a3 : Int) (a4 : Int) (r : List Int) (w : World) (hr0 : Kd.C k33 w A0 l0.length l0) (hc0 : l0.length ≤ c0) (h : cover_Mask.f k l0 a1 a2 a3 a4 = some r) :
    Calls Try.prog 12 #[.slice A0 l0.length c0, .int .i64 a1, .int .i64 a2, .int .i64 a3, .int .i64 a4] w fun e w' => ∃ v0_ : Value, e = .returned (v0_) ∧ Kd.R (Kd.int .u8) 5 w' w.heap.size (fun _ => True) v0_ r ∧ Below w.heap.size w w' := by
  have HR0 := Aside0.mk hr0
  have HC0 := Aside0.mk hc0
  clear hr0 hc0
  have HB := Aside0.mk (Below.refl w.heap.size w)
  have H : ((cover_brought.f a1 16000).bind fun t112 => ((cover_brought.f a2 16000).bind fun t113 => (cover_Mask.l0 k l0 t112 t113 (mx 0 (mn a3 64)) ([] : List Int) (mx 0 (mn a4 64)) 0))) = some r := h
  clear h
  replace H := Option.bind_eq_some_iff.mp H
  obtain ⟨t112, A60, H⟩ := H
  replace H : ((cover_brought.f a2 16000).bind fun t113 => (cover_Mask.l0 k l0 t112 t113 (mx 0 (mn a3 64)) ([] : List Int) (mx 0 (mn a4 64)) 0)) = some r := H
  have A6 := Aside0.mk A60
  clear A60
  replace H := Option.bind_eq_some_iff.mp H
  obtain ⟨t113, A70, H⟩ := H
  replace H : (cover_Mask.l0 k l0 t112 t113 (mx 0 (mn a3 64)) ([] : List Int) (mx 0 (mn a4 64)) 0) = some r := H
  have A7 := Aside0.mk A70
  clear A70
  obtain ⟨ji8, hji8⟩ : ∃ j_ : Int, (mn a3 64) = j_ := ⟨_, rfl⟩
  replace H : (cover_Mask.l0 k l0 t112 t113 (mx 0 (ji8)) ([] : List Int) (mx 0 (mn a4 64)) 0) = some r := by first | (rw [hji8] at H; exact H) | (simp only [hji8] at H ⊢; exact H)
  (try rw [hji8] at A6)
  (try rw [hji8] at A7)
  (try (have hji8h : ji8 ≤ 64 := by (rw [← hji8]; unfold mn; (repeat' split) <;> omega)))
  (try (have hji8g : ji8 ≤ 64 := by omega))
  have hji8_ : (if 64 < a3 then 64 else a3) = ji8 := hji8
  obtain ⟨ji9, hji9⟩ : ∃ j_ : Int, (mx 0 (ji8)) = j_ := ⟨_, rfl⟩
  replace H : (cover_Mask.l0 k l0 t112 t113 ji9 ([] : List Int) (mx 0 (mn a4 64)) 0) = some r := by first | (rw [hji9] at H; exact H) | (simp only [hji9] at H ⊢; exact H)
  (try rw [hji9] at A6)
  (try rw [hji9] at A7)
  have hji9_ : (if 0 < (ji8) then (ji8) else 0) = ji9 := hji9
  obtain ⟨ji10, hji10⟩ : ∃ j_ : Int, (mn a4 64) = j_ := ⟨_, rfl⟩
  replace H : (cover_Mask.l0 k l0 t112 t113 ji9 ([] : List Int) (mx 0 (ji10)) 0) = some r := by first | (rw [hji10] at H; exact H) | (simp only [hji10] at H ⊢; exact H)
  (try rw [hji10] at A6)
  (try rw [hji10] at A7)
  (try (have hji10h : ji10 ≤ 64 := by (rw [← hji10]; unfold mn; (repeat' split) <;> omega)))
  (try (have hji10g : ji10 ≤ 64 := by omega))
  have hji10_ : (if 64 < a4 then 64 else a4) = ji10 := hji10
  obtain ⟨ji11, hji11⟩ : ∃ j_ : Int, (mx 0 (ji10)) = j_ := ⟨_, rfl⟩
  replace H : (cover_Mask.l0 k l0 t112 t113 ji9 ([] : List Int) ji11 0) = some r := by first | (rw [hji11] at H; exact H) | (simp only [hji11] at H ⊢; exact H)
  (try rw [hji11] at A6)
  (try rw [hji11] at A7)
  have hji11_ : (if 0 < (ji10) then (ji10) else 0) = ji11 := hji11
  have H' := Aside0.mk H
  clear H
  go_enter Try.func12, Try.ntmps12
  go_wp2_with (first | ((with_reducible refine gate_callee (f := 27) rfl ?_); refine goesL_ (some 15) rfl rfl Try.func27 (by kernel_rfl) rfl #[.int .i64 a1, .int .i64 16000] rfl (by (try simp only [List.map_toArray, List.map_cons, List.map_nil]); first | done | rfl | (simp only [List.length_drop, List.length_take]; rfl)) ?_; (with_reducible refine (cover_brought.calls a1 16000 t112 _ A6.out).mono ?_); rintro e w12 ⟨rfl, hb⟩; refine ⟨_, rfl, ?_⟩; have n0_ := Aside0.mk (below_step (by repeat (first | (with_reducible first | exact HB.out | apply below_alloc | apply pw_below_drewN | apply below_drew1) | exact HB.out)) hb); clear HB; have HB := n0_; clear n0_; (try clear hb); (try clear hb2); (try clear hk); (try clear hi)) | ((with_reducible refine gate_callee (f := 27) rfl ?_); refine goesL_ (some 17) rfl rfl Try.func27 (by kernel_rfl) rfl #[.int .i64 a2, .int .i64 16000] rfl (by (try simp only [List.map_toArray, List.map_cons, List.map_nil]); first | done | rfl | (simp only [List.length_drop, List.length_take]; rfl)) ?_; (with_reducible refine (cover_brought.calls a2 16000 t113 _ A7.out).mono ?_); rintro e w13 ⟨rfl, hb⟩; refine ⟨_, rfl, ?_⟩; have n0_ := Aside0.mk (below_step (by repeat (first | (with_reducible first | exact HB.out | apply below_alloc | apply pw_below_drewN | apply below_drew1) | exact HB.out)) hb); clear HB; have HB := n0_; clear n0_; (try clear hb); (try clear hb2); (try clear hk); (try clear hi)))
  go_loopg [11, 25] k (fun kq v11 v25 w' => ∃ (x11_1 : List Int) (x25_1 : Int), v25 = .int .i64 x25_1 ∧ Aside0 (cover_Mask.l0 kq l0 t112 t113 ji9 x11_1 ji11 x25_1 = some r) ∧ Aside0 (kq ≤ k) ∧ Aside0 (Kd.R (Kd.int .u8) 5 w' w.heap.size (fun _ => True) v11 x11_1) ∧ Aside0 (Below w.heap.size w w'))
  case atStart => exact ⟨(([] : List Int)), (0), (by first | rfl | (simp; done) | (simp [*]; done)), H', ⟨Nat.le_refl _⟩, ⟨by first | exact Kd.R_nil _ _ _ _ _ | exact Kd.N_nil _ _ _ _ _ | exact Kd.V_nil _ _ _ _ _ | exact Kd.Q_nil _ _ _ _ _ | exact Kd.S_nil _ _ _ _ _⟩, ⟨by repeat (first | (with_reducible first | exact HB.out | apply below_alloc | apply pw_below_drewN | apply below_drew1) | exact HB.out)⟩⟩
  case round =>
    clear H'
    try clear c1
    try clear c2
    try clear p2
    try clear c12
    obtain ⟨x11_1, x25_1, rfl, HA, HK1, HO_11, HB⟩ := hrel
    cases gk with
    | zero => exact absurd HA.out (by simp [cover_Mask.l0])
    | succ k1 =>
      have H := HA.out
      clear HA
      simp only [cover_Mask.l0] at H
      by_cases c14 : x25_1 < ji11
      · rw [if_pos c14] at H
        have c14b0 : decide (x25_1 < ji11) = true := decide_eq_true c14
        clear c14
        have H' := Aside0.mk H
        clear H
        go_wp2
        go_loopg [11, 29] k1 (fun kq v11 v29 w' => ∃ (x11_2 : List Int) (x29_2 : Int), v29 = .int .i64 x29_2 ∧ Aside0 (cover_Mask.l1 kq l0 t112 t113 ji9 x11_2 x25_1 ji11 x25_1 ji9 x29_2 = some r) ∧ Aside0 (kq ≤ k1) ∧ Aside0 (Kd.R (Kd.int .u8) 5 w' w.heap.size (fun _ => True) v11 x11_2) ∧ Aside0 (Below w.heap.size w w'))
        case atStart => exact ⟨(x11_1), (0), (by first | rfl | (simp; done) | (simp [*]; done)), H', ⟨Nat.le_refl _⟩, ⟨by (with_reducible repeat (first | apply Kd.R_alloc | apply Kd.R_drewN | apply Kd.R_drew)); exact HO_11.out⟩, ⟨by repeat (first | (with_reducible first | exact HB.out | apply below_alloc | apply pw_below_drewN | apply below_drew1) | exact HB.out)⟩⟩
        case round =>
          clear H'
          try clear c1
          try clear c2
          try clear p2
          try clear c12
          try clear c14
          try clear c14b0
          try clear p2
          obtain ⟨x11_2, x29_2, rfl, HA, HK2, HO_11, HB⟩ := hrel
          cases gk with
          | zero => exact absurd HA.out (by simp [cover_Mask.l1])
          | succ k2 =>
            have H := HA.out
            clear HA
            simp only [cover_Mask.l1] at H
            by_cases c15 : x29_2 < ji9
            · rw [if_pos c15] at H
              have c15b0 : decide (x29_2 < ji9) = true := decide_eq_true c15
              clear c15
              replace H := Option.bind_eq_some_iff.mp H
              obtain ⟨t114, A160, H⟩ := H
              replace H : (if x11_2.length < 140737488355328 then (cover_Mask.l1 k2 l0 t112 t113 ji9 (x11_2 ++ [t114]) x25_1 ji11 x25_1 ji9 (wrap64 (x29_2 + 1))) else (none)) = some r := H
              have A16 := Aside0.mk A160
              clear A160
              by_cases c17 : x11_2.length < 140737488355328
              · rw [if_pos c17] at H
                have LMc17 := Aside0.mk c17
                clear c17
                obtain ⟨y115, hy115⟩ : ∃ y_ : List Int, y_ = (x11_2 ++ [t114]) := ⟨_, rfl⟩
                replace H : (cover_Mask.l1 k2 l0 t112 t113 ji9 y115 x25_1 ji11 x25_1 ji9 (wrap64 (x29_2 + 1))) = some r := by first | (rw [hy115]; with_reducible exact H) | (have H2_ := (Option.bind_some _ _).symm.trans H; rw [hy115]; with_reducible exact H2_) | (have H2_ := (Option.bind_some _ _).symm.trans H; with_reducible exact H2_) | with_reducible exact H | (rw [hy115]; exact H) | exact H
                have Ny115 := Aside0.mk hy115
                clear hy115
                have H' := Aside0.mk H
                clear H
                go_wp2_with (first | ((with_reducible refine gate_callee (f := 28) rfl ?_); refine goesL_ (some 40) rfl rfl Try.func28 (by kernel_rfl) rfl #[.slice A0 l0.length c0, .int .i64 (wrap64 (t112 + x29_2)), .int .i64 (wrap64 (t113 + x25_1))] rfl (by (try simp only [List.map_toArray, List.map_cons, List.map_nil]); first | done | rfl | (simp only [List.length_drop, List.length_take]; rfl)) ?_; (with_reducible refine (cover_covered.calls k2 _ _ l0 (wrap64 (t112 + x29_2)) (wrap64 (t113 + x25_1)) t114 _ ?side1 ?side2 A16.out).mono ?_); (case side1 => repeat (first | exact (Kd.C_below HR0.out HB.out) | (with_reducible refine Kd.C_alloc ?_ _) | (with_reducible refine Kd.C_drewN ?_ _) | (with_reducible refine Kd.C_drew ?_))); (case side2 => exact HC0.out); rintro e w18 ⟨rfl, hb⟩; refine ⟨_, rfl, ?_⟩; have n0_ := Aside0.mk (Kd.R_below (by (with_reducible repeat (first | apply Kd.R_alloc | apply Kd.R_drewN | apply Kd.R_drew)); exact HO_11.out) hb); have n1_ := Aside0.mk (below_step (by repeat (first | (with_reducible first | exact HB.out | apply below_alloc | apply pw_below_drewN | apply below_drew1) | exact HB.out)) hb); clear HO_11; clear HB; have HO_11 := n0_; have HB := n1_; clear n0_ n1_; (try clear hb); (try clear hb2); (try clear hk); (try clear hi)) | ((with_reducible refine gate_builtin (b := .append) (xs := #[.tmp 32, .tmp 41]) rfl ?_); at_builtin; refine Kd.R_append (Kd.int .u8) (w0 := w) w.heap.size rfl (.tmp 32) (.tmp 41) 22 5 (.int .u8 0) 1 rfl Try.underlying22 info5 rfl (by decide) (by omega) u11 x11_2 t114 [.int .u8 t114] (fun _ => True) (fun _ => False) rfl rfl ?aP (fun _ hk => hk.elim) ?aF ?aO ?aB ?aS ?aL ?_; (case aP => exact rfl); (case aB => exact (by repeat (first | (with_reducible first | exact HB.out | apply below_alloc | apply pw_below_drewN | apply below_drew1) | exact HB.out))); (case aF => exact (fun _ _ => trivial)); (case aO => exact (by (with_reducible repeat (first | apply Kd.R_alloc | apply Kd.R_drewN | apply Kd.R_drew)); exact HO_11.out)); (case aS => exact (below_size (by repeat (first | (with_reducible first | exact HB.out | apply below_alloc | apply pw_below_drewN | apply below_drew1) | exact HB.out)))); (case aL => have := LMc17.out; omega); intro v116 w19 ho hb hg hat; rw [← Ny115.out] at ho; have n0_ := Aside0.mk (hb); have n1_ := Aside0.mk (ho); clear HB; clear HO_11; have HB := n0_; have HO117 := n1_; clear n0_ n1_; clear ho hb hg hat))
                go_roundg k2
                case measure => have := HK1.out; have := HK2.out; omega
                case rel => exact ⟨(y115), (wrap64 (x29_2 + 1)), (by first | rfl | (simp; done) | (simp [*]; done)), H', ⟨by have := HK1.out; have := HK2.out; omega⟩, ⟨by (with_reducible repeat (first | apply Kd.R_alloc | apply Kd.R_drewN | apply Kd.R_drew)); exact HO117.out⟩, ⟨by repeat (first | (with_reducible first | exact HB.out | apply below_alloc | apply pw_below_drewN | apply below_drew1) | exact HB.out)⟩⟩
              · rw [if_neg c17] at H
                exact absurd H (by simp)
            · rw [if_neg c15] at H
              have c15b0 : decide (x29_2 < ji9) = false := decide_eq_false c15
              clear c15
              have H' := Aside0.mk H
              clear H
              go_wp2
              go_roundg k2
              case measure => have := HK1.out; have := HK2.out; omega
              case rel => exact ⟨(x11_2), (wrap64 (x25_1 + 1)), (by first | rfl | (simp; done) | (simp [*]; done)), H', ⟨by have := HK1.out; have := HK2.out; omega⟩, ⟨by (with_reducible repeat (first | apply Kd.R_alloc | apply Kd.R_drewN | apply Kd.R_drew)); exact HO_11.out⟩, ⟨by repeat (first | (with_reducible first | exact HB.out | apply below_alloc | apply pw_below_drewN | apply below_drew1) | exact HB.out)⟩⟩
      · rw [if_neg c14] at H
        have c14b0 : decide (x25_1 < ji11) = false := decide_eq_false c14
        clear c14
        obtain rfl := Option.some.inj H
        go_wp2
        go_ret
        exact ⟨_, by first | rfl | (simp [errW_none, errW_some] <;> rfl) | (simp only [← hji8, ← hji9, ← hji10, ← hji11]; first | rfl | (simp [errW_none, errW_some] <;> rfl)) | (simp [*, errW_none, errW_some] <;> rfl), by (with_reducible repeat (first | apply Kd.R_alloc | apply Kd.R_drewN | apply Kd.R_drew)); exact HO_11.out, by repeat (first | (with_reducible first | exact HB.out | apply below_alloc | apply pw_below_drewN | apply below_drew1) | exact HB.out)⟩

/-! ### versallaw18_box: function 13 -/
def versallaw18_box.f (a0 : Int) (a1 : Int) (a2 : Int) (a3 : Int) : Option ((List (S33))) := some (([(⟨wrap64 (a0 * 8192), wrap64 (a1 * 8192), wrap64 (a0 * 8192), wrap64 ((wrap64 (a1 + a3)) * 8192)⟩ : S33), (⟨wrap64 (a0 * 8192), wrap64 ((wrap64 (a1 + a3)) * 8192), wrap64 ((wrap64 (a0 + a2)) * 8192), wrap64 ((wrap64 (a1 + a3)) * 8192)⟩ : S33), (⟨wrap64 ((wrap64 (a0 + a2)) * 8192), wrap64 ((wrap64 (a1 + a3)) * 8192), wrap64 ((wrap64 (a0 + a2)) * 8192), wrap64 (a1 * 8192)⟩ : S33), (⟨wrap64 ((wrap64 (a0 + a2)) * 8192), wrap64 (a1 * 8192), wrap64 (a0 * 8192), wrap64 (a1 * 8192)⟩ : S33)] : List (S33)))
set_option maxHeartbeats 8000000 in
set_option maxRecDepth 100000 in
theorem versallaw18_box.calls (a0 : Int) (a1 : Int) (a2 : Int) (a3 : Int) (r : List (S33)) (w : World) (h : versallaw18_box.f a0 a1 a2 a3 = some r) :
    Calls Try.prog 13 #[.int .i64 a0, .int .i64 a1, .int .i64 a2, .int .i64 a3] w fun e w' => ∃ v0_ : Value, e = .returned (v0_) ∧ Kd.R k33 33 w' w.heap.size (fun _ => True) v0_ r ∧ Below w.heap.size w w' := by
  have hu33 := Try.underlying33
  have HB := Aside0.mk (Below.refl w.heap.size w)
  have H : (some (([(⟨wrap64 (a0 * 8192), wrap64 (a1 * 8192), wrap64 (a0 * 8192), wrap64 ((wrap64 (a1 + a3)) * 8192)⟩ : S33), (⟨wrap64 (a0 * 8192), wrap64 ((wrap64 (a1 + a3)) * 8192), wrap64 ((wrap64 (a0 + a2)) * 8192), wrap64 ((wrap64 (a1 + a3)) * 8192)⟩ : S33), (⟨wrap64 ((wrap64 (a0 + a2)) * 8192), wrap64 ((wrap64 (a1 + a3)) * 8192), wrap64 ((wrap64 (a0 + a2)) * 8192), wrap64 (a1 * 8192)⟩ : S33), (⟨wrap64 ((wrap64 (a0 + a2)) * 8192), wrap64 (a1 * 8192), wrap64 (a0 * 8192), wrap64 (a1 * 8192)⟩ : S33)] : List (S33)))) = some r := h
  clear h
  obtain ⟨y118, hy118⟩ : ∃ y_ : List (S33), y_ = (([(⟨wrap64 (a0 * 8192), wrap64 (a1 * 8192), wrap64 (a0 * 8192), wrap64 ((wrap64 (a1 + a3)) * 8192)⟩ : S33), (⟨wrap64 (a0 * 8192), wrap64 ((wrap64 (a1 + a3)) * 8192), wrap64 ((wrap64 (a0 + a2)) * 8192), wrap64 ((wrap64 (a1 + a3)) * 8192)⟩ : S33), (⟨wrap64 ((wrap64 (a0 + a2)) * 8192), wrap64 ((wrap64 (a1 + a3)) * 8192), wrap64 ((wrap64 (a0 + a2)) * 8192), wrap64 (a1 * 8192)⟩ : S33), (⟨wrap64 ((wrap64 (a0 + a2)) * 8192), wrap64 (a1 * 8192), wrap64 (a0 * 8192), wrap64 (a1 * 8192)⟩ : S33)] : List (S33))) := ⟨_, rfl⟩
  replace H : (some y118) = some r := by first | (rw [hy118]; with_reducible exact H) | (have H2_ := (Option.bind_some _ _).symm.trans H; rw [hy118]; with_reducible exact H2_) | (have H2_ := (Option.bind_some _ _).symm.trans H; with_reducible exact H2_) | with_reducible exact H | (rw [hy118]; exact H) | exact H
  have Ny118 := Aside0.mk hy118
  clear hy118
  obtain rfl := Option.some.inj H
  go_enter Try.func13, Try.ntmps13
  go_wp2_with (first | ((with_reducible refine gate_dst (N := 45) rfl ?_); refine Kd.R_lit k33 _ 33 ?hg (N := 45) ?hd (xs := ([(⟨wrap64 (a0 * 8192), wrap64 (a1 * 8192), wrap64 (a0 * 8192), wrap64 ((wrap64 (a1 + a3)) * 8192)⟩ : S33), (⟨wrap64 (a0 * 8192), wrap64 ((wrap64 (a1 + a3)) * 8192), wrap64 ((wrap64 (a0 + a2)) * 8192), wrap64 ((wrap64 (a1 + a3)) * 8192)⟩ : S33), (⟨wrap64 ((wrap64 (a0 + a2)) * 8192), wrap64 ((wrap64 (a1 + a3)) * 8192), wrap64 ((wrap64 (a0 + a2)) * 8192), wrap64 (a1 * 8192)⟩ : S33), (⟨wrap64 ((wrap64 (a0 + a2)) * 8192), wrap64 (a1 * 8192), wrap64 (a0 * 8192), wrap64 (a1 * 8192)⟩ : S33)] : List (S33))) (inner := [.int .i64 (wrap64 (a0 * 8192)), .int .i64 (wrap64 (a1 * 8192)), .int .i64 (wrap64 (a0 * 8192)), .int .i64 (wrap64 ((wrap64 (a1 + a3)) * 8192)), .int .i64 (wrap64 (a0 * 8192)), .int .i64 (wrap64 ((wrap64 (a1 + a3)) * 8192)), .int .i64 (wrap64 ((wrap64 (a0 + a2)) * 8192)), .int .i64 (wrap64 ((wrap64 (a1 + a3)) * 8192)), .int .i64 (wrap64 ((wrap64 (a0 + a2)) * 8192)), .int .i64 (wrap64 ((wrap64 (a1 + a3)) * 8192)), .int .i64 (wrap64 ((wrap64 (a0 + a2)) * 8192)), .int .i64 (wrap64 (a1 * 8192)), .int .i64 (wrap64 ((wrap64 (a0 + a2)) * 8192)), .int .i64 (wrap64 (a1 * 8192)), .int .i64 (wrap64 (a0 * 8192)), .int .i64 (wrap64 (a1 * 8192))]) (ok := fun _ => True) (okp := fun _ => True) ?hr ?hp (fun _ hk => hk) trivial (Below.refl _ _) (Nat.le_refl _) (by simp) ?_; (case hd => rfl); (case hg => rfl); (case hr => first | (go_simp; done) | (go_simp; rfl)); (case hp => exact (Reps.c4 (show Kd.M k33 _ _ _ (⟨wrap64 (a0 * 8192), wrap64 (a1 * 8192), wrap64 (a0 * 8192), wrap64 ((wrap64 (a1 + a3)) * 8192)⟩ : S33) [.int .i64 (wrap64 (a0 * 8192)), .int .i64 (wrap64 (a1 * 8192)), .int .i64 (wrap64 (a0 * 8192)), .int .i64 (wrap64 ((wrap64 (a1 + a3)) * 8192))] from (k33_mkM _ _ _ (⟨wrap64 (a0 * 8192), wrap64 (a1 * 8192), wrap64 (a0 * 8192), wrap64 ((wrap64 (a1 + a3)) * 8192)⟩ : S33) )) (Reps.c4 (show Kd.M k33 _ _ _ (⟨wrap64 (a0 * 8192), wrap64 ((wrap64 (a1 + a3)) * 8192), wrap64 ((wrap64 (a0 + a2)) * 8192), wrap64 ((wrap64 (a1 + a3)) * 8192)⟩ : S33) [.int .i64 (wrap64 (a0 * 8192)), .int .i64 (wrap64 ((wrap64 (a1 + a3)) * 8192)), .int .i64 (wrap64 ((wrap64 (a0 + a2)) * 8192)), .int .i64 (wrap64 ((wrap64 (a1 + a3)) * 8192))] from (k33_mkM _ _ _ (⟨wrap64 (a0 * 8192), wrap64 ((wrap64 (a1 + a3)) * 8192), wrap64 ((wrap64 (a0 + a2)) * 8192), wrap64 ((wrap64 (a1 + a3)) * 8192)⟩ : S33) )) (Reps.c4 (show Kd.M k33 _ _ _ (⟨wrap64 ((wrap64 (a0 + a2)) * 8192), wrap64 ((wrap64 (a1 + a3)) * 8192), wrap64 ((wrap64 (a0 + a2)) * 8192), wrap64 (a1 * 8192)⟩ : S33) [.int .i64 (wrap64 ((wrap64 (a0 + a2)) * 8192)), .int .i64 (wrap64 ((wrap64 (a1 + a3)) * 8192)), .int .i64 (wrap64 ((wrap64 (a0 + a2)) * 8192)), .int .i64 (wrap64 (a1 * 8192))] from (k33_mkM _ _ _ (⟨wrap64 ((wrap64 (a0 + a2)) * 8192), wrap64 ((wrap64 (a1 + a3)) * 8192), wrap64 ((wrap64 (a0 + a2)) * 8192), wrap64 (a1 * 8192)⟩ : S33) )) (Reps.c4 (show Kd.M k33 _ _ _ (⟨wrap64 ((wrap64 (a0 + a2)) * 8192), wrap64 (a1 * 8192), wrap64 (a0 * 8192), wrap64 (a1 * 8192)⟩ : S33) [.int .i64 (wrap64 ((wrap64 (a0 + a2)) * 8192)), .int .i64 (wrap64 (a1 * 8192)), .int .i64 (wrap64 (a0 * 8192)), .int .i64 (wrap64 (a1 * 8192))] from (k33_mkM _ _ _ (⟨wrap64 ((wrap64 (a0 + a2)) * 8192), wrap64 (a1 * 8192), wrap64 (a0 * 8192), wrap64 (a1 * 8192)⟩ : S33) )) (Reps.none _ _)))))); intro v119 w5 ho6 hb hg_ hnew_; clear hg_ hnew_; (first | rw [← Ny118.out] at ho6 | (simp only [Int.reduceToNat] at ho6; rw [← Ny118.out] at ho6)); have n0_ := Aside0.mk (Kd.R_lower ho6 (below_size (by repeat (first | (with_reducible first | exact HB.out | apply below_alloc | apply pw_below_drewN | apply below_drew1) | exact HB.out)))); have n1_ := Aside0.mk (below_step (by repeat (first | (with_reducible first | exact HB.out | apply below_alloc | apply pw_below_drewN | apply below_drew1) | exact HB.out)) hb); clear HB; have HO120 := n0_; have HB := n1_; clear n0_ n1_; clear hb ho6))
  go_ret
  exact ⟨_, by first | rfl | (simp [errW_none, errW_some] <;> rfl) | (simp [*, errW_none, errW_some] <;> rfl), by (with_reducible repeat (first | apply Kd.R_alloc | apply Kd.R_drewN | apply Kd.R_drew)); exact HO120.out, by repeat (first | (with_reducible first | exact HB.out | apply below_alloc | apply pw_below_drewN | apply below_drew1) | exact HB.out)⟩

end Go.Proofs.Ytkagmelijdfdiaa.PCoverTells
