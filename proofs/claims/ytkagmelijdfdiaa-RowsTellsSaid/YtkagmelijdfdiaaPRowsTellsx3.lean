-- PRINTED BY print.sh 35421559b90ae4d0a3588c463048766b98c2df88dd9212a6774a882060cdf62d: not written by this session
import Derived.Test.YtkagmelijdfdiaaPRowsTellsx0
namespace Go.Proofs.Ytkagmelijdfdiaa.PRowsTells
open Go.RowKit Go.Proofs.YtkagmelijdfdiaaW.PrintWords Go.Proofs.YtkagmelijdfdiaaW.PrintLast Go.Proofs.YtkagmelijdfdiaaW.PrintMore
attribute [local go_sem] max2_int min2_int max_two min_two max_three min_three max_four min_four   -- for this text's walks alone
set_option linter.unusedVariables false
set_option linter.unusedSimpArgs false

/-! ### rows_Passes: function 20 -/
def rows_Passes.l0 : Nat → Int → Int → List (S41) → List (S41) → Int → Int → Option ((List (S41)))
  | 0, _, _, _, _, _, _ => none
  | k + 1, x0, x1, x5, x21, x22, x23 => if x23 < x22 then (if 0 ≤ x23 then (if x23 < (x21.length : Int) then (if ((rd_T41 x21 x23).f2) = 0 then (none) else (if ((rd_T41 x21 x23).f3) = 0 then (none) else (if x0 > ((rd_T41 x21 x23).f0) then (if x1 > ((rd_T41 x21 x23).f1) then (if x5.length < 2932031007402 then (rows_Passes.l0 k x0 x1 (x5 ++ [(⟨(rd_T41 x21 x23).f0, (rd_T41 x21 x23).f1, (rd_T41 x21 x23).f2, (rd_T41 x21 x23).f3, wrap64 (Int.tdiv (wrap64 ((wrap64 ((wrap64 (x0 - ((rd_T41 x21 x23).f0))) + ((rd_T41 x21 x23).f2))) - 1)) ((rd_T41 x21 x23).f2)), wrap64 (Int.tdiv (wrap64 ((wrap64 ((wrap64 (x1 - ((rd_T41 x21 x23).f1))) + ((rd_T41 x21 x23).f3))) - 1)) ((rd_T41 x21 x23).f3))⟩ : S41)]) x21 x22 (wrap64 (x23 + 1))) else (none)) else (rows_Passes.l0 k x0 x1 x5 x21 x22 (wrap64 (x23 + 1)))) else (rows_Passes.l0 k x0 x1 x5 x21 x22 (wrap64 (x23 + 1)))))) else (none)) else (none)) else (some x5)
def rows_Passes.f (k : Nat) (a0 : Int) (a1 : Int) : Option ((List (S41))) := (some (([(⟨0, 0, 8, 8, 0, 0⟩ : S41), (⟨4, 0, 8, 8, 0, 0⟩ : S41), (⟨0, 4, 4, 8, 0, 0⟩ : S41), (⟨2, 0, 4, 4, 0, 0⟩ : S41), (⟨0, 2, 2, 4, 0, 0⟩ : S41), (⟨1, 0, 2, 2, 0, 0⟩ : S41), (⟨0, 1, 1, 2, 0, 0⟩ : S41)] : List (S41)) : List (S41))).bind fun y101 => (rows_Passes.l0 k (mx 0 (mn a0 256)) (mx 0 (mn a1 256)) ([] : List (S41)) y101 (y101.length : Int) 0)
theorem rows_Passes.mono_l : ∀ k, (∀ y0 y1 y2 y3 y4 y5, LeO (rows_Passes.l0 k y0 y1 y2 y3 y4 y5) (rows_Passes.l0 (k + 1) y0 y1 y2 y3 y4 y5))
  | 0 => fun _ _ _ _ _ _ r h => by simp [rows_Passes.l0] at h
  | k + 1 => by
    have ih0 := rows_Passes.mono_l k
    · intro y0 y1 y2 y3 y4 y5
      unfold rows_Passes.l0
      repeat' first
      | (with_reducible exact ih0 _ _ _ _ _ _)
      | (with_reducible exact LeO.refl _)
      | (with_reducible exact LeO.none _)
      | (with_reducible refine LeO.ite ?_ ?_)
      | (with_reducible refine LeO.bind ?_ (fun _ => ?_))
      | exact ih0 _ _ _ _ _ _
      | exact LeO.none _
      | refine LeO.ite ?_ ?_
      | refine LeO.bind ?_ (fun _ => ?_)
theorem rows_Passes.mono : ∀ a0 a1 k, LeO (rows_Passes.f k a0 a1) (rows_Passes.f (k + 1) a0 a1) := by
  intro a0 a1 k
  have ih0 := rows_Passes.mono_l k
  unfold rows_Passes.f
  repeat' first
      | (with_reducible exact ih0 _ _ _ _ _ _)
      | (with_reducible exact LeO.refl _)
      | (with_reducible exact LeO.none _)
      | (with_reducible refine LeO.ite ?_ ?_)
      | (with_reducible refine LeO.bind ?_ (fun _ => ?_))
      | exact ih0 _ _ _ _ _ _
      | exact LeO.none _
      | refine LeO.ite ?_ ?_
      | refine LeO.bind ?_ (fun _ => ?_)
def rows_Passes.T6 : Bool × List (List Nat × List Nat) := (true, [([], []), ([], []), ([1], [1]), ([0, 2], [0, 2]), ([], []), ([4], [4]), ([3, 5], [3, 5]), ([6], [6]), ([], []), ([8], [8]), ([7, 9], [7, 9]), ([], []), ([], []), ([12], [12]), ([11, 13], [11, 13]), ([], []), ([15], [15]), ([14, 16], [14, 16]), ([17], [17]), ([], []), ([19], [19]), ([18, 20], [18, 20]), ([0, 1, 2, 3, 4, 5, 6, 7, 8, 9, 10, 12, 13, 15, 16, 19, 20], []), ([22, 10, 0, 1, 2, 3, 4, 5, 6, 7, 8, 9, 10, 12, 13, 15, 16, 19, 20], [10, 22]), ([0, 1, 2, 3, 4, 5, 6, 7, 8, 9, 10, 11, 12, 13, 14, 15, 16, 17, 18, 19, 20, 21, 22, 23], []), ([24, 21, 23, 0, 1, 2, 3, 4, 5, 6, 7, 8, 9, 10, 11, 12, 13, 14, 15, 16, 17, 18, 19, 20, 21, 22, 23], [21, 24])])
def rows_Passes.B6 : List Nat := [0, 0, 2, 7, 0, 16, 63, 127, 0, 256, 1023, 0, 0, 4096, 14336, 0, 32768, 129024, 260096, 0, 524288, 2095104, 1685503, 5879807, 16777215, 33554431]
theorem rows_Passes.tab6 : rtab .any (opsOf Try.f20 6) = rows_Passes.T6 := by kernel_rfl
theorem rows_Passes.bits6 : waitsOk rows_Passes.T6.2 rows_Passes.B6 = true := by kernel_rfl
set_option maxHeartbeats 8000000 in
set_option maxRecDepth 100000 in
theorem rows_Passes.calls (k : Nat) (a0 : Int) (a1 : Int) (r : List (S41)) (w : World) (h : rows_Passes.f k a0 a1 = some r) :
    Calls Try.prog 20 #[.int .i64 a0, .int .i64 a1] w fun e w' => ∃ v0_ : Value, e = .returned (v0_) ∧ Kd.R k41 41 w' w.heap.size (fun _ => True) v0_ r ∧ Below w.heap.size w w' := by
  have hu41 := Try.underlying41
  have HB := Aside0.mk (Below.refl w.heap.size w)
  have H : ((some (([(⟨0, 0, 8, 8, 0, 0⟩ : S41), (⟨4, 0, 8, 8, 0, 0⟩ : S41), (⟨0, 4, 4, 8, 0, 0⟩ : S41), (⟨2, 0, 4, 4, 0, 0⟩ : S41), (⟨0, 2, 2, 4, 0, 0⟩ : S41), (⟨1, 0, 2, 2, 0, 0⟩ : S41), (⟨0, 1, 1, 2, 0, 0⟩ : S41)] : List (S41)) : List (S41))).bind fun y101 => (rows_Passes.l0 k (mx 0 (mn a0 256)) (mx 0 (mn a1 256)) ([] : List (S41)) y101 (y101.length : Int) 0)) = some r := h
  clear h
  obtain ⟨ji3, hji3⟩ : ∃ j_ : Int, (mn a0 256) = j_ := ⟨_, rfl⟩
  replace H : ((some (([(⟨0, 0, 8, 8, 0, 0⟩ : S41), (⟨4, 0, 8, 8, 0, 0⟩ : S41), (⟨0, 4, 4, 8, 0, 0⟩ : S41), (⟨2, 0, 4, 4, 0, 0⟩ : S41), (⟨0, 2, 2, 4, 0, 0⟩ : S41), (⟨1, 0, 2, 2, 0, 0⟩ : S41), (⟨0, 1, 1, 2, 0, 0⟩ : S41)] : List (S41)) : List (S41))).bind fun y101 => (rows_Passes.l0 k (mx 0 (ji3)) (mx 0 (mn a1 256)) ([] : List (S41)) y101 (y101.length : Int) 0)) = some r := by first | (rw [hji3] at H; exact H) | (simp only [hji3] at H ⊢; exact H)
  (try (have hji3h : ji3 ≤ 256 := by (rw [← hji3]; unfold mn; (repeat' split) <;> omega)))
  (try (have hji3g : ji3 ≤ 64 := by omega))
  have hji3_ : (if 256 < a0 then 256 else a0) = ji3 := hji3
  obtain ⟨ji4, hji4⟩ : ∃ j_ : Int, (mx 0 (ji3)) = j_ := ⟨_, rfl⟩
  replace H : ((some (([(⟨0, 0, 8, 8, 0, 0⟩ : S41), (⟨4, 0, 8, 8, 0, 0⟩ : S41), (⟨0, 4, 4, 8, 0, 0⟩ : S41), (⟨2, 0, 4, 4, 0, 0⟩ : S41), (⟨0, 2, 2, 4, 0, 0⟩ : S41), (⟨1, 0, 2, 2, 0, 0⟩ : S41), (⟨0, 1, 1, 2, 0, 0⟩ : S41)] : List (S41)) : List (S41))).bind fun y101 => (rows_Passes.l0 k ji4 (mx 0 (mn a1 256)) ([] : List (S41)) y101 (y101.length : Int) 0)) = some r := by first | (rw [hji4] at H; exact H) | (simp only [hji4] at H ⊢; exact H)
  have hji4_ : (if 0 < (ji3) then (ji3) else 0) = ji4 := hji4
  obtain ⟨ji5, hji5⟩ : ∃ j_ : Int, (mn a1 256) = j_ := ⟨_, rfl⟩
  replace H : ((some (([(⟨0, 0, 8, 8, 0, 0⟩ : S41), (⟨4, 0, 8, 8, 0, 0⟩ : S41), (⟨0, 4, 4, 8, 0, 0⟩ : S41), (⟨2, 0, 4, 4, 0, 0⟩ : S41), (⟨0, 2, 2, 4, 0, 0⟩ : S41), (⟨1, 0, 2, 2, 0, 0⟩ : S41), (⟨0, 1, 1, 2, 0, 0⟩ : S41)] : List (S41)) : List (S41))).bind fun y101 => (rows_Passes.l0 k ji4 (mx 0 (ji5)) ([] : List (S41)) y101 (y101.length : Int) 0)) = some r := by first | (rw [hji5] at H; exact H) | (simp only [hji5] at H ⊢; exact H)
  (try (have hji5h : ji5 ≤ 256 := by (rw [← hji5]; unfold mn; (repeat' split) <;> omega)))
  (try (have hji5g : ji5 ≤ 64 := by omega))
  have hji5_ : (if 256 < a1 then 256 else a1) = ji5 := hji5
  obtain ⟨ji6, hji6⟩ : ∃ j_ : Int, (mx 0 (ji5)) = j_ := ⟨_, rfl⟩
  replace H : ((some (([(⟨0, 0, 8, 8, 0, 0⟩ : S41), (⟨4, 0, 8, 8, 0, 0⟩ : S41), (⟨0, 4, 4, 8, 0, 0⟩ : S41), (⟨2, 0, 4, 4, 0, 0⟩ : S41), (⟨0, 2, 2, 4, 0, 0⟩ : S41), (⟨1, 0, 2, 2, 0, 0⟩ : S41), (⟨0, 1, 1, 2, 0, 0⟩ : S41)] : List (S41)) : List (S41))).bind fun y101 => (rows_Passes.l0 k ji4 ji6 ([] : List (S41)) y101 (y101.length : Int) 0)) = some r := by first | (rw [hji6] at H; exact H) | (simp only [hji6] at H ⊢; exact H)
  have hji6_ : (if 0 < (ji5) then (ji5) else 0) = ji6 := hji6
  obtain ⟨y101, hy101⟩ : ∃ y_ : List (S41), y_ = (([(⟨0, 0, 8, 8, 0, 0⟩ : S41), (⟨4, 0, 8, 8, 0, 0⟩ : S41), (⟨0, 4, 4, 8, 0, 0⟩ : S41), (⟨2, 0, 4, 4, 0, 0⟩ : S41), (⟨0, 2, 2, 4, 0, 0⟩ : S41), (⟨1, 0, 2, 2, 0, 0⟩ : S41), (⟨0, 1, 1, 2, 0, 0⟩ : S41)] : List (S41))) := ⟨_, rfl⟩
  replace H : (rows_Passes.l0 k ji4 ji6 ([] : List (S41)) y101 (y101.length : Int) 0) = some r := by first | (rw [hy101]; with_reducible exact H) | (have H2_ := (Option.bind_some _ _).symm.trans H; rw [hy101]; with_reducible exact H2_) | (have H2_ := (Option.bind_some _ _).symm.trans H; with_reducible exact H2_) | with_reducible exact H | (rw [hy101]; exact H) | exact H
  have Ny101 := Aside0.mk hy101
  clear hy101
  have H' := Aside0.mk H
  clear H
  go_enter Try.func20, Try.ntmps20
  go_wp2_with (first | ((with_reducible refine gate_dst (N := 21) rfl ?_); refine Kd.R_lit k41 _ 41 ?hg (N := 21) ?hd (xs := ([(⟨0, 0, 8, 8, 0, 0⟩ : S41), (⟨4, 0, 8, 8, 0, 0⟩ : S41), (⟨0, 4, 4, 8, 0, 0⟩ : S41), (⟨2, 0, 4, 4, 0, 0⟩ : S41), (⟨0, 2, 2, 4, 0, 0⟩ : S41), (⟨1, 0, 2, 2, 0, 0⟩ : S41), (⟨0, 1, 1, 2, 0, 0⟩ : S41)] : List (S41))) (inner := [.int .i64 0, .int .i64 0, .int .i64 8, .int .i64 8, .int .i64 0, .int .i64 0, .int .i64 4, .int .i64 0, .int .i64 8, .int .i64 8, .int .i64 0, .int .i64 0, .int .i64 0, .int .i64 4, .int .i64 4, .int .i64 8, .int .i64 0, .int .i64 0, .int .i64 2, .int .i64 0, .int .i64 4, .int .i64 4, .int .i64 0, .int .i64 0, .int .i64 0, .int .i64 2, .int .i64 2, .int .i64 4, .int .i64 0, .int .i64 0, .int .i64 1, .int .i64 0, .int .i64 2, .int .i64 2, .int .i64 0, .int .i64 0, .int .i64 0, .int .i64 1, .int .i64 1, .int .i64 2, .int .i64 0, .int .i64 0]) (ok := fun _ => True) (okp := fun _ => True) ?hr ?hp (fun _ hk => hk) trivial (Below.refl _ _) (Nat.le_refl _) (by simp) ?_; (case hd => rfl); (case hg => rfl); (case hr => first | (go_simp; done) | (go_simp; rfl)); (case hp => exact (Reps.c6 (show Kd.M k41 _ _ _ (⟨0, 0, 8, 8, 0, 0⟩ : S41) [.int .i64 0, .int .i64 0, .int .i64 8, .int .i64 8, .int .i64 0, .int .i64 0] from (k41_mkM _ _ _ (⟨0, 0, 8, 8, 0, 0⟩ : S41) )) (Reps.c6 (show Kd.M k41 _ _ _ (⟨4, 0, 8, 8, 0, 0⟩ : S41) [.int .i64 4, .int .i64 0, .int .i64 8, .int .i64 8, .int .i64 0, .int .i64 0] from (k41_mkM _ _ _ (⟨4, 0, 8, 8, 0, 0⟩ : S41) )) (Reps.c6 (show Kd.M k41 _ _ _ (⟨0, 4, 4, 8, 0, 0⟩ : S41) [.int .i64 0, .int .i64 4, .int .i64 4, .int .i64 8, .int .i64 0, .int .i64 0] from (k41_mkM _ _ _ (⟨0, 4, 4, 8, 0, 0⟩ : S41) )) (Reps.c6 (show Kd.M k41 _ _ _ (⟨2, 0, 4, 4, 0, 0⟩ : S41) [.int .i64 2, .int .i64 0, .int .i64 4, .int .i64 4, .int .i64 0, .int .i64 0] from (k41_mkM _ _ _ (⟨2, 0, 4, 4, 0, 0⟩ : S41) )) (Reps.c6 (show Kd.M k41 _ _ _ (⟨0, 2, 2, 4, 0, 0⟩ : S41) [.int .i64 0, .int .i64 2, .int .i64 2, .int .i64 4, .int .i64 0, .int .i64 0] from (k41_mkM _ _ _ (⟨0, 2, 2, 4, 0, 0⟩ : S41) )) (Reps.c6 (show Kd.M k41 _ _ _ (⟨1, 0, 2, 2, 0, 0⟩ : S41) [.int .i64 1, .int .i64 0, .int .i64 2, .int .i64 2, .int .i64 0, .int .i64 0] from (k41_mkM _ _ _ (⟨1, 0, 2, 2, 0, 0⟩ : S41) )) (Reps.c6 (show Kd.M k41 _ _ _ (⟨0, 1, 1, 2, 0, 0⟩ : S41) [.int .i64 0, .int .i64 1, .int .i64 1, .int .i64 2, .int .i64 0, .int .i64 0] from (k41_mkM _ _ _ (⟨0, 1, 1, 2, 0, 0⟩ : S41) )) (Reps.none _ _))))))))); intro v102 w7 ho8 hb hg_ hnew_; clear hg_ hnew_; (first | rw [← Ny101.out] at ho8 | (simp only [Int.reduceToNat] at ho8; rw [← Ny101.out] at ho8)); have n0_ := Aside0.mk (Kd.R_lower ho8 (below_size (by repeat (first | (with_reducible first | exact HB.out | apply below_alloc | apply pw_below_drewN | apply below_drew1) | exact HB.out)))); have n1_ := Aside0.mk (below_step (by repeat (first | (with_reducible first | exact HB.out | apply below_alloc | apply pw_below_drewN | apply below_drew1) | exact HB.out)) hb); clear HB; have HO103 := n0_; have HB := n1_; clear n0_ n1_; clear hb ho8; obtain ⟨Ao9, co9, eo9⟩ := Kd.R_slice HO103.out; subst eo9))
  go_loopg [5, 23] k (fun kq v5 v23 w' => ∃ (x5_1 : List (S41)) (x23_1 : Int), v23 = .int .i64 x23_1 ∧ Aside0 (rows_Passes.l0 kq ji4 ji6 x5_1 y101 (y101.length : Int) x23_1 = some r) ∧ Aside0 (kq ≤ k) ∧ Aside0 (Kd.R k41 41 w' w.heap.size (fun k_ => some k_ ≠ ((.slice Ao9 y101.length co9) : Value).ownBlock) v5 x5_1) ∧ Aside0 (Kd.R k41 41 w' w.heap.size (fun k_ => some k_ ≠ (v5 : Value).ownBlock) (.slice Ao9 y101.length co9) y101) ∧ Aside0 (Below w.heap.size w w'))
  case atStart => exact ⟨(([] : List (S41))), (0), (by first | rfl | (simp; done) | (simp [*]; done)), H', ⟨Nat.le_refl _⟩, ⟨by first | exact Kd.R_nil _ _ _ _ _ | exact Kd.N_nil _ _ _ _ _ | exact Kd.V_nil _ _ _ _ _ | exact Kd.Q_nil _ _ _ _ _ | exact Kd.S_nil _ _ _ _ _⟩, ⟨by (with_reducible repeat (first | apply Kd.R_alloc | apply Kd.R_drewN | apply Kd.R_drew)); exact Kd.R_mono HO103.out (fun _ hk => (by simp [Value.ownBlock]))⟩, ⟨by repeat (first | (with_reducible first | exact HB.out | apply below_alloc | apply pw_below_drewN | apply below_drew1) | exact HB.out)⟩⟩
  case round =>
    clear H'
    try clear c2
    try clear p2
    try clear c6
    obtain ⟨x5_1, x23_1, rfl, HA, HK1, HO_5, HO_21, HB⟩ := hrel
    cases gk with
    | zero => exact absurd HA.out (by simp [rows_Passes.l0])
    | succ k1 =>
      have H := HA.out
      clear HA
      simp only [rows_Passes.l0] at H
      by_cases c10 : x23_1 < (y101.length : Int)
      · rw [if_pos c10] at H
        have c10b0 : decide (x23_1 < (y101.length : Int)) = true := decide_eq_true c10
        clear c10
        by_cases c11 : 0 ≤ x23_1
        · rw [if_pos c11] at H
          have c11b0 : decide (0 ≤ x23_1) = true := decide_eq_true c11
          clear c11
          by_cases c12 : x23_1 < (y101.length : Int)
          · rw [if_pos c12] at H
            have c12b0 : decide (x23_1 < (y101.length : Int)) = true := decide_eq_true c12
            clear c12
            by_cases c13 : ((rd_T41 y101 x23_1).f2) = 0
            · rw [if_pos c13] at H
              exact absurd H (by simp)
            · rw [if_neg c13] at H
              have c13b0 : (((rd_T41 y101 x23_1).f2) == 0) = false := beq_eq_false_iff_ne.mpr c13
              have c13b1 : (((rd_T41 y101 x23_1).f2) != 0) = true := bne_iff_ne.mpr c13
              by_cases c14 : ((rd_T41 y101 x23_1).f3) = 0
              · rw [if_pos c14] at H
                exact absurd H (by simp)
              · rw [if_neg c14] at H
                have c14b0 : (((rd_T41 y101 x23_1).f3) == 0) = false := beq_eq_false_iff_ne.mpr c14
                have c14b1 : (((rd_T41 y101 x23_1).f3) != 0) = true := bne_iff_ne.mpr c14
                by_cases c15 : ji4 > ((rd_T41 y101 x23_1).f0)
                · rw [if_pos c15] at H
                  have c15b0 : decide (((rd_T41 y101 x23_1).f0) < ji4) = true := decide_eq_true c15
                  clear c15
                  by_cases c16 : ji6 > ((rd_T41 y101 x23_1).f1)
                  · rw [if_pos c16] at H
                    have c16b0 : decide (((rd_T41 y101 x23_1).f1) < ji6) = true := decide_eq_true c16
                    clear c16
                    by_cases c17 : x5_1.length < 2932031007402
                    · rw [if_pos c17] at H
                      have LMc17 := Aside0.mk c17
                      clear c17
                      obtain ⟨y106, hy106⟩ : ∃ y_ : List (S41), y_ = (x5_1 ++ [(⟨(rd_T41 y101 x23_1).f0, (rd_T41 y101 x23_1).f1, (rd_T41 y101 x23_1).f2, (rd_T41 y101 x23_1).f3, wrap64 (Int.tdiv (wrap64 ((wrap64 ((wrap64 (ji4 - ((rd_T41 y101 x23_1).f0))) + ((rd_T41 y101 x23_1).f2))) - 1)) ((rd_T41 y101 x23_1).f2)), wrap64 (Int.tdiv (wrap64 ((wrap64 ((wrap64 (ji6 - ((rd_T41 y101 x23_1).f1))) + ((rd_T41 y101 x23_1).f3))) - 1)) ((rd_T41 y101 x23_1).f3))⟩ : S41)]) := ⟨_, rfl⟩
                      replace H : (rows_Passes.l0 k1 ji4 ji6 y106 y101 (y101.length : Int) (wrap64 (x23_1 + 1))) = some r := by first | (rw [hy106]; with_reducible exact H) | (have H2_ := (Option.bind_some _ _).symm.trans H; rw [hy106]; with_reducible exact H2_) | (have H2_ := (Option.bind_some _ _).symm.trans H; with_reducible exact H2_) | with_reducible exact H | (rw [hy106]; exact H) | exact H
                      have Ny106 := Aside0.mk hy106
                      clear hy106
                      have H' := Aside0.mk H
                      clear H
                      have p104 : 0 ≤ (x23_1 : Int) := of_decide_eq_true (by first | (with_reducible assumption) | assumption)
                      have q104 : x23_1 < (y101.length : Int) := of_decide_eq_true (by first | (with_reducible assumption) | assumption)
                      obtain ⟨ad104, e104, hx104_0, hx104_1, hx104_2, hx104_3, hx104_4, hx104_5⟩ := at_T41 (Kd.R_reads' HO_21.out).2.2 x23_1 p104 q104
                      cases e104
                      replace p104 := eq_true p104
                      replace q104 := eq_true q104
                      try go_wp2_with (first | ((with_reducible refine gate_dst (N := 7) rfl ?_); refine box_event ?hg (N := 7) ?hd (cs := #[.int .i64 0, .int .i64 0, .int .i64 0, .int .i64 0, .int .i64 0, .int .i64 0]) (t := 41) ?hr ?_; (case hd => rfl); (case hg => rfl); (case hr => first | (go_simp; done) | (go_simp; rfl)); intro gb105 hg w18 hbox hb; have n0_ := Aside0.mk (Kd.R_below (Kd.R_elderB (by (with_reducible repeat (first | apply Kd.R_alloc | apply Kd.R_drewN | apply Kd.R_drew)); exact HO_5.out) gb105 (Nat.le_of_eq hg.symm)) hb); have n1_ := Aside0.mk (Kd.R_below (Kd.R_elderB (by (with_reducible repeat (first | apply Kd.R_alloc | apply Kd.R_drewN | apply Kd.R_drew)); exact HO_21.out) gb105 (Nat.le_of_eq hg.symm)) hb); have n2_ := Aside0.mk (below_step (by repeat (first | (with_reducible first | exact HB.out | apply below_alloc | apply pw_below_drewN | apply below_drew1) | exact HB.out)) hb); have n3_ := Aside0.mk (hbox); have n4_ := Aside0.mk ((by rw [hg]; exact (below_size (by repeat (first | (with_reducible first | exact HB.out | apply below_alloc | apply pw_below_drewN | apply below_drew1) | exact HB.out))) : w.heap.size ≤ gb105)); have n5_ := Aside0.mk ((by rw [hg]; exact (below_size (by repeat (first | (with_reducible first | exact HB.out | apply below_alloc | apply pw_below_drewN | apply below_drew1) | exact HB.out))) : w.heap.size ≤ gb105)); clear HO_5; clear HO_21; clear HB; have HO_5 := n0_; have HO_21 := n1_; have HB := n2_; have BK105 := n3_; have GW105 := n4_; have GE105 := n5_; clear n0_ n1_ n2_ n3_ n4_ n5_; clear hb hbox hg; have hcz19_0 : w18.cell? ⟨gb105, 0, none⟩ = some (.int .i64 0) := (blk_cell BK105.out 0).trans rfl; have hcz19_1 : w18.cell? ⟨gb105, 1, none⟩ = some (.int .i64 0) := (blk_cell BK105.out 1).trans rfl; have hcz19_2 : w18.cell? ⟨gb105, 2, none⟩ = some (.int .i64 0) := (blk_cell BK105.out 2).trans rfl; have hcz19_3 : w18.cell? ⟨gb105, 3, none⟩ = some (.int .i64 0) := (blk_cell BK105.out 3).trans rfl; have hcz19_4 : w18.cell? ⟨gb105, 4, none⟩ = some (.int .i64 0) := (blk_cell BK105.out 4).trans rfl; have hcz19_5 : w18.cell? ⟨gb105, 5, none⟩ = some (.int .i64 0) := (blk_cell BK105.out 5).trans rfl; have hfz19_0 := blk_frozen BK105.out 0; have hfz19_1 := blk_frozen BK105.out 1; have hfz19_2 := blk_frozen BK105.out 2; have hfz19_3 := blk_frozen BK105.out 3; have hfz19_4 := blk_frozen BK105.out 4; have hfz19_5 := blk_frozen BK105.out 5))
                      have n0_ : Aside0 (Kd.R k41 41 ((((((w18.setCell ⟨gb105, 0, none⟩ (.int .i64 ((rd_T41 y101 x23_1).f0))).setCell ⟨gb105, 1, none⟩ (.int .i64 ((rd_T41 y101 x23_1).f1))).setCell ⟨gb105, 2, none⟩ (.int .i64 ((rd_T41 y101 x23_1).f2))).setCell ⟨gb105, 3, none⟩ (.int .i64 ((rd_T41 y101 x23_1).f3))).setCell ⟨gb105, 4, none⟩ (.int .i64 ((rd_T41 y101 x23_1).f4))).setCell ⟨gb105, 5, none⟩ (.int .i64 ((rd_T41 y101 x23_1).f5))) w.heap.size (fun k_ => some k_ ≠ (.slice (some ad104) y101.length co9 : Value).ownBlock ∧ k_ ≠ gb105) u5 x5_1) := ⟨by (with_reducible repeat (first | apply Kd.R_alloc | apply Kd.R_drewN | apply Kd.R_drew)); exact Kd.R_mono (Kd.R_far (p := ⟨gb105, 5, none⟩) (Kd.R_far (p := ⟨gb105, 4, none⟩) (Kd.R_far (p := ⟨gb105, 3, none⟩) (Kd.R_far (p := ⟨gb105, 2, none⟩) (Kd.R_far (p := ⟨gb105, 1, none⟩) (Kd.R_far (p := ⟨gb105, 0, none⟩) (Kd.R_mono HO_5.out (fun k_ hk => (⟨hk, hk.2⟩ : _ ∧ k_ ≠ gb105))) (fun _ hk => hk.2) (.int .i64 ((rd_T41 y101 x23_1).f0))) (fun _ hk => hk.2) (.int .i64 ((rd_T41 y101 x23_1).f1))) (fun _ hk => hk.2) (.int .i64 ((rd_T41 y101 x23_1).f2))) (fun _ hk => hk.2) (.int .i64 ((rd_T41 y101 x23_1).f3))) (fun _ hk => hk.2) (.int .i64 ((rd_T41 y101 x23_1).f4))) (fun _ hk => hk.2) (.int .i64 ((rd_T41 y101 x23_1).f5))) (fun _ hk => ⟨hk.1.1, hk.1.2⟩)⟩
                      have n1_ : Aside0 (Kd.R k41 41 ((((((w18.setCell ⟨gb105, 0, none⟩ (.int .i64 ((rd_T41 y101 x23_1).f0))).setCell ⟨gb105, 1, none⟩ (.int .i64 ((rd_T41 y101 x23_1).f1))).setCell ⟨gb105, 2, none⟩ (.int .i64 ((rd_T41 y101 x23_1).f2))).setCell ⟨gb105, 3, none⟩ (.int .i64 ((rd_T41 y101 x23_1).f3))).setCell ⟨gb105, 4, none⟩ (.int .i64 ((rd_T41 y101 x23_1).f4))).setCell ⟨gb105, 5, none⟩ (.int .i64 ((rd_T41 y101 x23_1).f5))) w.heap.size (fun k_ => some k_ ≠ (u5 : Value).ownBlock ∧ k_ ≠ gb105) (.slice (some ad104) y101.length co9) y101) := ⟨by (with_reducible repeat (first | apply Kd.R_alloc | apply Kd.R_drewN | apply Kd.R_drew)); exact Kd.R_mono (Kd.R_far (p := ⟨gb105, 5, none⟩) (Kd.R_far (p := ⟨gb105, 4, none⟩) (Kd.R_far (p := ⟨gb105, 3, none⟩) (Kd.R_far (p := ⟨gb105, 2, none⟩) (Kd.R_far (p := ⟨gb105, 1, none⟩) (Kd.R_far (p := ⟨gb105, 0, none⟩) (Kd.R_mono HO_21.out (fun k_ hk => (⟨hk, hk.2⟩ : _ ∧ k_ ≠ gb105))) (fun _ hk => hk.2) (.int .i64 ((rd_T41 y101 x23_1).f0))) (fun _ hk => hk.2) (.int .i64 ((rd_T41 y101 x23_1).f1))) (fun _ hk => hk.2) (.int .i64 ((rd_T41 y101 x23_1).f2))) (fun _ hk => hk.2) (.int .i64 ((rd_T41 y101 x23_1).f3))) (fun _ hk => hk.2) (.int .i64 ((rd_T41 y101 x23_1).f4))) (fun _ hk => hk.2) (.int .i64 ((rd_T41 y101 x23_1).f5))) (fun _ hk => ⟨hk.1.1, hk.1.2⟩)⟩
                      have n2_ : Aside0 (((((((w18.setCell ⟨gb105, 0, none⟩ (.int .i64 ((rd_T41 y101 x23_1).f0))).setCell ⟨gb105, 1, none⟩ (.int .i64 ((rd_T41 y101 x23_1).f1))).setCell ⟨gb105, 2, none⟩ (.int .i64 ((rd_T41 y101 x23_1).f2))).setCell ⟨gb105, 3, none⟩ (.int .i64 ((rd_T41 y101 x23_1).f3))).setCell ⟨gb105, 4, none⟩ (.int .i64 ((rd_T41 y101 x23_1).f4))).setCell ⟨gb105, 5, none⟩ (.int .i64 ((rd_T41 y101 x23_1).f5))).heap[gb105]? = some (.cells #[.int .i64 ((rd_T41 y101 x23_1).f0), .int .i64 ((rd_T41 y101 x23_1).f1), .int .i64 ((rd_T41 y101 x23_1).f2), .int .i64 ((rd_T41 y101 x23_1).f3), .int .i64 ((rd_T41 y101 x23_1).f4), .int .i64 ((rd_T41 y101 x23_1).f5)] 41 (0, 0))) := ⟨by (with_reducible repeat (first | refine blk_drewN ?_ _ | refine blk_drew ?_ | refine blk_alloc ?_ _)); refine blk_put (cs := #[.int .i64 ((rd_T41 y101 x23_1).f0), .int .i64 ((rd_T41 y101 x23_1).f1), .int .i64 ((rd_T41 y101 x23_1).f2), .int .i64 ((rd_T41 y101 x23_1).f3), .int .i64 ((rd_T41 y101 x23_1).f4), .int .i64 0]) ?_ 5 _ rfl; (with_reducible repeat (first | refine blk_drewN ?_ _ | refine blk_drew ?_ | refine blk_alloc ?_ _)); refine blk_put (cs := #[.int .i64 ((rd_T41 y101 x23_1).f0), .int .i64 ((rd_T41 y101 x23_1).f1), .int .i64 ((rd_T41 y101 x23_1).f2), .int .i64 ((rd_T41 y101 x23_1).f3), .int .i64 0, .int .i64 0]) ?_ 4 _ rfl; (with_reducible repeat (first | refine blk_drewN ?_ _ | refine blk_drew ?_ | refine blk_alloc ?_ _)); refine blk_put (cs := #[.int .i64 ((rd_T41 y101 x23_1).f0), .int .i64 ((rd_T41 y101 x23_1).f1), .int .i64 ((rd_T41 y101 x23_1).f2), .int .i64 0, .int .i64 0, .int .i64 0]) ?_ 3 _ rfl; (with_reducible repeat (first | refine blk_drewN ?_ _ | refine blk_drew ?_ | refine blk_alloc ?_ _)); refine blk_put (cs := #[.int .i64 ((rd_T41 y101 x23_1).f0), .int .i64 ((rd_T41 y101 x23_1).f1), .int .i64 0, .int .i64 0, .int .i64 0, .int .i64 0]) ?_ 2 _ rfl; (with_reducible repeat (first | refine blk_drewN ?_ _ | refine blk_drew ?_ | refine blk_alloc ?_ _)); refine blk_put (cs := #[.int .i64 ((rd_T41 y101 x23_1).f0), .int .i64 0, .int .i64 0, .int .i64 0, .int .i64 0, .int .i64 0]) ?_ 1 _ rfl; (with_reducible repeat (first | refine blk_drewN ?_ _ | refine blk_drew ?_ | refine blk_alloc ?_ _)); refine blk_put (cs := #[.int .i64 0, .int .i64 0, .int .i64 0, .int .i64 0, .int .i64 0, .int .i64 0]) ?_ 0 _ rfl; (with_reducible repeat (first | refine blk_drewN ?_ _ | refine blk_drew ?_ | refine blk_alloc ?_ _)); exact BK105.out⟩
                      have n3_ : Aside0 (Below w.heap.size w ((((((w18.setCell ⟨gb105, 0, none⟩ (.int .i64 ((rd_T41 y101 x23_1).f0))).setCell ⟨gb105, 1, none⟩ (.int .i64 ((rd_T41 y101 x23_1).f1))).setCell ⟨gb105, 2, none⟩ (.int .i64 ((rd_T41 y101 x23_1).f2))).setCell ⟨gb105, 3, none⟩ (.int .i64 ((rd_T41 y101 x23_1).f3))).setCell ⟨gb105, 4, none⟩ (.int .i64 ((rd_T41 y101 x23_1).f4))).setCell ⟨gb105, 5, none⟩ (.int .i64 ((rd_T41 y101 x23_1).f5)))) := ⟨by repeat (first | (with_reducible first | exact HB.out | apply below_alloc | apply pw_below_drewN | apply below_drew1 | refine below_set ?_ GE105.out) | exact HB.out)⟩
                      (try clear HO_5)
                      (try clear HO_21)
                      (try clear BK105)
                      (try clear HB)
                      generalize ((((((w18.setCell ⟨gb105, 0, none⟩ (.int .i64 ((rd_T41 y101 x23_1).f0))).setCell ⟨gb105, 1, none⟩ (.int .i64 ((rd_T41 y101 x23_1).f1))).setCell ⟨gb105, 2, none⟩ (.int .i64 ((rd_T41 y101 x23_1).f2))).setCell ⟨gb105, 3, none⟩ (.int .i64 ((rd_T41 y101 x23_1).f3))).setCell ⟨gb105, 4, none⟩ (.int .i64 ((rd_T41 y101 x23_1).f4))).setCell ⟨gb105, 5, none⟩ (.int .i64 ((rd_T41 y101 x23_1).f5))) = w20 at n0_ n1_ n2_ n3_ ⊢
                      have HO_5 := n0_
                      have HO_21 := n1_
                      have BK105 := n2_
                      have HB := n3_
                      clear n0_ n1_ n2_ n3_
                      have n0_ := Aside0.mk (Kd.R_drew HO_5.out)
                      have n1_ := Aside0.mk (Kd.R_drew HO_21.out)
                      have n2_ := Aside0.mk (blk_drew BK105.out)
                      have n3_ := Aside0.mk (below_drew1 HB.out)
                      clear HO_5
                      clear HO_21
                      clear BK105
                      clear HB
                      have HO_5 := n0_
                      have HO_21 := n1_
                      have BK105 := n2_
                      have HB := n3_
                      clear n0_ n1_ n2_ n3_
                      refine start_ (n := 26) (S := fun w' => w'.cell? ⟨gb105, 0, none⟩ = some (.int .i64 ((rd_T41 y101 x23_1).f0)) ∧ w'.cell? ⟨gb105, 1, none⟩ = some (.int .i64 ((rd_T41 y101 x23_1).f1)) ∧ w'.cell? ⟨gb105, 2, none⟩ = some (.int .i64 ((rd_T41 y101 x23_1).f2)) ∧ w'.cell? ⟨gb105, 3, none⟩ = some (.int .i64 ((rd_T41 y101 x23_1).f3)) ∧ w'.cell? ⟨gb105, 4, none⟩ = some (.int .i64 ((rd_T41 y101 x23_1).f4)) ∧ w'.cell? ⟨gb105, 5, none⟩ = some (.int .i64 ((rd_T41 y101 x23_1).f5))) (ds := [23, 25]) #[false, false, false, false, false, false, false, false, false, false, false, false, false, false, false, false, false, false, false, false, false, false, false, false, false, false] (by kernel_rfl) rfl rfl ⟨(blk_cell BK105.out 0).trans rfl, (blk_cell BK105.out 1).trans rfl, (blk_cell BK105.out 2).trans rfl, (blk_cell BK105.out 3).trans rfl, (blk_cell BK105.out 4).trans rfl, (blk_cell BK105.out 5).trans rfl⟩ (fun hHeld => ?_); refine with_tabW rows_Passes.tab6 rows_Passes.bits6 (fun HT_ HW_ => ?_)
                      generalize w20.drew = w21 at HO_5 HO_21 BK105 HB hHeld ⊢
                      refine pure_ (i := 0) (N := some 27) (v := ?_) (a' := ?_) #[true, false, false, false, false, false, false, false, false, false, false, false, false, false, false, false, false, false, false, false, false, false, false, false, false, false] rfl rfl (any_of HT_.out (by kernel_rfl)) (fun _ _ _ h => h) (Or.inl ⟨by rfl, ?_⟩) ?_ ?_
                      rotate_left
                      · intro w'
                        go_simp
                        with_reducible rfl
                      rotate_left
                      · simp only [Act.put, List.setIfInBounds_toArray, List.set_cons_zero, List.set_cons_succ, i64_w, i32_w]
                        rfl
                      refine pure_ (i := 1) (N := some 28) (v := ?_) (a' := ?_) #[true, true, false, false, false, false, false, false, false, false, false, false, false, false, false, false, false, false, false, false, false, false, false, false, false, false] rfl rfl (any_of HT_.out (by kernel_rfl)) (fun _ _ _ h => h) (Or.inl ⟨by rfl, ?_⟩) ?_ ?_
                      rotate_left
                      · intro w'
                        go_simp
                        with_reducible rfl
                      rotate_left
                      · simp only [Act.put, List.setIfInBounds_toArray, List.set_cons_zero, List.set_cons_succ, i64_w, i32_w]
                        rfl
                      refine pure_ (i := 4) (N := some 31) (v := ?_) (a' := ?_) #[true, true, false, false, true, false, false, false, false, false, false, false, false, false, false, false, false, false, false, false, false, false, false, false, false, false] rfl rfl (any_of HT_.out (by kernel_rfl)) (fun _ _ _ h => h) (Or.inl ⟨by rfl, ?_⟩) ?_ ?_
                      rotate_left
                      · intro w'
                        go_simp
                        with_reducible rfl
                      rotate_left
                      · simp only [Act.put, List.setIfInBounds_toArray, List.set_cons_zero, List.set_cons_succ, i64_w, i32_w]
                        rfl
                      refine pure_ (i := 8) (N := some 35) (v := ?_) (a' := ?_) #[true, true, false, false, true, false, false, false, true, false, false, false, false, false, false, false, false, false, false, false, false, false, false, false, false, false] rfl rfl (any_of HT_.out (by kernel_rfl)) (fun _ _ _ h => h) (Or.inl ⟨by rfl, ?_⟩) ?_ ?_
                      rotate_left
                      · intro w'
                        go_simp
                        with_reducible rfl
                      rotate_left
                      · simp only [Act.put, List.setIfInBounds_toArray, List.set_cons_zero, List.set_cons_succ, i64_w, i32_w]
                        rfl
                      refine pure_ (i := 11) (N := some 38) (v := ?_) (a' := ?_) #[true, true, false, false, true, false, false, false, true, false, false, true, false, false, false, false, false, false, false, false, false, false, false, false, false, false] rfl rfl (any_of HT_.out (by kernel_rfl)) (fun _ _ _ h => h) (Or.inl ⟨by rfl, ?_⟩) ?_ ?_
                      rotate_left
                      · intro w'
                        go_simp
                        with_reducible rfl
                      rotate_left
                      · simp only [Act.put, List.setIfInBounds_toArray, List.set_cons_zero, List.set_cons_succ, i64_w, i32_w]
                        rfl
                      refine pure_ (i := 12) (N := some 39) (v := ?_) (a' := ?_) #[true, true, false, false, true, false, false, false, true, false, false, true, true, false, false, false, false, false, false, false, false, false, false, false, false, false] rfl rfl (any_of HT_.out (by kernel_rfl)) (fun _ _ _ h => h) (Or.inl ⟨by rfl, ?_⟩) ?_ ?_
                      rotate_left
                      · intro w'
                        go_simp
                        with_reducible rfl
                      rotate_left
                      · simp only [Act.put, List.setIfInBounds_toArray, List.set_cons_zero, List.set_cons_succ, i64_w, i32_w]
                        rfl
                      refine pure_ (i := 15) (N := some 42) (v := ?_) (a' := ?_) #[true, true, false, false, true, false, false, false, true, false, false, true, true, false, false, true, false, false, false, false, false, false, false, false, false, false] rfl rfl (any_of HT_.out (by kernel_rfl)) (fun _ _ _ h => h) (Or.inl ⟨by rfl, ?_⟩) ?_ ?_
                      rotate_left
                      · intro w'
                        go_simp
                        with_reducible rfl
                      rotate_left
                      · simp only [Act.put, List.setIfInBounds_toArray, List.set_cons_zero, List.set_cons_succ, i64_w, i32_w]
                        rfl
                      refine pure_ (i := 19) (N := some 46) (v := ?_) (a' := ?_) #[true, true, false, false, true, false, false, false, true, false, false, true, true, false, false, true, false, false, false, true, false, false, false, false, false, false] rfl rfl (any_of HT_.out (by kernel_rfl)) (fun _ _ _ h => h) (Or.inl ⟨by rfl, ?_⟩) ?_ ?_
                      rotate_left
                      · intro w'
                        go_simp
                        with_reducible rfl
                      rotate_left
                      · simp only [Act.put, List.setIfInBounds_toArray, List.set_cons_zero, List.set_cons_succ, i64_w, i32_w]
                        rfl
                      refine take_ (i := 2) (N := some 29) (v := ?_) (a' := ?_) #[true, true, true, false, true, false, false, false, true, false, false, true, true, false, false, true, false, false, false, true, false, false, false, false, false, false] rfl rfl (take_ofW HT_.out HW_.out (by kernel_rfl)) (fun _ _ _ h => h) (Or.inl ⟨by rfl, ?_⟩) hHeld ?_ ?_
                      rotate_left
                      · rintro w' ⟨s0, s1, s2, s3, s4, s5⟩
                        go_simp
                        with_reducible rfl
                      rotate_left
                      · simp only [Act.put, List.setIfInBounds_toArray, List.set_cons_zero, List.set_cons_succ, i64_w, i32_w]
                        rfl
                      refine pure_ (i := 3) (N := some 30) (v := ?_) (a' := ?_) #[true, true, true, true, true, false, false, false, true, false, false, true, true, false, false, true, false, false, false, true, false, false, false, false, false, false] rfl rfl (any_of HT_.out (by kernel_rfl)) (fun _ _ _ h => h) (Or.inl ⟨by rfl, ?_⟩) ?_ ?_
                      rotate_left
                      · intro w'
                        go_simp
                        with_reducible rfl
                      rotate_left
                      · simp only [Act.put, List.setIfInBounds_toArray, List.set_cons_zero, List.set_cons_succ, i64_w, i32_w]
                        rfl
                      refine take_ (i := 5) (N := some 32) (v := ?_) (a' := ?_) #[true, true, true, true, true, true, false, false, true, false, false, true, true, false, false, true, false, false, false, true, false, false, false, false, false, false] rfl rfl (take_ofW HT_.out HW_.out (by kernel_rfl)) (fun _ _ _ h => h) (Or.inl ⟨by rfl, ?_⟩) hHeld ?_ ?_
                      rotate_left
                      · rintro w' ⟨s0, s1, s2, s3, s4, s5⟩
                        go_simp
                        with_reducible rfl
                      rotate_left
                      · simp only [Act.put, List.setIfInBounds_toArray, List.set_cons_zero, List.set_cons_succ, i64_w, i32_w]
                        rfl
                      refine pure_ (i := 6) (N := some 33) (v := ?_) (a' := ?_) #[true, true, true, true, true, true, true, false, true, false, false, true, true, false, false, true, false, false, false, true, false, false, false, false, false, false] rfl rfl (any_of HT_.out (by kernel_rfl)) (fun _ _ _ h => h) (Or.inl ⟨by rfl, ?_⟩) ?_ ?_
                      rotate_left
                      · intro w'
                        go_simp
                        with_reducible rfl
                      rotate_left
                      · simp only [Act.put, List.setIfInBounds_toArray, List.set_cons_zero, List.set_cons_succ, i64_w, i32_w]
                        rfl
                      refine pure_ (i := 7) (N := some 34) (v := ?_) (a' := ?_) #[true, true, true, true, true, true, true, true, true, false, false, true, true, false, false, true, false, false, false, true, false, false, false, false, false, false] rfl rfl (any_of HT_.out (by kernel_rfl)) (fun _ _ _ h => h) (Or.inl ⟨by rfl, ?_⟩) ?_ ?_
                      rotate_left
                      · intro w'
                        go_simp
                        with_reducible rfl
                      rotate_left
                      · simp only [Act.put, List.setIfInBounds_toArray, List.set_cons_zero, List.set_cons_succ, i64_w, i32_w]
                        rfl
                      refine take_ (i := 9) (N := some 36) (v := ?_) (a' := ?_) #[true, true, true, true, true, true, true, true, true, true, false, true, true, false, false, true, false, false, false, true, false, false, false, false, false, false] rfl rfl (take_ofW HT_.out HW_.out (by kernel_rfl)) (fun _ _ _ h => h) (Or.inl ⟨by rfl, ?_⟩) hHeld ?_ ?_
                      rotate_left
                      · rintro w' ⟨s0, s1, s2, s3, s4, s5⟩
                        go_simp
                        with_reducible rfl
                      rotate_left
                      · simp only [Act.put, List.setIfInBounds_toArray, List.set_cons_zero, List.set_cons_succ, i64_w, i32_w]
                        rfl
                      refine pure_ (i := 10) (N := some 37) (v := ?_) (a' := ?_) #[true, true, true, true, true, true, true, true, true, true, true, true, true, false, false, true, false, false, false, true, false, false, false, false, false, false] rfl rfl (any_of HT_.out (by kernel_rfl)) (fun _ _ _ h => h) (Or.inl ⟨by rfl, ?_⟩) ?_ ?_
                      rotate_left
                      · intro w'
                        go_simp
                        with_reducible rfl
                      rotate_left
                      · simp only [Act.put, List.setIfInBounds_toArray, List.set_cons_zero, List.set_cons_succ, i64_w, i32_w]
                        rfl
                      refine take_ (i := 13) (N := some 40) (v := ?_) (a' := ?_) #[true, true, true, true, true, true, true, true, true, true, true, true, true, true, false, true, false, false, false, true, false, false, false, false, false, false] rfl rfl (take_ofW HT_.out HW_.out (by kernel_rfl)) (fun _ _ _ h => h) (Or.inl ⟨by rfl, ?_⟩) hHeld ?_ ?_
                      rotate_left
                      · rintro w' ⟨s0, s1, s2, s3, s4, s5⟩
                        go_simp
                        with_reducible rfl
                      rotate_left
                      · simp only [Act.put, List.setIfInBounds_toArray, List.set_cons_zero, List.set_cons_succ, i64_w, i32_w]
                        rfl
                      refine pure_ (i := 14) (N := some 41) (v := ?_) (a' := ?_) #[true, true, true, true, true, true, true, true, true, true, true, true, true, true, true, true, false, false, false, true, false, false, false, false, false, false] rfl rfl (any_of HT_.out (by kernel_rfl)) (fun _ _ _ h => h) (Or.inl ⟨by rfl, ?_⟩) ?_ ?_
                      rotate_left
                      · intro w'
                        go_simp
                        with_reducible rfl
                      rotate_left
                      · simp only [Act.put, List.setIfInBounds_toArray, List.set_cons_zero, List.set_cons_succ, i64_w, i32_w]
                        rfl
                      refine take_ (i := 16) (N := some 43) (v := ?_) (a' := ?_) #[true, true, true, true, true, true, true, true, true, true, true, true, true, true, true, true, true, false, false, true, false, false, false, false, false, false] rfl rfl (take_ofW HT_.out HW_.out (by kernel_rfl)) (fun _ _ _ h => h) (Or.inl ⟨by rfl, ?_⟩) hHeld ?_ ?_
                      rotate_left
                      · rintro w' ⟨s0, s1, s2, s3, s4, s5⟩
                        go_simp
                        with_reducible rfl
                      rotate_left
                      · simp only [Act.put, List.setIfInBounds_toArray, List.set_cons_zero, List.set_cons_succ, i64_w, i32_w]
                        rfl
                      refine pure_ (i := 17) (N := some 44) (v := ?_) (a' := ?_) #[true, true, true, true, true, true, true, true, true, true, true, true, true, true, true, true, true, true, false, true, false, false, false, false, false, false] rfl rfl (any_of HT_.out (by kernel_rfl)) (fun _ _ _ h => h) (Or.inl ⟨by rfl, ?_⟩) ?_ ?_
                      rotate_left
                      · intro w'
                        go_simp
                        with_reducible rfl
                      rotate_left
                      · simp only [Act.put, List.setIfInBounds_toArray, List.set_cons_zero, List.set_cons_succ, i64_w, i32_w]
                        rfl
                      refine pure_ (i := 18) (N := some 45) (v := ?_) (a' := ?_) #[true, true, true, true, true, true, true, true, true, true, true, true, true, true, true, true, true, true, true, true, false, false, false, false, false, false] rfl rfl (any_of HT_.out (by kernel_rfl)) (fun _ _ _ h => h) (Or.inl ⟨by rfl, ?_⟩) ?_ ?_
                      rotate_left
                      · intro w'
                        go_simp
                        with_reducible rfl
                      rotate_left
                      · simp only [Act.put, List.setIfInBounds_toArray, List.set_cons_zero, List.set_cons_succ, i64_w, i32_w]
                        rfl
                      refine take_ (i := 20) (N := some 47) (v := ?_) (a' := ?_) #[true, true, true, true, true, true, true, true, true, true, true, true, true, true, true, true, true, true, true, true, true, false, false, false, false, false] rfl rfl (take_ofW HT_.out HW_.out (by kernel_rfl)) (fun _ _ _ h => h) (Or.inl ⟨by rfl, ?_⟩) hHeld ?_ ?_
                      rotate_left
                      · rintro w' ⟨s0, s1, s2, s3, s4, s5⟩
                        go_simp
                        with_reducible rfl
                      rotate_left
                      · simp only [Act.put, List.setIfInBounds_toArray, List.set_cons_zero, List.set_cons_succ, i64_w, i32_w]
                        rfl
                      refine pure_ (i := 21) (N := some 48) (v := ?_) (a' := ?_) #[true, true, true, true, true, true, true, true, true, true, true, true, true, true, true, true, true, true, true, true, true, true, false, false, false, false] rfl rfl (any_of HT_.out (by kernel_rfl)) (fun _ _ _ h => h) (Or.inl ⟨by rfl, ?_⟩) ?_ ?_
                      rotate_left
                      · intro w'
                        go_simp
                        with_reducible rfl
                      rotate_left
                      · simp only [Act.put, List.setIfInBounds_toArray, List.set_cons_zero, List.set_cons_succ, i64_w, i32_w]
                        rfl
                      refine pure_ (i := 22) (N := some 49) (v := ?_) (a' := ?_) #[true, true, true, true, true, true, true, true, true, true, true, true, true, true, true, true, true, true, true, true, true, true, true, false, false, false] rfl rfl (any_of HT_.out (by kernel_rfl)) (fun _ _ _ h => h) (Or.inl ⟨by rfl, ?_⟩) ?_ ?_
                      rotate_left
                      · intro w'
                        go_simp
                        with_reducible rfl
                      rotate_left
                      · simp only [Act.put, List.setIfInBounds_toArray, List.set_cons_zero, List.set_cons_succ, i64_w, i32_w]
                        rfl
                      refine last_ (i := 23) (N := none) #[true, true, true, true, true, true, true, true, true, true, true, true, true, true, true, true, true, true, true, true, true, true, true, true, false, false] rfl rfl (one_of HT_.out (by kernel_rfl)) (by decide) (fun K hK => ?_)
                      have hs22 : w21.cell? ⟨gb105, 4, none⟩ = some (.int .i64 ((rd_T41 y101 x23_1).f4)) := (blk_cell BK105.out 4).trans rfl
                      have hfs22 := blk_frozen BK105.out 4
                      refine skip_ (w1 := ?_) (by rfl) rfl ?_ ?_
                      rotate_left
                      · go_simp
                        rfl
                      refine hK.out _ _ ?_
                      clear hK K
                      refine pure_ (i := 24) (N := some 50) (v := ?_) (a' := ?_) #[true, true, true, true, true, true, true, true, true, true, true, true, true, true, true, true, true, true, true, true, true, true, true, true, true, false] rfl rfl (any_of HT_.out (by kernel_rfl)) (fun _ _ _ h => h) (Or.inl ⟨by rfl, ?_⟩) ?_ ?_
                      rotate_left
                      · intro w'
                        go_simp
                        with_reducible rfl
                      rotate_left
                      · simp only [Act.put, List.setIfInBounds_toArray, List.set_cons_zero, List.set_cons_succ, i64_w, i32_w]
                        rfl
                      refine last_ (i := 25) (N := none) #[true, true, true, true, true, true, true, true, true, true, true, true, true, true, true, true, true, true, true, true, true, true, true, true, true, true] rfl rfl (one_of HT_.out (by kernel_rfl)) (by decide) (fun K hK => ?_)
                      have hs23 : w21.cell? ⟨gb105, 5, none⟩ = some (.int .i64 ((rd_T41 y101 x23_1).f5)) := (blk_cell BK105.out 5).trans rfl
                      have hfs23 := blk_frozen BK105.out 5
                      refine skip_ (w1 := ?_) (by rfl) rfl ?_ ?_
                      rotate_left
                      · go_simp
                        rfl
                      refine hK.out _ _ ?_
                      clear hK K
                      refine done_ (done_of HT_.out (by kernel_rfl)) ?_
                      have hcz24_0 : w21.cell? ⟨gb105, 0, none⟩ = some (.int .i64 ((rd_T41 y101 x23_1).f0)) := (blk_cell BK105.out 0).trans rfl
                      have hcz24_1 : w21.cell? ⟨gb105, 1, none⟩ = some (.int .i64 ((rd_T41 y101 x23_1).f1)) := (blk_cell BK105.out 1).trans rfl
                      have hcz24_2 : w21.cell? ⟨gb105, 2, none⟩ = some (.int .i64 ((rd_T41 y101 x23_1).f2)) := (blk_cell BK105.out 2).trans rfl
                      have hcz24_3 : w21.cell? ⟨gb105, 3, none⟩ = some (.int .i64 ((rd_T41 y101 x23_1).f3)) := (blk_cell BK105.out 3).trans rfl
                      have hcz24_4 : w21.cell? ⟨gb105, 4, none⟩ = some (.int .i64 ((rd_T41 y101 x23_1).f4)) := (blk_cell BK105.out 4).trans rfl
                      have hcz24_5 : w21.cell? ⟨gb105, 5, none⟩ = some (.int .i64 ((rd_T41 y101 x23_1).f5)) := (blk_cell BK105.out 5).trans rfl
                      have hfz24_0 := blk_frozen BK105.out 0
                      have hfz24_1 := blk_frozen BK105.out 1
                      have hfz24_2 := blk_frozen BK105.out 2
                      have hfz24_3 := blk_frozen BK105.out 3
                      have hfz24_4 := blk_frozen BK105.out 4
                      have hfz24_5 := blk_frozen BK105.out 5
                      try go_wp2_with (first | ((with_reducible refine gate_builtin (b := .append) (xs := #[.tmp 61, .tmp 63]) rfl ?_); at_builtin; refine Kd.R_append k41 (w0 := w) w.heap.size rfl (.tmp 61) (.tmp 63) 38 41 (.agg #[(.int .i64 0), (.int .i64 0), (.int .i64 0), (.int .i64 0), (.int .i64 0), (.int .i64 0)]) 48 rfl Try.underlying38 info41 rfl (by decide) (by omega) u5 x5_1 (⟨(rd_T41 y101 x23_1).f0, (rd_T41 y101 x23_1).f1, (rd_T41 y101 x23_1).f2, (rd_T41 y101 x23_1).f3, wrap64 (Int.tdiv (wrap64 ((wrap64 ((wrap64 (ji4 - ((rd_T41 y101 x23_1).f0))) + ((rd_T41 y101 x23_1).f2))) - 1)) ((rd_T41 y101 x23_1).f2)), wrap64 (Int.tdiv (wrap64 ((wrap64 ((wrap64 (ji6 - ((rd_T41 y101 x23_1).f1))) + ((rd_T41 y101 x23_1).f3))) - 1)) ((rd_T41 y101 x23_1).f3))⟩ : S41) [.int .i64 ((rd_T41 y101 x23_1).f0), .int .i64 ((rd_T41 y101 x23_1).f1), .int .i64 ((rd_T41 y101 x23_1).f2), .int .i64 ((rd_T41 y101 x23_1).f3), .int .i64 (wrap64 (Int.tdiv (wrap64 ((wrap64 ((wrap64 (ji4 - ((rd_T41 y101 x23_1).f0))) + ((rd_T41 y101 x23_1).f2))) - 1)) ((rd_T41 y101 x23_1).f2))), .int .i64 (wrap64 (Int.tdiv (wrap64 ((wrap64 ((wrap64 (ji6 - ((rd_T41 y101 x23_1).f1))) + ((rd_T41 y101 x23_1).f3))) - 1)) ((rd_T41 y101 x23_1).f3)))] (fun k_ => some k_ ≠ (.slice (some ad104) y101.length co9 : Value).ownBlock ∧ k_ ≠ gb105) (fun _ => False) rfl (by first | (go_simp; done) | (go_simp; rfl)) ?aP (fun _ hk => hk.elim) ?aF ?aO ?aB ?aS ?aL ?_; (case aP => exact k41_mkM _ _ _ (⟨(rd_T41 y101 x23_1).f0, (rd_T41 y101 x23_1).f1, (rd_T41 y101 x23_1).f2, (rd_T41 y101 x23_1).f3, wrap64 (Int.tdiv (wrap64 ((wrap64 ((wrap64 (ji4 - ((rd_T41 y101 x23_1).f0))) + ((rd_T41 y101 x23_1).f2))) - 1)) ((rd_T41 y101 x23_1).f2)), wrap64 (Int.tdiv (wrap64 ((wrap64 ((wrap64 (ji6 - ((rd_T41 y101 x23_1).f1))) + ((rd_T41 y101 x23_1).f3))) - 1)) ((rd_T41 y101 x23_1).f3))⟩ : S41)); (case aB => exact (by repeat (first | (with_reducible first | exact HB.out | apply below_alloc | apply pw_below_drewN | apply below_drew1 | refine below_set ?_ GE105.out) | exact HB.out))); (case aF => exact (fun k_ hk => ⟨Kd.fresh' (Kd.R_lt (by (with_reducible repeat (first | apply Kd.R_alloc | apply Kd.R_drewN | apply Kd.R_drew)); exact (Kd.R_mono (Kd.R_far (p := ⟨gb105, 5, none⟩) (Kd.R_far (p := ⟨gb105, 4, none⟩) (Kd.R_mono HO_21.out (fun k_ hk => (⟨hk, hk.2⟩ : _ ∧ k_ ≠ gb105))) (fun _ hk => hk.2) (.int .i64 (wrap64 (Int.tdiv (wrap64 ((wrap64 ((wrap64 (ji4 - ((rd_T41 y101 x23_1).f0))) + ((rd_T41 y101 x23_1).f2))) - 1)) ((rd_T41 y101 x23_1).f2))))) (fun _ hk => hk.2) (.int .i64 (wrap64 (Int.tdiv (wrap64 ((wrap64 ((wrap64 (ji6 - ((rd_T41 y101 x23_1).f1))) + ((rd_T41 y101 x23_1).f3))) - 1)) ((rd_T41 y101 x23_1).f3))))) (fun _ h_ => h_.1)))) k_ hk, Kd.freshB (g := gb105) (o := .cells #[.int .i64 ((rd_T41 y101 x23_1).f0), .int .i64 ((rd_T41 y101 x23_1).f1), .int .i64 ((rd_T41 y101 x23_1).f2), .int .i64 ((rd_T41 y101 x23_1).f3), .int .i64 (wrap64 (Int.tdiv (wrap64 ((wrap64 ((wrap64 (ji4 - ((rd_T41 y101 x23_1).f0))) + ((rd_T41 y101 x23_1).f2))) - 1)) ((rd_T41 y101 x23_1).f2))), .int .i64 (wrap64 (Int.tdiv (wrap64 ((wrap64 ((wrap64 (ji6 - ((rd_T41 y101 x23_1).f1))) + ((rd_T41 y101 x23_1).f3))) - 1)) ((rd_T41 y101 x23_1).f3)))] 41 (0, 0)) (by (with_reducible repeat (first | refine blk_drewN ?_ _ | refine blk_drew ?_ | refine blk_alloc ?_ _)); refine blk_put (cs := #[.int .i64 ((rd_T41 y101 x23_1).f0), .int .i64 ((rd_T41 y101 x23_1).f1), .int .i64 ((rd_T41 y101 x23_1).f2), .int .i64 ((rd_T41 y101 x23_1).f3), .int .i64 (wrap64 (Int.tdiv (wrap64 ((wrap64 ((wrap64 (ji4 - ((rd_T41 y101 x23_1).f0))) + ((rd_T41 y101 x23_1).f2))) - 1)) ((rd_T41 y101 x23_1).f2))), .int .i64 ((rd_T41 y101 x23_1).f5)]) ?_ 5 _ rfl; (with_reducible repeat (first | refine blk_drewN ?_ _ | refine blk_drew ?_ | refine blk_alloc ?_ _)); refine blk_put (cs := #[.int .i64 ((rd_T41 y101 x23_1).f0), .int .i64 ((rd_T41 y101 x23_1).f1), .int .i64 ((rd_T41 y101 x23_1).f2), .int .i64 ((rd_T41 y101 x23_1).f3), .int .i64 ((rd_T41 y101 x23_1).f4), .int .i64 ((rd_T41 y101 x23_1).f5)]) ?_ 4 _ rfl; (with_reducible repeat (first | refine blk_drewN ?_ _ | refine blk_drew ?_ | refine blk_alloc ?_ _)); exact BK105.out) k_ hk⟩)); (case aO => exact (by (with_reducible repeat (first | apply Kd.R_alloc | apply Kd.R_drewN | apply Kd.R_drew)); exact Kd.R_mono (Kd.R_far (p := ⟨gb105, 5, none⟩) (Kd.R_far (p := ⟨gb105, 4, none⟩) (Kd.R_mono HO_5.out (fun k_ hk => (⟨hk, hk.2⟩ : _ ∧ k_ ≠ gb105))) (fun _ hk => hk.2) (.int .i64 (wrap64 (Int.tdiv (wrap64 ((wrap64 ((wrap64 (ji4 - ((rd_T41 y101 x23_1).f0))) + ((rd_T41 y101 x23_1).f2))) - 1)) ((rd_T41 y101 x23_1).f2))))) (fun _ hk => hk.2) (.int .i64 (wrap64 (Int.tdiv (wrap64 ((wrap64 ((wrap64 (ji6 - ((rd_T41 y101 x23_1).f1))) + ((rd_T41 y101 x23_1).f3))) - 1)) ((rd_T41 y101 x23_1).f3))))) (fun _ hk => ⟨hk.1.1, hk.1.2⟩))); (case aS => exact (below_size (by repeat (first | (with_reducible first | exact HB.out | apply below_alloc | apply pw_below_drewN | apply below_drew1 | refine below_set ?_ GE105.out) | exact HB.out)))); (case aL => have := LMc17.out; omega); intro v107 w25 ho hb hg hat; rw [← Ny106.out] at ho; have n0_ := Aside0.mk (Kd.R_after (ok := (fun k_ => k_ ≠ gb105)) (by (with_reducible repeat (first | apply Kd.R_alloc | apply Kd.R_drewN | apply Kd.R_drew)); exact Kd.R_mono (Kd.R_far (p := ⟨gb105, 5, none⟩) (Kd.R_far (p := ⟨gb105, 4, none⟩) (Kd.R_mono HO_21.out (fun k_ hk => (⟨hk, hk.2⟩ : _ ∧ k_ ≠ gb105))) (fun _ hk => hk.2) (.int .i64 (wrap64 (Int.tdiv (wrap64 ((wrap64 ((wrap64 (ji4 - ((rd_T41 y101 x23_1).f0))) + ((rd_T41 y101 x23_1).f2))) - 1)) ((rd_T41 y101 x23_1).f2))))) (fun _ hk => hk.2) (.int .i64 (wrap64 (Int.tdiv (wrap64 ((wrap64 ((wrap64 (ji6 - ((rd_T41 y101 x23_1).f1))) + ((rd_T41 y101 x23_1).f3))) - 1)) ((rd_T41 y101 x23_1).f3))))) (fun _ hk => ⟨hk.1.2, hk.1.1⟩)) hg hat); have n1_ := Aside0.mk (blk_grown (g := gb105) (o := .cells #[.int .i64 ((rd_T41 y101 x23_1).f0), .int .i64 ((rd_T41 y101 x23_1).f1), .int .i64 ((rd_T41 y101 x23_1).f2), .int .i64 ((rd_T41 y101 x23_1).f3), .int .i64 (wrap64 (Int.tdiv (wrap64 ((wrap64 ((wrap64 (ji4 - ((rd_T41 y101 x23_1).f0))) + ((rd_T41 y101 x23_1).f2))) - 1)) ((rd_T41 y101 x23_1).f2))), .int .i64 (wrap64 (Int.tdiv (wrap64 ((wrap64 ((wrap64 (ji6 - ((rd_T41 y101 x23_1).f1))) + ((rd_T41 y101 x23_1).f3))) - 1)) ((rd_T41 y101 x23_1).f3)))] 41 (0, 0)) (by (with_reducible repeat (first | refine blk_drewN ?_ _ | refine blk_drew ?_ | refine blk_alloc ?_ _)); refine blk_put (cs := #[.int .i64 ((rd_T41 y101 x23_1).f0), .int .i64 ((rd_T41 y101 x23_1).f1), .int .i64 ((rd_T41 y101 x23_1).f2), .int .i64 ((rd_T41 y101 x23_1).f3), .int .i64 (wrap64 (Int.tdiv (wrap64 ((wrap64 ((wrap64 (ji4 - ((rd_T41 y101 x23_1).f0))) + ((rd_T41 y101 x23_1).f2))) - 1)) ((rd_T41 y101 x23_1).f2))), .int .i64 ((rd_T41 y101 x23_1).f5)]) ?_ 5 _ rfl; (with_reducible repeat (first | refine blk_drewN ?_ _ | refine blk_drew ?_ | refine blk_alloc ?_ _)); refine blk_put (cs := #[.int .i64 ((rd_T41 y101 x23_1).f0), .int .i64 ((rd_T41 y101 x23_1).f1), .int .i64 ((rd_T41 y101 x23_1).f2), .int .i64 ((rd_T41 y101 x23_1).f3), .int .i64 ((rd_T41 y101 x23_1).f4), .int .i64 ((rd_T41 y101 x23_1).f5)]) ?_ 4 _ rfl; (with_reducible repeat (first | refine blk_drewN ?_ _ | refine blk_drew ?_ | refine blk_alloc ?_ _)); exact BK105.out) hg (Kd.R_away HO_5.out (fun _ hk => hk.2))); have n2_ := Aside0.mk (hb); have n3_ := Aside0.mk (ho); clear HO_21; clear BK105; clear HB; clear HO_5; have HO_21 := n0_; have BK105 := n1_; have HB := n2_; have HO108 := n3_; clear n0_ n1_ n2_ n3_; clear ho hb hg hat))
                      go_roundg k1
                      case measure => have := HK1.out; omega
                      case rel => exact ⟨(y106), (wrap64 (x23_1 + 1)), (by first | rfl | (simp; done) | (simp [*]; done)), H', ⟨by have := HK1.out; omega⟩, ⟨by (with_reducible repeat (first | apply Kd.R_alloc | apply Kd.R_drewN | apply Kd.R_drew)); exact Kd.R_mono HO108.out (fun _ hk => hk.1)⟩, ⟨by (with_reducible repeat (first | apply Kd.R_alloc | apply Kd.R_drewN | apply Kd.R_drew)); exact Kd.R_mono HO_21.out (fun _ hk => hk.2)⟩, ⟨by repeat (first | (with_reducible first | exact HB.out | apply below_alloc | apply pw_below_drewN | apply below_drew1 | refine below_set ?_ GE105.out) | exact HB.out)⟩⟩
                    · rw [if_neg c17] at H
                      exact absurd H (by simp)
                  · rw [if_neg c16] at H
                    have c16b0 : decide (((rd_T41 y101 x23_1).f1) < ji6) = false := decide_eq_false c16
                    clear c16
                    have H' := Aside0.mk H
                    clear H
                    have p104 : 0 ≤ (x23_1 : Int) := of_decide_eq_true (by first | (with_reducible assumption) | assumption)
                    have q104 : x23_1 < (y101.length : Int) := of_decide_eq_true (by first | (with_reducible assumption) | assumption)
                    obtain ⟨ad104, e104, hx104_0, hx104_1, hx104_2, hx104_3, hx104_4, hx104_5⟩ := at_T41 (Kd.R_reads' HO_21.out).2.2 x23_1 p104 q104
                    cases e104
                    replace p104 := eq_true p104
                    replace q104 := eq_true q104
                    try go_wp2_with (first | ((with_reducible refine gate_dst (N := 7) rfl ?_); refine box_event ?hg (N := 7) ?hd (cs := #[.int .i64 0, .int .i64 0, .int .i64 0, .int .i64 0, .int .i64 0, .int .i64 0]) (t := 41) ?hr ?_; (case hd => rfl); (case hg => rfl); (case hr => first | (go_simp; done) | (go_simp; rfl)); intro gb105 hg w26 hbox hb; have n0_ := Aside0.mk (Kd.R_below (Kd.R_elderB (by (with_reducible repeat (first | apply Kd.R_alloc | apply Kd.R_drewN | apply Kd.R_drew)); exact HO_5.out) gb105 (Nat.le_of_eq hg.symm)) hb); have n1_ := Aside0.mk (Kd.R_below (Kd.R_elderB (by (with_reducible repeat (first | apply Kd.R_alloc | apply Kd.R_drewN | apply Kd.R_drew)); exact HO_21.out) gb105 (Nat.le_of_eq hg.symm)) hb); have n2_ := Aside0.mk (below_step (by repeat (first | (with_reducible first | exact HB.out | apply below_alloc | apply pw_below_drewN | apply below_drew1) | exact HB.out)) hb); have n3_ := Aside0.mk (hbox); have n4_ := Aside0.mk ((by rw [hg]; exact (below_size (by repeat (first | (with_reducible first | exact HB.out | apply below_alloc | apply pw_below_drewN | apply below_drew1) | exact HB.out))) : w.heap.size ≤ gb105)); have n5_ := Aside0.mk ((by rw [hg]; exact (below_size (by repeat (first | (with_reducible first | exact HB.out | apply below_alloc | apply pw_below_drewN | apply below_drew1) | exact HB.out))) : w.heap.size ≤ gb105)); clear HO_5; clear HO_21; clear HB; have HO_5 := n0_; have HO_21 := n1_; have HB := n2_; have BK105 := n3_; have GW105 := n4_; have GE105 := n5_; clear n0_ n1_ n2_ n3_ n4_ n5_; clear hb hbox hg; have hcz27_0 : w26.cell? ⟨gb105, 0, none⟩ = some (.int .i64 0) := (blk_cell BK105.out 0).trans rfl; have hcz27_1 : w26.cell? ⟨gb105, 1, none⟩ = some (.int .i64 0) := (blk_cell BK105.out 1).trans rfl; have hcz27_2 : w26.cell? ⟨gb105, 2, none⟩ = some (.int .i64 0) := (blk_cell BK105.out 2).trans rfl; have hcz27_3 : w26.cell? ⟨gb105, 3, none⟩ = some (.int .i64 0) := (blk_cell BK105.out 3).trans rfl; have hcz27_4 : w26.cell? ⟨gb105, 4, none⟩ = some (.int .i64 0) := (blk_cell BK105.out 4).trans rfl; have hcz27_5 : w26.cell? ⟨gb105, 5, none⟩ = some (.int .i64 0) := (blk_cell BK105.out 5).trans rfl; have hfz27_0 := blk_frozen BK105.out 0; have hfz27_1 := blk_frozen BK105.out 1; have hfz27_2 := blk_frozen BK105.out 2; have hfz27_3 := blk_frozen BK105.out 3; have hfz27_4 := blk_frozen BK105.out 4; have hfz27_5 := blk_frozen BK105.out 5))
                    have n0_ : Aside0 (Kd.R k41 41 ((((((w26.setCell ⟨gb105, 0, none⟩ (.int .i64 ((rd_T41 y101 x23_1).f0))).setCell ⟨gb105, 1, none⟩ (.int .i64 ((rd_T41 y101 x23_1).f1))).setCell ⟨gb105, 2, none⟩ (.int .i64 ((rd_T41 y101 x23_1).f2))).setCell ⟨gb105, 3, none⟩ (.int .i64 ((rd_T41 y101 x23_1).f3))).setCell ⟨gb105, 4, none⟩ (.int .i64 ((rd_T41 y101 x23_1).f4))).setCell ⟨gb105, 5, none⟩ (.int .i64 ((rd_T41 y101 x23_1).f5))) w.heap.size (fun k_ => some k_ ≠ (.slice (some ad104) y101.length co9 : Value).ownBlock ∧ k_ ≠ gb105) u5 x5_1) := ⟨by (with_reducible repeat (first | apply Kd.R_alloc | apply Kd.R_drewN | apply Kd.R_drew)); exact Kd.R_mono (Kd.R_far (p := ⟨gb105, 5, none⟩) (Kd.R_far (p := ⟨gb105, 4, none⟩) (Kd.R_far (p := ⟨gb105, 3, none⟩) (Kd.R_far (p := ⟨gb105, 2, none⟩) (Kd.R_far (p := ⟨gb105, 1, none⟩) (Kd.R_far (p := ⟨gb105, 0, none⟩) (Kd.R_mono HO_5.out (fun k_ hk => (⟨hk, hk.2⟩ : _ ∧ k_ ≠ gb105))) (fun _ hk => hk.2) (.int .i64 ((rd_T41 y101 x23_1).f0))) (fun _ hk => hk.2) (.int .i64 ((rd_T41 y101 x23_1).f1))) (fun _ hk => hk.2) (.int .i64 ((rd_T41 y101 x23_1).f2))) (fun _ hk => hk.2) (.int .i64 ((rd_T41 y101 x23_1).f3))) (fun _ hk => hk.2) (.int .i64 ((rd_T41 y101 x23_1).f4))) (fun _ hk => hk.2) (.int .i64 ((rd_T41 y101 x23_1).f5))) (fun _ hk => ⟨hk.1.1, hk.1.2⟩)⟩
                    have n1_ : Aside0 (Kd.R k41 41 ((((((w26.setCell ⟨gb105, 0, none⟩ (.int .i64 ((rd_T41 y101 x23_1).f0))).setCell ⟨gb105, 1, none⟩ (.int .i64 ((rd_T41 y101 x23_1).f1))).setCell ⟨gb105, 2, none⟩ (.int .i64 ((rd_T41 y101 x23_1).f2))).setCell ⟨gb105, 3, none⟩ (.int .i64 ((rd_T41 y101 x23_1).f3))).setCell ⟨gb105, 4, none⟩ (.int .i64 ((rd_T41 y101 x23_1).f4))).setCell ⟨gb105, 5, none⟩ (.int .i64 ((rd_T41 y101 x23_1).f5))) w.heap.size (fun k_ => some k_ ≠ (u5 : Value).ownBlock ∧ k_ ≠ gb105) (.slice (some ad104) y101.length co9) y101) := ⟨by (with_reducible repeat (first | apply Kd.R_alloc | apply Kd.R_drewN | apply Kd.R_drew)); exact Kd.R_mono (Kd.R_far (p := ⟨gb105, 5, none⟩) (Kd.R_far (p := ⟨gb105, 4, none⟩) (Kd.R_far (p := ⟨gb105, 3, none⟩) (Kd.R_far (p := ⟨gb105, 2, none⟩) (Kd.R_far (p := ⟨gb105, 1, none⟩) (Kd.R_far (p := ⟨gb105, 0, none⟩) (Kd.R_mono HO_21.out (fun k_ hk => (⟨hk, hk.2⟩ : _ ∧ k_ ≠ gb105))) (fun _ hk => hk.2) (.int .i64 ((rd_T41 y101 x23_1).f0))) (fun _ hk => hk.2) (.int .i64 ((rd_T41 y101 x23_1).f1))) (fun _ hk => hk.2) (.int .i64 ((rd_T41 y101 x23_1).f2))) (fun _ hk => hk.2) (.int .i64 ((rd_T41 y101 x23_1).f3))) (fun _ hk => hk.2) (.int .i64 ((rd_T41 y101 x23_1).f4))) (fun _ hk => hk.2) (.int .i64 ((rd_T41 y101 x23_1).f5))) (fun _ hk => ⟨hk.1.1, hk.1.2⟩)⟩
                    have n2_ : Aside0 (((((((w26.setCell ⟨gb105, 0, none⟩ (.int .i64 ((rd_T41 y101 x23_1).f0))).setCell ⟨gb105, 1, none⟩ (.int .i64 ((rd_T41 y101 x23_1).f1))).setCell ⟨gb105, 2, none⟩ (.int .i64 ((rd_T41 y101 x23_1).f2))).setCell ⟨gb105, 3, none⟩ (.int .i64 ((rd_T41 y101 x23_1).f3))).setCell ⟨gb105, 4, none⟩ (.int .i64 ((rd_T41 y101 x23_1).f4))).setCell ⟨gb105, 5, none⟩ (.int .i64 ((rd_T41 y101 x23_1).f5))).heap[gb105]? = some (.cells #[.int .i64 ((rd_T41 y101 x23_1).f0), .int .i64 ((rd_T41 y101 x23_1).f1), .int .i64 ((rd_T41 y101 x23_1).f2), .int .i64 ((rd_T41 y101 x23_1).f3), .int .i64 ((rd_T41 y101 x23_1).f4), .int .i64 ((rd_T41 y101 x23_1).f5)] 41 (0, 0))) := ⟨by (with_reducible repeat (first | refine blk_drewN ?_ _ | refine blk_drew ?_ | refine blk_alloc ?_ _)); refine blk_put (cs := #[.int .i64 ((rd_T41 y101 x23_1).f0), .int .i64 ((rd_T41 y101 x23_1).f1), .int .i64 ((rd_T41 y101 x23_1).f2), .int .i64 ((rd_T41 y101 x23_1).f3), .int .i64 ((rd_T41 y101 x23_1).f4), .int .i64 0]) ?_ 5 _ rfl; (with_reducible repeat (first | refine blk_drewN ?_ _ | refine blk_drew ?_ | refine blk_alloc ?_ _)); refine blk_put (cs := #[.int .i64 ((rd_T41 y101 x23_1).f0), .int .i64 ((rd_T41 y101 x23_1).f1), .int .i64 ((rd_T41 y101 x23_1).f2), .int .i64 ((rd_T41 y101 x23_1).f3), .int .i64 0, .int .i64 0]) ?_ 4 _ rfl; (with_reducible repeat (first | refine blk_drewN ?_ _ | refine blk_drew ?_ | refine blk_alloc ?_ _)); refine blk_put (cs := #[.int .i64 ((rd_T41 y101 x23_1).f0), .int .i64 ((rd_T41 y101 x23_1).f1), .int .i64 ((rd_T41 y101 x23_1).f2), .int .i64 0, .int .i64 0, .int .i64 0]) ?_ 3 _ rfl; (with_reducible repeat (first | refine blk_drewN ?_ _ | refine blk_drew ?_ | refine blk_alloc ?_ _)); refine blk_put (cs := #[.int .i64 ((rd_T41 y101 x23_1).f0), .int .i64 ((rd_T41 y101 x23_1).f1), .int .i64 0, .int .i64 0, .int .i64 0, .int .i64 0]) ?_ 2 _ rfl; (with_reducible repeat (first | refine blk_drewN ?_ _ | refine blk_drew ?_ | refine blk_alloc ?_ _)); refine blk_put (cs := #[.int .i64 ((rd_T41 y101 x23_1).f0), .int .i64 0, .int .i64 0, .int .i64 0, .int .i64 0, .int .i64 0]) ?_ 1 _ rfl; (with_reducible repeat (first | refine blk_drewN ?_ _ | refine blk_drew ?_ | refine blk_alloc ?_ _)); refine blk_put (cs := #[.int .i64 0, .int .i64 0, .int .i64 0, .int .i64 0, .int .i64 0, .int .i64 0]) ?_ 0 _ rfl; (with_reducible repeat (first | refine blk_drewN ?_ _ | refine blk_drew ?_ | refine blk_alloc ?_ _)); exact BK105.out⟩
                    have n3_ : Aside0 (Below w.heap.size w ((((((w26.setCell ⟨gb105, 0, none⟩ (.int .i64 ((rd_T41 y101 x23_1).f0))).setCell ⟨gb105, 1, none⟩ (.int .i64 ((rd_T41 y101 x23_1).f1))).setCell ⟨gb105, 2, none⟩ (.int .i64 ((rd_T41 y101 x23_1).f2))).setCell ⟨gb105, 3, none⟩ (.int .i64 ((rd_T41 y101 x23_1).f3))).setCell ⟨gb105, 4, none⟩ (.int .i64 ((rd_T41 y101 x23_1).f4))).setCell ⟨gb105, 5, none⟩ (.int .i64 ((rd_T41 y101 x23_1).f5)))) := ⟨by repeat (first | (with_reducible first | exact HB.out | apply below_alloc | apply pw_below_drewN | apply below_drew1 | refine below_set ?_ GE105.out) | exact HB.out)⟩
                    (try clear HO_5)
                    (try clear HO_21)
                    (try clear BK105)
                    (try clear HB)
                    generalize ((((((w26.setCell ⟨gb105, 0, none⟩ (.int .i64 ((rd_T41 y101 x23_1).f0))).setCell ⟨gb105, 1, none⟩ (.int .i64 ((rd_T41 y101 x23_1).f1))).setCell ⟨gb105, 2, none⟩ (.int .i64 ((rd_T41 y101 x23_1).f2))).setCell ⟨gb105, 3, none⟩ (.int .i64 ((rd_T41 y101 x23_1).f3))).setCell ⟨gb105, 4, none⟩ (.int .i64 ((rd_T41 y101 x23_1).f4))).setCell ⟨gb105, 5, none⟩ (.int .i64 ((rd_T41 y101 x23_1).f5))) = w28 at n0_ n1_ n2_ n3_ ⊢
                    have HO_5 := n0_
                    have HO_21 := n1_
                    have BK105 := n2_
                    have HB := n3_
                    clear n0_ n1_ n2_ n3_
                    have n0_ := Aside0.mk (Kd.R_drew HO_5.out)
                    have n1_ := Aside0.mk (Kd.R_drew HO_21.out)
                    have n2_ := Aside0.mk (blk_drew BK105.out)
                    have n3_ := Aside0.mk (below_drew1 HB.out)
                    clear HO_5
                    clear HO_21
                    clear BK105
                    clear HB
                    have HO_5 := n0_
                    have HO_21 := n1_
                    have BK105 := n2_
                    have HB := n3_
                    clear n0_ n1_ n2_ n3_
                    refine start_ (n := 26) (S := fun w' => w'.cell? ⟨gb105, 0, none⟩ = some (.int .i64 ((rd_T41 y101 x23_1).f0)) ∧ w'.cell? ⟨gb105, 1, none⟩ = some (.int .i64 ((rd_T41 y101 x23_1).f1)) ∧ w'.cell? ⟨gb105, 2, none⟩ = some (.int .i64 ((rd_T41 y101 x23_1).f2)) ∧ w'.cell? ⟨gb105, 3, none⟩ = some (.int .i64 ((rd_T41 y101 x23_1).f3)) ∧ w'.cell? ⟨gb105, 4, none⟩ = some (.int .i64 ((rd_T41 y101 x23_1).f4)) ∧ w'.cell? ⟨gb105, 5, none⟩ = some (.int .i64 ((rd_T41 y101 x23_1).f5))) (ds := [23, 25]) #[false, false, false, false, false, false, false, false, false, false, false, false, false, false, false, false, false, false, false, false, false, false, false, false, false, false] (by kernel_rfl) rfl rfl ⟨(blk_cell BK105.out 0).trans rfl, (blk_cell BK105.out 1).trans rfl, (blk_cell BK105.out 2).trans rfl, (blk_cell BK105.out 3).trans rfl, (blk_cell BK105.out 4).trans rfl, (blk_cell BK105.out 5).trans rfl⟩ (fun hHeld => ?_); refine with_tabW rows_Passes.tab6 rows_Passes.bits6 (fun HT_ HW_ => ?_)
                    generalize w28.drew = w29 at HO_5 HO_21 BK105 HB hHeld ⊢
                    refine pure_ (i := 0) (N := some 27) (v := ?_) (a' := ?_) #[true, false, false, false, false, false, false, false, false, false, false, false, false, false, false, false, false, false, false, false, false, false, false, false, false, false] rfl rfl (any_of HT_.out (by kernel_rfl)) (fun _ _ _ h => h) (Or.inl ⟨by rfl, ?_⟩) ?_ ?_
                    rotate_left
                    · intro w'
                      go_simp
                      with_reducible rfl
                    rotate_left
                    · simp only [Act.put, List.setIfInBounds_toArray, List.set_cons_zero, List.set_cons_succ, i64_w, i32_w]
                      rfl
                    refine pure_ (i := 1) (N := some 28) (v := ?_) (a' := ?_) #[true, true, false, false, false, false, false, false, false, false, false, false, false, false, false, false, false, false, false, false, false, false, false, false, false, false] rfl rfl (any_of HT_.out (by kernel_rfl)) (fun _ _ _ h => h) (Or.inl ⟨by rfl, ?_⟩) ?_ ?_
                    rotate_left
                    · intro w'
                      go_simp
                      with_reducible rfl
                    rotate_left
                    · simp only [Act.put, List.setIfInBounds_toArray, List.set_cons_zero, List.set_cons_succ, i64_w, i32_w]
                      rfl
                    refine pure_ (i := 4) (N := some 31) (v := ?_) (a' := ?_) #[true, true, false, false, true, false, false, false, false, false, false, false, false, false, false, false, false, false, false, false, false, false, false, false, false, false] rfl rfl (any_of HT_.out (by kernel_rfl)) (fun _ _ _ h => h) (Or.inl ⟨by rfl, ?_⟩) ?_ ?_
                    rotate_left
                    · intro w'
                      go_simp
                      with_reducible rfl
                    rotate_left
                    · simp only [Act.put, List.setIfInBounds_toArray, List.set_cons_zero, List.set_cons_succ, i64_w, i32_w]
                      rfl
                    refine pure_ (i := 8) (N := some 35) (v := ?_) (a' := ?_) #[true, true, false, false, true, false, false, false, true, false, false, false, false, false, false, false, false, false, false, false, false, false, false, false, false, false] rfl rfl (any_of HT_.out (by kernel_rfl)) (fun _ _ _ h => h) (Or.inl ⟨by rfl, ?_⟩) ?_ ?_
                    rotate_left
                    · intro w'
                      go_simp
                      with_reducible rfl
                    rotate_left
                    · simp only [Act.put, List.setIfInBounds_toArray, List.set_cons_zero, List.set_cons_succ, i64_w, i32_w]
                      rfl
                    refine pure_ (i := 11) (N := some 38) (v := ?_) (a' := ?_) #[true, true, false, false, true, false, false, false, true, false, false, true, false, false, false, false, false, false, false, false, false, false, false, false, false, false] rfl rfl (any_of HT_.out (by kernel_rfl)) (fun _ _ _ h => h) (Or.inl ⟨by rfl, ?_⟩) ?_ ?_
                    rotate_left
                    · intro w'
                      go_simp
                      with_reducible rfl
                    rotate_left
                    · simp only [Act.put, List.setIfInBounds_toArray, List.set_cons_zero, List.set_cons_succ, i64_w, i32_w]
                      rfl
                    refine pure_ (i := 12) (N := some 39) (v := ?_) (a' := ?_) #[true, true, false, false, true, false, false, false, true, false, false, true, true, false, false, false, false, false, false, false, false, false, false, false, false, false] rfl rfl (any_of HT_.out (by kernel_rfl)) (fun _ _ _ h => h) (Or.inl ⟨by rfl, ?_⟩) ?_ ?_
                    rotate_left
                    · intro w'
                      go_simp
                      with_reducible rfl
                    rotate_left
                    · simp only [Act.put, List.setIfInBounds_toArray, List.set_cons_zero, List.set_cons_succ, i64_w, i32_w]
                      rfl
                    refine pure_ (i := 15) (N := some 42) (v := ?_) (a' := ?_) #[true, true, false, false, true, false, false, false, true, false, false, true, true, false, false, true, false, false, false, false, false, false, false, false, false, false] rfl rfl (any_of HT_.out (by kernel_rfl)) (fun _ _ _ h => h) (Or.inl ⟨by rfl, ?_⟩) ?_ ?_
                    rotate_left
                    · intro w'
                      go_simp
                      with_reducible rfl
                    rotate_left
                    · simp only [Act.put, List.setIfInBounds_toArray, List.set_cons_zero, List.set_cons_succ, i64_w, i32_w]
                      rfl
                    refine pure_ (i := 19) (N := some 46) (v := ?_) (a' := ?_) #[true, true, false, false, true, false, false, false, true, false, false, true, true, false, false, true, false, false, false, true, false, false, false, false, false, false] rfl rfl (any_of HT_.out (by kernel_rfl)) (fun _ _ _ h => h) (Or.inl ⟨by rfl, ?_⟩) ?_ ?_
                    rotate_left
                    · intro w'
                      go_simp
                      with_reducible rfl
                    rotate_left
                    · simp only [Act.put, List.setIfInBounds_toArray, List.set_cons_zero, List.set_cons_succ, i64_w, i32_w]
                      rfl
                    refine take_ (i := 2) (N := some 29) (v := ?_) (a' := ?_) #[true, true, true, false, true, false, false, false, true, false, false, true, true, false, false, true, false, false, false, true, false, false, false, false, false, false] rfl rfl (take_ofW HT_.out HW_.out (by kernel_rfl)) (fun _ _ _ h => h) (Or.inl ⟨by rfl, ?_⟩) hHeld ?_ ?_
                    rotate_left
                    · rintro w' ⟨s0, s1, s2, s3, s4, s5⟩
                      go_simp
                      with_reducible rfl
                    rotate_left
                    · simp only [Act.put, List.setIfInBounds_toArray, List.set_cons_zero, List.set_cons_succ, i64_w, i32_w]
                      rfl
                    refine pure_ (i := 3) (N := some 30) (v := ?_) (a' := ?_) #[true, true, true, true, true, false, false, false, true, false, false, true, true, false, false, true, false, false, false, true, false, false, false, false, false, false] rfl rfl (any_of HT_.out (by kernel_rfl)) (fun _ _ _ h => h) (Or.inl ⟨by rfl, ?_⟩) ?_ ?_
                    rotate_left
                    · intro w'
                      go_simp
                      with_reducible rfl
                    rotate_left
                    · simp only [Act.put, List.setIfInBounds_toArray, List.set_cons_zero, List.set_cons_succ, i64_w, i32_w]
                      rfl
                    refine take_ (i := 5) (N := some 32) (v := ?_) (a' := ?_) #[true, true, true, true, true, true, false, false, true, false, false, true, true, false, false, true, false, false, false, true, false, false, false, false, false, false] rfl rfl (take_ofW HT_.out HW_.out (by kernel_rfl)) (fun _ _ _ h => h) (Or.inl ⟨by rfl, ?_⟩) hHeld ?_ ?_
                    rotate_left
                    · rintro w' ⟨s0, s1, s2, s3, s4, s5⟩
                      go_simp
                      with_reducible rfl
                    rotate_left
                    · simp only [Act.put, List.setIfInBounds_toArray, List.set_cons_zero, List.set_cons_succ, i64_w, i32_w]
                      rfl
                    refine pure_ (i := 6) (N := some 33) (v := ?_) (a' := ?_) #[true, true, true, true, true, true, true, false, true, false, false, true, true, false, false, true, false, false, false, true, false, false, false, false, false, false] rfl rfl (any_of HT_.out (by kernel_rfl)) (fun _ _ _ h => h) (Or.inl ⟨by rfl, ?_⟩) ?_ ?_
                    rotate_left
                    · intro w'
                      go_simp
                      with_reducible rfl
                    rotate_left
                    · simp only [Act.put, List.setIfInBounds_toArray, List.set_cons_zero, List.set_cons_succ, i64_w, i32_w]
                      rfl
                    refine pure_ (i := 7) (N := some 34) (v := ?_) (a' := ?_) #[true, true, true, true, true, true, true, true, true, false, false, true, true, false, false, true, false, false, false, true, false, false, false, false, false, false] rfl rfl (any_of HT_.out (by kernel_rfl)) (fun _ _ _ h => h) (Or.inl ⟨by rfl, ?_⟩) ?_ ?_
                    rotate_left
                    · intro w'
                      go_simp
                      with_reducible rfl
                    rotate_left
                    · simp only [Act.put, List.setIfInBounds_toArray, List.set_cons_zero, List.set_cons_succ, i64_w, i32_w]
                      rfl
                    refine take_ (i := 9) (N := some 36) (v := ?_) (a' := ?_) #[true, true, true, true, true, true, true, true, true, true, false, true, true, false, false, true, false, false, false, true, false, false, false, false, false, false] rfl rfl (take_ofW HT_.out HW_.out (by kernel_rfl)) (fun _ _ _ h => h) (Or.inl ⟨by rfl, ?_⟩) hHeld ?_ ?_
                    rotate_left
                    · rintro w' ⟨s0, s1, s2, s3, s4, s5⟩
                      go_simp
                      with_reducible rfl
                    rotate_left
                    · simp only [Act.put, List.setIfInBounds_toArray, List.set_cons_zero, List.set_cons_succ, i64_w, i32_w]
                      rfl
                    refine pure_ (i := 10) (N := some 37) (v := ?_) (a' := ?_) #[true, true, true, true, true, true, true, true, true, true, true, true, true, false, false, true, false, false, false, true, false, false, false, false, false, false] rfl rfl (any_of HT_.out (by kernel_rfl)) (fun _ _ _ h => h) (Or.inl ⟨by rfl, ?_⟩) ?_ ?_
                    rotate_left
                    · intro w'
                      go_simp
                      with_reducible rfl
                    rotate_left
                    · simp only [Act.put, List.setIfInBounds_toArray, List.set_cons_zero, List.set_cons_succ, i64_w, i32_w]
                      rfl
                    refine take_ (i := 13) (N := some 40) (v := ?_) (a' := ?_) #[true, true, true, true, true, true, true, true, true, true, true, true, true, true, false, true, false, false, false, true, false, false, false, false, false, false] rfl rfl (take_ofW HT_.out HW_.out (by kernel_rfl)) (fun _ _ _ h => h) (Or.inl ⟨by rfl, ?_⟩) hHeld ?_ ?_
                    rotate_left
                    · rintro w' ⟨s0, s1, s2, s3, s4, s5⟩
                      go_simp
                      with_reducible rfl
                    rotate_left
                    · simp only [Act.put, List.setIfInBounds_toArray, List.set_cons_zero, List.set_cons_succ, i64_w, i32_w]
                      rfl
                    refine pure_ (i := 14) (N := some 41) (v := ?_) (a' := ?_) #[true, true, true, true, true, true, true, true, true, true, true, true, true, true, true, true, false, false, false, true, false, false, false, false, false, false] rfl rfl (any_of HT_.out (by kernel_rfl)) (fun _ _ _ h => h) (Or.inl ⟨by rfl, ?_⟩) ?_ ?_
                    rotate_left
                    · intro w'
                      go_simp
                      with_reducible rfl
                    rotate_left
                    · simp only [Act.put, List.setIfInBounds_toArray, List.set_cons_zero, List.set_cons_succ, i64_w, i32_w]
                      rfl
                    refine take_ (i := 16) (N := some 43) (v := ?_) (a' := ?_) #[true, true, true, true, true, true, true, true, true, true, true, true, true, true, true, true, true, false, false, true, false, false, false, false, false, false] rfl rfl (take_ofW HT_.out HW_.out (by kernel_rfl)) (fun _ _ _ h => h) (Or.inl ⟨by rfl, ?_⟩) hHeld ?_ ?_
                    rotate_left
                    · rintro w' ⟨s0, s1, s2, s3, s4, s5⟩
                      go_simp
                      with_reducible rfl
                    rotate_left
                    · simp only [Act.put, List.setIfInBounds_toArray, List.set_cons_zero, List.set_cons_succ, i64_w, i32_w]
                      rfl
                    refine pure_ (i := 17) (N := some 44) (v := ?_) (a' := ?_) #[true, true, true, true, true, true, true, true, true, true, true, true, true, true, true, true, true, true, false, true, false, false, false, false, false, false] rfl rfl (any_of HT_.out (by kernel_rfl)) (fun _ _ _ h => h) (Or.inl ⟨by rfl, ?_⟩) ?_ ?_
                    rotate_left
                    · intro w'
                      go_simp
                      with_reducible rfl
                    rotate_left
                    · simp only [Act.put, List.setIfInBounds_toArray, List.set_cons_zero, List.set_cons_succ, i64_w, i32_w]
                      rfl
                    refine pure_ (i := 18) (N := some 45) (v := ?_) (a' := ?_) #[true, true, true, true, true, true, true, true, true, true, true, true, true, true, true, true, true, true, true, true, false, false, false, false, false, false] rfl rfl (any_of HT_.out (by kernel_rfl)) (fun _ _ _ h => h) (Or.inl ⟨by rfl, ?_⟩) ?_ ?_
                    rotate_left
                    · intro w'
                      go_simp
                      with_reducible rfl
                    rotate_left
                    · simp only [Act.put, List.setIfInBounds_toArray, List.set_cons_zero, List.set_cons_succ, i64_w, i32_w]
                      rfl
                    refine take_ (i := 20) (N := some 47) (v := ?_) (a' := ?_) #[true, true, true, true, true, true, true, true, true, true, true, true, true, true, true, true, true, true, true, true, true, false, false, false, false, false] rfl rfl (take_ofW HT_.out HW_.out (by kernel_rfl)) (fun _ _ _ h => h) (Or.inl ⟨by rfl, ?_⟩) hHeld ?_ ?_
                    rotate_left
                    · rintro w' ⟨s0, s1, s2, s3, s4, s5⟩
                      go_simp
                      with_reducible rfl
                    rotate_left
                    · simp only [Act.put, List.setIfInBounds_toArray, List.set_cons_zero, List.set_cons_succ, i64_w, i32_w]
                      rfl
                    refine pure_ (i := 21) (N := some 48) (v := ?_) (a' := ?_) #[true, true, true, true, true, true, true, true, true, true, true, true, true, true, true, true, true, true, true, true, true, true, false, false, false, false] rfl rfl (any_of HT_.out (by kernel_rfl)) (fun _ _ _ h => h) (Or.inl ⟨by rfl, ?_⟩) ?_ ?_
                    rotate_left
                    · intro w'
                      go_simp
                      with_reducible rfl
                    rotate_left
                    · simp only [Act.put, List.setIfInBounds_toArray, List.set_cons_zero, List.set_cons_succ, i64_w, i32_w]
                      rfl
                    refine pure_ (i := 22) (N := some 49) (v := ?_) (a' := ?_) #[true, true, true, true, true, true, true, true, true, true, true, true, true, true, true, true, true, true, true, true, true, true, true, false, false, false] rfl rfl (any_of HT_.out (by kernel_rfl)) (fun _ _ _ h => h) (Or.inl ⟨by rfl, ?_⟩) ?_ ?_
                    rotate_left
                    · intro w'
                      go_simp
                      with_reducible rfl
                    rotate_left
                    · simp only [Act.put, List.setIfInBounds_toArray, List.set_cons_zero, List.set_cons_succ, i64_w, i32_w]
                      rfl
                    refine last_ (i := 23) (N := none) #[true, true, true, true, true, true, true, true, true, true, true, true, true, true, true, true, true, true, true, true, true, true, true, true, false, false] rfl rfl (one_of HT_.out (by kernel_rfl)) (by decide) (fun K hK => ?_)
                    have hs30 : w29.cell? ⟨gb105, 4, none⟩ = some (.int .i64 ((rd_T41 y101 x23_1).f4)) := (blk_cell BK105.out 4).trans rfl
                    have hfs30 := blk_frozen BK105.out 4
                    refine skip_ (w1 := ?_) (by rfl) rfl ?_ ?_
                    rotate_left
                    · go_simp
                      rfl
                    refine hK.out _ _ ?_
                    clear hK K
                    refine pure_ (i := 24) (N := some 50) (v := ?_) (a' := ?_) #[true, true, true, true, true, true, true, true, true, true, true, true, true, true, true, true, true, true, true, true, true, true, true, true, true, false] rfl rfl (any_of HT_.out (by kernel_rfl)) (fun _ _ _ h => h) (Or.inl ⟨by rfl, ?_⟩) ?_ ?_
                    rotate_left
                    · intro w'
                      go_simp
                      with_reducible rfl
                    rotate_left
                    · simp only [Act.put, List.setIfInBounds_toArray, List.set_cons_zero, List.set_cons_succ, i64_w, i32_w]
                      rfl
                    refine last_ (i := 25) (N := none) #[true, true, true, true, true, true, true, true, true, true, true, true, true, true, true, true, true, true, true, true, true, true, true, true, true, true] rfl rfl (one_of HT_.out (by kernel_rfl)) (by decide) (fun K hK => ?_)
                    have hs31 : w29.cell? ⟨gb105, 5, none⟩ = some (.int .i64 ((rd_T41 y101 x23_1).f5)) := (blk_cell BK105.out 5).trans rfl
                    have hfs31 := blk_frozen BK105.out 5
                    refine skip_ (w1 := ?_) (by rfl) rfl ?_ ?_
                    rotate_left
                    · go_simp
                      rfl
                    refine hK.out _ _ ?_
                    clear hK K
                    refine done_ (done_of HT_.out (by kernel_rfl)) ?_
                    have hcz32_0 : w29.cell? ⟨gb105, 0, none⟩ = some (.int .i64 ((rd_T41 y101 x23_1).f0)) := (blk_cell BK105.out 0).trans rfl
                    have hcz32_1 : w29.cell? ⟨gb105, 1, none⟩ = some (.int .i64 ((rd_T41 y101 x23_1).f1)) := (blk_cell BK105.out 1).trans rfl
                    have hcz32_2 : w29.cell? ⟨gb105, 2, none⟩ = some (.int .i64 ((rd_T41 y101 x23_1).f2)) := (blk_cell BK105.out 2).trans rfl
                    have hcz32_3 : w29.cell? ⟨gb105, 3, none⟩ = some (.int .i64 ((rd_T41 y101 x23_1).f3)) := (blk_cell BK105.out 3).trans rfl
                    have hcz32_4 : w29.cell? ⟨gb105, 4, none⟩ = some (.int .i64 ((rd_T41 y101 x23_1).f4)) := (blk_cell BK105.out 4).trans rfl
                    have hcz32_5 : w29.cell? ⟨gb105, 5, none⟩ = some (.int .i64 ((rd_T41 y101 x23_1).f5)) := (blk_cell BK105.out 5).trans rfl
                    have hfz32_0 := blk_frozen BK105.out 0
                    have hfz32_1 := blk_frozen BK105.out 1
                    have hfz32_2 := blk_frozen BK105.out 2
                    have hfz32_3 := blk_frozen BK105.out 3
                    have hfz32_4 := blk_frozen BK105.out 4
                    have hfz32_5 := blk_frozen BK105.out 5
                    try go_wp2
                    go_roundg k1
                    case measure => have := HK1.out; omega
                    case rel => exact ⟨(x5_1), (wrap64 (x23_1 + 1)), (by first | rfl | (simp; done) | (simp [*]; done)), H', ⟨by have := HK1.out; omega⟩, ⟨by (with_reducible repeat (first | apply Kd.R_alloc | apply Kd.R_drewN | apply Kd.R_drew)); exact Kd.R_mono (Kd.R_far (p := ⟨gb105, 5, none⟩) (Kd.R_far (p := ⟨gb105, 4, none⟩) (Kd.R_mono HO_5.out (fun k_ hk => (⟨hk, hk.2⟩ : _ ∧ k_ ≠ gb105))) (fun _ hk => hk.2) (.int .i64 (wrap64 (Int.tdiv (wrap64 ((wrap64 ((wrap64 (ji4 - ((rd_T41 y101 x23_1).f0))) + ((rd_T41 y101 x23_1).f2))) - 1)) ((rd_T41 y101 x23_1).f2))))) (fun _ hk => hk.2) (.int .i64 (wrap64 (Int.tdiv (wrap64 ((wrap64 ((wrap64 (ji6 - ((rd_T41 y101 x23_1).f1))) + ((rd_T41 y101 x23_1).f3))) - 1)) ((rd_T41 y101 x23_1).f3))))) (fun _ hk => hk.1.1)⟩, ⟨by (with_reducible repeat (first | apply Kd.R_alloc | apply Kd.R_drewN | apply Kd.R_drew)); exact Kd.R_mono (Kd.R_far (p := ⟨gb105, 5, none⟩) (Kd.R_far (p := ⟨gb105, 4, none⟩) (Kd.R_mono HO_21.out (fun k_ hk => (⟨hk, hk.2⟩ : _ ∧ k_ ≠ gb105))) (fun _ hk => hk.2) (.int .i64 (wrap64 (Int.tdiv (wrap64 ((wrap64 ((wrap64 (ji4 - ((rd_T41 y101 x23_1).f0))) + ((rd_T41 y101 x23_1).f2))) - 1)) ((rd_T41 y101 x23_1).f2))))) (fun _ hk => hk.2) (.int .i64 (wrap64 (Int.tdiv (wrap64 ((wrap64 ((wrap64 (ji6 - ((rd_T41 y101 x23_1).f1))) + ((rd_T41 y101 x23_1).f3))) - 1)) ((rd_T41 y101 x23_1).f3))))) (fun _ hk => hk.1.1)⟩, ⟨by repeat (first | (with_reducible first | exact HB.out | apply below_alloc | apply pw_below_drewN | apply below_drew1 | refine below_set ?_ GE105.out) | exact HB.out)⟩⟩
                · rw [if_neg c15] at H
                  have c15b0 : decide (((rd_T41 y101 x23_1).f0) < ji4) = false := decide_eq_false c15
                  clear c15
                  have H' := Aside0.mk H
                  clear H
                  have p104 : 0 ≤ (x23_1 : Int) := of_decide_eq_true (by first | (with_reducible assumption) | assumption)
                  have q104 : x23_1 < (y101.length : Int) := of_decide_eq_true (by first | (with_reducible assumption) | assumption)
                  obtain ⟨ad104, e104, hx104_0, hx104_1, hx104_2, hx104_3, hx104_4, hx104_5⟩ := at_T41 (Kd.R_reads' HO_21.out).2.2 x23_1 p104 q104
                  cases e104
                  replace p104 := eq_true p104
                  replace q104 := eq_true q104
                  try go_wp2_with (first | ((with_reducible refine gate_dst (N := 7) rfl ?_); refine box_event ?hg (N := 7) ?hd (cs := #[.int .i64 0, .int .i64 0, .int .i64 0, .int .i64 0, .int .i64 0, .int .i64 0]) (t := 41) ?hr ?_; (case hd => rfl); (case hg => rfl); (case hr => first | (go_simp; done) | (go_simp; rfl)); intro gb105 hg w33 hbox hb; have n0_ := Aside0.mk (Kd.R_below (Kd.R_elderB (by (with_reducible repeat (first | apply Kd.R_alloc | apply Kd.R_drewN | apply Kd.R_drew)); exact HO_5.out) gb105 (Nat.le_of_eq hg.symm)) hb); have n1_ := Aside0.mk (Kd.R_below (Kd.R_elderB (by (with_reducible repeat (first | apply Kd.R_alloc | apply Kd.R_drewN | apply Kd.R_drew)); exact HO_21.out) gb105 (Nat.le_of_eq hg.symm)) hb); have n2_ := Aside0.mk (below_step (by repeat (first | (with_reducible first | exact HB.out | apply below_alloc | apply pw_below_drewN | apply below_drew1) | exact HB.out)) hb); have n3_ := Aside0.mk (hbox); have n4_ := Aside0.mk ((by rw [hg]; exact (below_size (by repeat (first | (with_reducible first | exact HB.out | apply below_alloc | apply pw_below_drewN | apply below_drew1) | exact HB.out))) : w.heap.size ≤ gb105)); have n5_ := Aside0.mk ((by rw [hg]; exact (below_size (by repeat (first | (with_reducible first | exact HB.out | apply below_alloc | apply pw_below_drewN | apply below_drew1) | exact HB.out))) : w.heap.size ≤ gb105)); clear HO_5; clear HO_21; clear HB; have HO_5 := n0_; have HO_21 := n1_; have HB := n2_; have BK105 := n3_; have GW105 := n4_; have GE105 := n5_; clear n0_ n1_ n2_ n3_ n4_ n5_; clear hb hbox hg; have hcz34_0 : w33.cell? ⟨gb105, 0, none⟩ = some (.int .i64 0) := (blk_cell BK105.out 0).trans rfl; have hcz34_1 : w33.cell? ⟨gb105, 1, none⟩ = some (.int .i64 0) := (blk_cell BK105.out 1).trans rfl; have hcz34_2 : w33.cell? ⟨gb105, 2, none⟩ = some (.int .i64 0) := (blk_cell BK105.out 2).trans rfl; have hcz34_3 : w33.cell? ⟨gb105, 3, none⟩ = some (.int .i64 0) := (blk_cell BK105.out 3).trans rfl; have hcz34_4 : w33.cell? ⟨gb105, 4, none⟩ = some (.int .i64 0) := (blk_cell BK105.out 4).trans rfl; have hcz34_5 : w33.cell? ⟨gb105, 5, none⟩ = some (.int .i64 0) := (blk_cell BK105.out 5).trans rfl; have hfz34_0 := blk_frozen BK105.out 0; have hfz34_1 := blk_frozen BK105.out 1; have hfz34_2 := blk_frozen BK105.out 2; have hfz34_3 := blk_frozen BK105.out 3; have hfz34_4 := blk_frozen BK105.out 4; have hfz34_5 := blk_frozen BK105.out 5))
                  have n0_ : Aside0 (Kd.R k41 41 ((((((w33.setCell ⟨gb105, 0, none⟩ (.int .i64 ((rd_T41 y101 x23_1).f0))).setCell ⟨gb105, 1, none⟩ (.int .i64 ((rd_T41 y101 x23_1).f1))).setCell ⟨gb105, 2, none⟩ (.int .i64 ((rd_T41 y101 x23_1).f2))).setCell ⟨gb105, 3, none⟩ (.int .i64 ((rd_T41 y101 x23_1).f3))).setCell ⟨gb105, 4, none⟩ (.int .i64 ((rd_T41 y101 x23_1).f4))).setCell ⟨gb105, 5, none⟩ (.int .i64 ((rd_T41 y101 x23_1).f5))) w.heap.size (fun k_ => some k_ ≠ (.slice (some ad104) y101.length co9 : Value).ownBlock ∧ k_ ≠ gb105) u5 x5_1) := ⟨by (with_reducible repeat (first | apply Kd.R_alloc | apply Kd.R_drewN | apply Kd.R_drew)); exact Kd.R_mono (Kd.R_far (p := ⟨gb105, 5, none⟩) (Kd.R_far (p := ⟨gb105, 4, none⟩) (Kd.R_far (p := ⟨gb105, 3, none⟩) (Kd.R_far (p := ⟨gb105, 2, none⟩) (Kd.R_far (p := ⟨gb105, 1, none⟩) (Kd.R_far (p := ⟨gb105, 0, none⟩) (Kd.R_mono HO_5.out (fun k_ hk => (⟨hk, hk.2⟩ : _ ∧ k_ ≠ gb105))) (fun _ hk => hk.2) (.int .i64 ((rd_T41 y101 x23_1).f0))) (fun _ hk => hk.2) (.int .i64 ((rd_T41 y101 x23_1).f1))) (fun _ hk => hk.2) (.int .i64 ((rd_T41 y101 x23_1).f2))) (fun _ hk => hk.2) (.int .i64 ((rd_T41 y101 x23_1).f3))) (fun _ hk => hk.2) (.int .i64 ((rd_T41 y101 x23_1).f4))) (fun _ hk => hk.2) (.int .i64 ((rd_T41 y101 x23_1).f5))) (fun _ hk => ⟨hk.1.1, hk.1.2⟩)⟩
                  have n1_ : Aside0 (Kd.R k41 41 ((((((w33.setCell ⟨gb105, 0, none⟩ (.int .i64 ((rd_T41 y101 x23_1).f0))).setCell ⟨gb105, 1, none⟩ (.int .i64 ((rd_T41 y101 x23_1).f1))).setCell ⟨gb105, 2, none⟩ (.int .i64 ((rd_T41 y101 x23_1).f2))).setCell ⟨gb105, 3, none⟩ (.int .i64 ((rd_T41 y101 x23_1).f3))).setCell ⟨gb105, 4, none⟩ (.int .i64 ((rd_T41 y101 x23_1).f4))).setCell ⟨gb105, 5, none⟩ (.int .i64 ((rd_T41 y101 x23_1).f5))) w.heap.size (fun k_ => some k_ ≠ (u5 : Value).ownBlock ∧ k_ ≠ gb105) (.slice (some ad104) y101.length co9) y101) := ⟨by (with_reducible repeat (first | apply Kd.R_alloc | apply Kd.R_drewN | apply Kd.R_drew)); exact Kd.R_mono (Kd.R_far (p := ⟨gb105, 5, none⟩) (Kd.R_far (p := ⟨gb105, 4, none⟩) (Kd.R_far (p := ⟨gb105, 3, none⟩) (Kd.R_far (p := ⟨gb105, 2, none⟩) (Kd.R_far (p := ⟨gb105, 1, none⟩) (Kd.R_far (p := ⟨gb105, 0, none⟩) (Kd.R_mono HO_21.out (fun k_ hk => (⟨hk, hk.2⟩ : _ ∧ k_ ≠ gb105))) (fun _ hk => hk.2) (.int .i64 ((rd_T41 y101 x23_1).f0))) (fun _ hk => hk.2) (.int .i64 ((rd_T41 y101 x23_1).f1))) (fun _ hk => hk.2) (.int .i64 ((rd_T41 y101 x23_1).f2))) (fun _ hk => hk.2) (.int .i64 ((rd_T41 y101 x23_1).f3))) (fun _ hk => hk.2) (.int .i64 ((rd_T41 y101 x23_1).f4))) (fun _ hk => hk.2) (.int .i64 ((rd_T41 y101 x23_1).f5))) (fun _ hk => ⟨hk.1.1, hk.1.2⟩)⟩
                  have n2_ : Aside0 (((((((w33.setCell ⟨gb105, 0, none⟩ (.int .i64 ((rd_T41 y101 x23_1).f0))).setCell ⟨gb105, 1, none⟩ (.int .i64 ((rd_T41 y101 x23_1).f1))).setCell ⟨gb105, 2, none⟩ (.int .i64 ((rd_T41 y101 x23_1).f2))).setCell ⟨gb105, 3, none⟩ (.int .i64 ((rd_T41 y101 x23_1).f3))).setCell ⟨gb105, 4, none⟩ (.int .i64 ((rd_T41 y101 x23_1).f4))).setCell ⟨gb105, 5, none⟩ (.int .i64 ((rd_T41 y101 x23_1).f5))).heap[gb105]? = some (.cells #[.int .i64 ((rd_T41 y101 x23_1).f0), .int .i64 ((rd_T41 y101 x23_1).f1), .int .i64 ((rd_T41 y101 x23_1).f2), .int .i64 ((rd_T41 y101 x23_1).f3), .int .i64 ((rd_T41 y101 x23_1).f4), .int .i64 ((rd_T41 y101 x23_1).f5)] 41 (0, 0))) := ⟨by (with_reducible repeat (first | refine blk_drewN ?_ _ | refine blk_drew ?_ | refine blk_alloc ?_ _)); refine blk_put (cs := #[.int .i64 ((rd_T41 y101 x23_1).f0), .int .i64 ((rd_T41 y101 x23_1).f1), .int .i64 ((rd_T41 y101 x23_1).f2), .int .i64 ((rd_T41 y101 x23_1).f3), .int .i64 ((rd_T41 y101 x23_1).f4), .int .i64 0]) ?_ 5 _ rfl; (with_reducible repeat (first | refine blk_drewN ?_ _ | refine blk_drew ?_ | refine blk_alloc ?_ _)); refine blk_put (cs := #[.int .i64 ((rd_T41 y101 x23_1).f0), .int .i64 ((rd_T41 y101 x23_1).f1), .int .i64 ((rd_T41 y101 x23_1).f2), .int .i64 ((rd_T41 y101 x23_1).f3), .int .i64 0, .int .i64 0]) ?_ 4 _ rfl; (with_reducible repeat (first | refine blk_drewN ?_ _ | refine blk_drew ?_ | refine blk_alloc ?_ _)); refine blk_put (cs := #[.int .i64 ((rd_T41 y101 x23_1).f0), .int .i64 ((rd_T41 y101 x23_1).f1), .int .i64 ((rd_T41 y101 x23_1).f2), .int .i64 0, .int .i64 0, .int .i64 0]) ?_ 3 _ rfl; (with_reducible repeat (first | refine blk_drewN ?_ _ | refine blk_drew ?_ | refine blk_alloc ?_ _)); refine blk_put (cs := #[.int .i64 ((rd_T41 y101 x23_1).f0), .int .i64 ((rd_T41 y101 x23_1).f1), .int .i64 0, .int .i64 0, .int .i64 0, .int .i64 0]) ?_ 2 _ rfl; (with_reducible repeat (first | refine blk_drewN ?_ _ | refine blk_drew ?_ | refine blk_alloc ?_ _)); refine blk_put (cs := #[.int .i64 ((rd_T41 y101 x23_1).f0), .int .i64 0, .int .i64 0, .int .i64 0, .int .i64 0, .int .i64 0]) ?_ 1 _ rfl; (with_reducible repeat (first | refine blk_drewN ?_ _ | refine blk_drew ?_ | refine blk_alloc ?_ _)); refine blk_put (cs := #[.int .i64 0, .int .i64 0, .int .i64 0, .int .i64 0, .int .i64 0, .int .i64 0]) ?_ 0 _ rfl; (with_reducible repeat (first | refine blk_drewN ?_ _ | refine blk_drew ?_ | refine blk_alloc ?_ _)); exact BK105.out⟩
                  have n3_ : Aside0 (Below w.heap.size w ((((((w33.setCell ⟨gb105, 0, none⟩ (.int .i64 ((rd_T41 y101 x23_1).f0))).setCell ⟨gb105, 1, none⟩ (.int .i64 ((rd_T41 y101 x23_1).f1))).setCell ⟨gb105, 2, none⟩ (.int .i64 ((rd_T41 y101 x23_1).f2))).setCell ⟨gb105, 3, none⟩ (.int .i64 ((rd_T41 y101 x23_1).f3))).setCell ⟨gb105, 4, none⟩ (.int .i64 ((rd_T41 y101 x23_1).f4))).setCell ⟨gb105, 5, none⟩ (.int .i64 ((rd_T41 y101 x23_1).f5)))) := ⟨by repeat (first | (with_reducible first | exact HB.out | apply below_alloc | apply pw_below_drewN | apply below_drew1 | refine below_set ?_ GE105.out) | exact HB.out)⟩
                  (try clear HO_5)
                  (try clear HO_21)
                  (try clear BK105)
                  (try clear HB)
                  generalize ((((((w33.setCell ⟨gb105, 0, none⟩ (.int .i64 ((rd_T41 y101 x23_1).f0))).setCell ⟨gb105, 1, none⟩ (.int .i64 ((rd_T41 y101 x23_1).f1))).setCell ⟨gb105, 2, none⟩ (.int .i64 ((rd_T41 y101 x23_1).f2))).setCell ⟨gb105, 3, none⟩ (.int .i64 ((rd_T41 y101 x23_1).f3))).setCell ⟨gb105, 4, none⟩ (.int .i64 ((rd_T41 y101 x23_1).f4))).setCell ⟨gb105, 5, none⟩ (.int .i64 ((rd_T41 y101 x23_1).f5))) = w35 at n0_ n1_ n2_ n3_ ⊢
                  have HO_5 := n0_
                  have HO_21 := n1_
                  have BK105 := n2_
                  have HB := n3_
                  clear n0_ n1_ n2_ n3_
                  have n0_ := Aside0.mk (Kd.R_drew HO_5.out)
                  have n1_ := Aside0.mk (Kd.R_drew HO_21.out)
                  have n2_ := Aside0.mk (blk_drew BK105.out)
                  have n3_ := Aside0.mk (below_drew1 HB.out)
                  clear HO_5
                  clear HO_21
                  clear BK105
                  clear HB
                  have HO_5 := n0_
                  have HO_21 := n1_
                  have BK105 := n2_
                  have HB := n3_
                  clear n0_ n1_ n2_ n3_
                  refine start_ (n := 26) (S := fun w' => w'.cell? ⟨gb105, 0, none⟩ = some (.int .i64 ((rd_T41 y101 x23_1).f0)) ∧ w'.cell? ⟨gb105, 1, none⟩ = some (.int .i64 ((rd_T41 y101 x23_1).f1)) ∧ w'.cell? ⟨gb105, 2, none⟩ = some (.int .i64 ((rd_T41 y101 x23_1).f2)) ∧ w'.cell? ⟨gb105, 3, none⟩ = some (.int .i64 ((rd_T41 y101 x23_1).f3)) ∧ w'.cell? ⟨gb105, 4, none⟩ = some (.int .i64 ((rd_T41 y101 x23_1).f4)) ∧ w'.cell? ⟨gb105, 5, none⟩ = some (.int .i64 ((rd_T41 y101 x23_1).f5))) (ds := [23, 25]) #[false, false, false, false, false, false, false, false, false, false, false, false, false, false, false, false, false, false, false, false, false, false, false, false, false, false] (by kernel_rfl) rfl rfl ⟨(blk_cell BK105.out 0).trans rfl, (blk_cell BK105.out 1).trans rfl, (blk_cell BK105.out 2).trans rfl, (blk_cell BK105.out 3).trans rfl, (blk_cell BK105.out 4).trans rfl, (blk_cell BK105.out 5).trans rfl⟩ (fun hHeld => ?_); refine with_tabW rows_Passes.tab6 rows_Passes.bits6 (fun HT_ HW_ => ?_)
                  generalize w35.drew = w36 at HO_5 HO_21 BK105 HB hHeld ⊢
                  refine pure_ (i := 0) (N := some 27) (v := ?_) (a' := ?_) #[true, false, false, false, false, false, false, false, false, false, false, false, false, false, false, false, false, false, false, false, false, false, false, false, false, false] rfl rfl (any_of HT_.out (by kernel_rfl)) (fun _ _ _ h => h) (Or.inl ⟨by rfl, ?_⟩) ?_ ?_
                  rotate_left
                  · intro w'
                    go_simp
                    with_reducible rfl
                  rotate_left
                  · simp only [Act.put, List.setIfInBounds_toArray, List.set_cons_zero, List.set_cons_succ, i64_w, i32_w]
                    rfl
                  refine pure_ (i := 1) (N := some 28) (v := ?_) (a' := ?_) #[true, true, false, false, false, false, false, false, false, false, false, false, false, false, false, false, false, false, false, false, false, false, false, false, false, false] rfl rfl (any_of HT_.out (by kernel_rfl)) (fun _ _ _ h => h) (Or.inl ⟨by rfl, ?_⟩) ?_ ?_
                  rotate_left
                  · intro w'
                    go_simp
                    with_reducible rfl
                  rotate_left
                  · simp only [Act.put, List.setIfInBounds_toArray, List.set_cons_zero, List.set_cons_succ, i64_w, i32_w]
                    rfl
                  refine pure_ (i := 4) (N := some 31) (v := ?_) (a' := ?_) #[true, true, false, false, true, false, false, false, false, false, false, false, false, false, false, false, false, false, false, false, false, false, false, false, false, false] rfl rfl (any_of HT_.out (by kernel_rfl)) (fun _ _ _ h => h) (Or.inl ⟨by rfl, ?_⟩) ?_ ?_
                  rotate_left
                  · intro w'
                    go_simp
                    with_reducible rfl
                  rotate_left
                  · simp only [Act.put, List.setIfInBounds_toArray, List.set_cons_zero, List.set_cons_succ, i64_w, i32_w]
                    rfl
                  refine pure_ (i := 8) (N := some 35) (v := ?_) (a' := ?_) #[true, true, false, false, true, false, false, false, true, false, false, false, false, false, false, false, false, false, false, false, false, false, false, false, false, false] rfl rfl (any_of HT_.out (by kernel_rfl)) (fun _ _ _ h => h) (Or.inl ⟨by rfl, ?_⟩) ?_ ?_
                  rotate_left
                  · intro w'
                    go_simp
                    with_reducible rfl
                  rotate_left
                  · simp only [Act.put, List.setIfInBounds_toArray, List.set_cons_zero, List.set_cons_succ, i64_w, i32_w]
                    rfl
                  refine pure_ (i := 11) (N := some 38) (v := ?_) (a' := ?_) #[true, true, false, false, true, false, false, false, true, false, false, true, false, false, false, false, false, false, false, false, false, false, false, false, false, false] rfl rfl (any_of HT_.out (by kernel_rfl)) (fun _ _ _ h => h) (Or.inl ⟨by rfl, ?_⟩) ?_ ?_
                  rotate_left
                  · intro w'
                    go_simp
                    with_reducible rfl
                  rotate_left
                  · simp only [Act.put, List.setIfInBounds_toArray, List.set_cons_zero, List.set_cons_succ, i64_w, i32_w]
                    rfl
                  refine pure_ (i := 12) (N := some 39) (v := ?_) (a' := ?_) #[true, true, false, false, true, false, false, false, true, false, false, true, true, false, false, false, false, false, false, false, false, false, false, false, false, false] rfl rfl (any_of HT_.out (by kernel_rfl)) (fun _ _ _ h => h) (Or.inl ⟨by rfl, ?_⟩) ?_ ?_
                  rotate_left
                  · intro w'
                    go_simp
                    with_reducible rfl
                  rotate_left
                  · simp only [Act.put, List.setIfInBounds_toArray, List.set_cons_zero, List.set_cons_succ, i64_w, i32_w]
                    rfl
                  refine pure_ (i := 15) (N := some 42) (v := ?_) (a' := ?_) #[true, true, false, false, true, false, false, false, true, false, false, true, true, false, false, true, false, false, false, false, false, false, false, false, false, false] rfl rfl (any_of HT_.out (by kernel_rfl)) (fun _ _ _ h => h) (Or.inl ⟨by rfl, ?_⟩) ?_ ?_
                  rotate_left
                  · intro w'
                    go_simp
                    with_reducible rfl
                  rotate_left
                  · simp only [Act.put, List.setIfInBounds_toArray, List.set_cons_zero, List.set_cons_succ, i64_w, i32_w]
                    rfl
                  refine pure_ (i := 19) (N := some 46) (v := ?_) (a' := ?_) #[true, true, false, false, true, false, false, false, true, false, false, true, true, false, false, true, false, false, false, true, false, false, false, false, false, false] rfl rfl (any_of HT_.out (by kernel_rfl)) (fun _ _ _ h => h) (Or.inl ⟨by rfl, ?_⟩) ?_ ?_
                  rotate_left
                  · intro w'
                    go_simp
                    with_reducible rfl
                  rotate_left
                  · simp only [Act.put, List.setIfInBounds_toArray, List.set_cons_zero, List.set_cons_succ, i64_w, i32_w]
                    rfl
                  refine take_ (i := 2) (N := some 29) (v := ?_) (a' := ?_) #[true, true, true, false, true, false, false, false, true, false, false, true, true, false, false, true, false, false, false, true, false, false, false, false, false, false] rfl rfl (take_ofW HT_.out HW_.out (by kernel_rfl)) (fun _ _ _ h => h) (Or.inl ⟨by rfl, ?_⟩) hHeld ?_ ?_
                  rotate_left
                  · rintro w' ⟨s0, s1, s2, s3, s4, s5⟩
                    go_simp
                    with_reducible rfl
                  rotate_left
                  · simp only [Act.put, List.setIfInBounds_toArray, List.set_cons_zero, List.set_cons_succ, i64_w, i32_w]
                    rfl
                  refine pure_ (i := 3) (N := some 30) (v := ?_) (a' := ?_) #[true, true, true, true, true, false, false, false, true, false, false, true, true, false, false, true, false, false, false, true, false, false, false, false, false, false] rfl rfl (any_of HT_.out (by kernel_rfl)) (fun _ _ _ h => h) (Or.inl ⟨by rfl, ?_⟩) ?_ ?_
                  rotate_left
                  · intro w'
                    go_simp
                    with_reducible rfl
                  rotate_left
                  · simp only [Act.put, List.setIfInBounds_toArray, List.set_cons_zero, List.set_cons_succ, i64_w, i32_w]
                    rfl
                  refine take_ (i := 5) (N := some 32) (v := ?_) (a' := ?_) #[true, true, true, true, true, true, false, false, true, false, false, true, true, false, false, true, false, false, false, true, false, false, false, false, false, false] rfl rfl (take_ofW HT_.out HW_.out (by kernel_rfl)) (fun _ _ _ h => h) (Or.inl ⟨by rfl, ?_⟩) hHeld ?_ ?_
                  rotate_left
                  · rintro w' ⟨s0, s1, s2, s3, s4, s5⟩
                    go_simp
                    with_reducible rfl
                  rotate_left
                  · simp only [Act.put, List.setIfInBounds_toArray, List.set_cons_zero, List.set_cons_succ, i64_w, i32_w]
                    rfl
                  refine pure_ (i := 6) (N := some 33) (v := ?_) (a' := ?_) #[true, true, true, true, true, true, true, false, true, false, false, true, true, false, false, true, false, false, false, true, false, false, false, false, false, false] rfl rfl (any_of HT_.out (by kernel_rfl)) (fun _ _ _ h => h) (Or.inl ⟨by rfl, ?_⟩) ?_ ?_
                  rotate_left
                  · intro w'
                    go_simp
                    with_reducible rfl
                  rotate_left
                  · simp only [Act.put, List.setIfInBounds_toArray, List.set_cons_zero, List.set_cons_succ, i64_w, i32_w]
                    rfl
                  refine pure_ (i := 7) (N := some 34) (v := ?_) (a' := ?_) #[true, true, true, true, true, true, true, true, true, false, false, true, true, false, false, true, false, false, false, true, false, false, false, false, false, false] rfl rfl (any_of HT_.out (by kernel_rfl)) (fun _ _ _ h => h) (Or.inl ⟨by rfl, ?_⟩) ?_ ?_
                  rotate_left
                  · intro w'
                    go_simp
                    with_reducible rfl
                  rotate_left
                  · simp only [Act.put, List.setIfInBounds_toArray, List.set_cons_zero, List.set_cons_succ, i64_w, i32_w]
                    rfl
                  refine take_ (i := 9) (N := some 36) (v := ?_) (a' := ?_) #[true, true, true, true, true, true, true, true, true, true, false, true, true, false, false, true, false, false, false, true, false, false, false, false, false, false] rfl rfl (take_ofW HT_.out HW_.out (by kernel_rfl)) (fun _ _ _ h => h) (Or.inl ⟨by rfl, ?_⟩) hHeld ?_ ?_
                  rotate_left
                  · rintro w' ⟨s0, s1, s2, s3, s4, s5⟩
                    go_simp
                    with_reducible rfl
                  rotate_left
                  · simp only [Act.put, List.setIfInBounds_toArray, List.set_cons_zero, List.set_cons_succ, i64_w, i32_w]
                    rfl
                  refine pure_ (i := 10) (N := some 37) (v := ?_) (a' := ?_) #[true, true, true, true, true, true, true, true, true, true, true, true, true, false, false, true, false, false, false, true, false, false, false, false, false, false] rfl rfl (any_of HT_.out (by kernel_rfl)) (fun _ _ _ h => h) (Or.inl ⟨by rfl, ?_⟩) ?_ ?_
                  rotate_left
                  · intro w'
                    go_simp
                    with_reducible rfl
                  rotate_left
                  · simp only [Act.put, List.setIfInBounds_toArray, List.set_cons_zero, List.set_cons_succ, i64_w, i32_w]
                    rfl
                  refine take_ (i := 13) (N := some 40) (v := ?_) (a' := ?_) #[true, true, true, true, true, true, true, true, true, true, true, true, true, true, false, true, false, false, false, true, false, false, false, false, false, false] rfl rfl (take_ofW HT_.out HW_.out (by kernel_rfl)) (fun _ _ _ h => h) (Or.inl ⟨by rfl, ?_⟩) hHeld ?_ ?_
                  rotate_left
                  · rintro w' ⟨s0, s1, s2, s3, s4, s5⟩
                    go_simp
                    with_reducible rfl
                  rotate_left
                  · simp only [Act.put, List.setIfInBounds_toArray, List.set_cons_zero, List.set_cons_succ, i64_w, i32_w]
                    rfl
                  refine pure_ (i := 14) (N := some 41) (v := ?_) (a' := ?_) #[true, true, true, true, true, true, true, true, true, true, true, true, true, true, true, true, false, false, false, true, false, false, false, false, false, false] rfl rfl (any_of HT_.out (by kernel_rfl)) (fun _ _ _ h => h) (Or.inl ⟨by rfl, ?_⟩) ?_ ?_
                  rotate_left
                  · intro w'
                    go_simp
                    with_reducible rfl
                  rotate_left
                  · simp only [Act.put, List.setIfInBounds_toArray, List.set_cons_zero, List.set_cons_succ, i64_w, i32_w]
                    rfl
                  refine take_ (i := 16) (N := some 43) (v := ?_) (a' := ?_) #[true, true, true, true, true, true, true, true, true, true, true, true, true, true, true, true, true, false, false, true, false, false, false, false, false, false] rfl rfl (take_ofW HT_.out HW_.out (by kernel_rfl)) (fun _ _ _ h => h) (Or.inl ⟨by rfl, ?_⟩) hHeld ?_ ?_
                  rotate_left
                  · rintro w' ⟨s0, s1, s2, s3, s4, s5⟩
                    go_simp
                    with_reducible rfl
                  rotate_left
                  · simp only [Act.put, List.setIfInBounds_toArray, List.set_cons_zero, List.set_cons_succ, i64_w, i32_w]
                    rfl
                  refine pure_ (i := 17) (N := some 44) (v := ?_) (a' := ?_) #[true, true, true, true, true, true, true, true, true, true, true, true, true, true, true, true, true, true, false, true, false, false, false, false, false, false] rfl rfl (any_of HT_.out (by kernel_rfl)) (fun _ _ _ h => h) (Or.inl ⟨by rfl, ?_⟩) ?_ ?_
                  rotate_left
                  · intro w'
                    go_simp
                    with_reducible rfl
                  rotate_left
                  · simp only [Act.put, List.setIfInBounds_toArray, List.set_cons_zero, List.set_cons_succ, i64_w, i32_w]
                    rfl
                  refine pure_ (i := 18) (N := some 45) (v := ?_) (a' := ?_) #[true, true, true, true, true, true, true, true, true, true, true, true, true, true, true, true, true, true, true, true, false, false, false, false, false, false] rfl rfl (any_of HT_.out (by kernel_rfl)) (fun _ _ _ h => h) (Or.inl ⟨by rfl, ?_⟩) ?_ ?_
                  rotate_left
                  · intro w'
                    go_simp
                    with_reducible rfl
                  rotate_left
                  · simp only [Act.put, List.setIfInBounds_toArray, List.set_cons_zero, List.set_cons_succ, i64_w, i32_w]
                    rfl
                  refine take_ (i := 20) (N := some 47) (v := ?_) (a' := ?_) #[true, true, true, true, true, true, true, true, true, true, true, true, true, true, true, true, true, true, true, true, true, false, false, false, false, false] rfl rfl (take_ofW HT_.out HW_.out (by kernel_rfl)) (fun _ _ _ h => h) (Or.inl ⟨by rfl, ?_⟩) hHeld ?_ ?_
                  rotate_left
                  · rintro w' ⟨s0, s1, s2, s3, s4, s5⟩
                    go_simp
                    with_reducible rfl
                  rotate_left
                  · simp only [Act.put, List.setIfInBounds_toArray, List.set_cons_zero, List.set_cons_succ, i64_w, i32_w]
                    rfl
                  refine pure_ (i := 21) (N := some 48) (v := ?_) (a' := ?_) #[true, true, true, true, true, true, true, true, true, true, true, true, true, true, true, true, true, true, true, true, true, true, false, false, false, false] rfl rfl (any_of HT_.out (by kernel_rfl)) (fun _ _ _ h => h) (Or.inl ⟨by rfl, ?_⟩) ?_ ?_
                  rotate_left
                  · intro w'
                    go_simp
                    with_reducible rfl
                  rotate_left
                  · simp only [Act.put, List.setIfInBounds_toArray, List.set_cons_zero, List.set_cons_succ, i64_w, i32_w]
                    rfl
                  refine pure_ (i := 22) (N := some 49) (v := ?_) (a' := ?_) #[true, true, true, true, true, true, true, true, true, true, true, true, true, true, true, true, true, true, true, true, true, true, true, false, false, false] rfl rfl (any_of HT_.out (by kernel_rfl)) (fun _ _ _ h => h) (Or.inl ⟨by rfl, ?_⟩) ?_ ?_
                  rotate_left
                  · intro w'
                    go_simp
                    with_reducible rfl
                  rotate_left
                  · simp only [Act.put, List.setIfInBounds_toArray, List.set_cons_zero, List.set_cons_succ, i64_w, i32_w]
                    rfl
                  refine last_ (i := 23) (N := none) #[true, true, true, true, true, true, true, true, true, true, true, true, true, true, true, true, true, true, true, true, true, true, true, true, false, false] rfl rfl (one_of HT_.out (by kernel_rfl)) (by decide) (fun K hK => ?_)
                  have hs37 : w36.cell? ⟨gb105, 4, none⟩ = some (.int .i64 ((rd_T41 y101 x23_1).f4)) := (blk_cell BK105.out 4).trans rfl
                  have hfs37 := blk_frozen BK105.out 4
                  refine skip_ (w1 := ?_) (by rfl) rfl ?_ ?_
                  rotate_left
                  · go_simp
                    rfl
                  refine hK.out _ _ ?_
                  clear hK K
                  refine pure_ (i := 24) (N := some 50) (v := ?_) (a' := ?_) #[true, true, true, true, true, true, true, true, true, true, true, true, true, true, true, true, true, true, true, true, true, true, true, true, true, false] rfl rfl (any_of HT_.out (by kernel_rfl)) (fun _ _ _ h => h) (Or.inl ⟨by rfl, ?_⟩) ?_ ?_
                  rotate_left
                  · intro w'
                    go_simp
                    with_reducible rfl
                  rotate_left
                  · simp only [Act.put, List.setIfInBounds_toArray, List.set_cons_zero, List.set_cons_succ, i64_w, i32_w]
                    rfl
                  refine last_ (i := 25) (N := none) #[true, true, true, true, true, true, true, true, true, true, true, true, true, true, true, true, true, true, true, true, true, true, true, true, true, true] rfl rfl (one_of HT_.out (by kernel_rfl)) (by decide) (fun K hK => ?_)
                  have hs38 : w36.cell? ⟨gb105, 5, none⟩ = some (.int .i64 ((rd_T41 y101 x23_1).f5)) := (blk_cell BK105.out 5).trans rfl
                  have hfs38 := blk_frozen BK105.out 5
                  refine skip_ (w1 := ?_) (by rfl) rfl ?_ ?_
                  rotate_left
                  · go_simp
                    rfl
                  refine hK.out _ _ ?_
                  clear hK K
                  refine done_ (done_of HT_.out (by kernel_rfl)) ?_
                  have hcz39_0 : w36.cell? ⟨gb105, 0, none⟩ = some (.int .i64 ((rd_T41 y101 x23_1).f0)) := (blk_cell BK105.out 0).trans rfl
                  have hcz39_1 : w36.cell? ⟨gb105, 1, none⟩ = some (.int .i64 ((rd_T41 y101 x23_1).f1)) := (blk_cell BK105.out 1).trans rfl
                  have hcz39_2 : w36.cell? ⟨gb105, 2, none⟩ = some (.int .i64 ((rd_T41 y101 x23_1).f2)) := (blk_cell BK105.out 2).trans rfl
                  have hcz39_3 : w36.cell? ⟨gb105, 3, none⟩ = some (.int .i64 ((rd_T41 y101 x23_1).f3)) := (blk_cell BK105.out 3).trans rfl
                  have hcz39_4 : w36.cell? ⟨gb105, 4, none⟩ = some (.int .i64 ((rd_T41 y101 x23_1).f4)) := (blk_cell BK105.out 4).trans rfl
                  have hcz39_5 : w36.cell? ⟨gb105, 5, none⟩ = some (.int .i64 ((rd_T41 y101 x23_1).f5)) := (blk_cell BK105.out 5).trans rfl
                  have hfz39_0 := blk_frozen BK105.out 0
                  have hfz39_1 := blk_frozen BK105.out 1
                  have hfz39_2 := blk_frozen BK105.out 2
                  have hfz39_3 := blk_frozen BK105.out 3
                  have hfz39_4 := blk_frozen BK105.out 4
                  have hfz39_5 := blk_frozen BK105.out 5
                  try go_wp2
                  go_roundg k1
                  case measure => have := HK1.out; omega
                  case rel => exact ⟨(x5_1), (wrap64 (x23_1 + 1)), (by first | rfl | (simp; done) | (simp [*]; done)), H', ⟨by have := HK1.out; omega⟩, ⟨by (with_reducible repeat (first | apply Kd.R_alloc | apply Kd.R_drewN | apply Kd.R_drew)); exact Kd.R_mono (Kd.R_far (p := ⟨gb105, 5, none⟩) (Kd.R_far (p := ⟨gb105, 4, none⟩) (Kd.R_mono HO_5.out (fun k_ hk => (⟨hk, hk.2⟩ : _ ∧ k_ ≠ gb105))) (fun _ hk => hk.2) (.int .i64 (wrap64 (Int.tdiv (wrap64 ((wrap64 ((wrap64 (ji4 - ((rd_T41 y101 x23_1).f0))) + ((rd_T41 y101 x23_1).f2))) - 1)) ((rd_T41 y101 x23_1).f2))))) (fun _ hk => hk.2) (.int .i64 (wrap64 (Int.tdiv (wrap64 ((wrap64 ((wrap64 (ji6 - ((rd_T41 y101 x23_1).f1))) + ((rd_T41 y101 x23_1).f3))) - 1)) ((rd_T41 y101 x23_1).f3))))) (fun _ hk => hk.1.1)⟩, ⟨by (with_reducible repeat (first | apply Kd.R_alloc | apply Kd.R_drewN | apply Kd.R_drew)); exact Kd.R_mono (Kd.R_far (p := ⟨gb105, 5, none⟩) (Kd.R_far (p := ⟨gb105, 4, none⟩) (Kd.R_mono HO_21.out (fun k_ hk => (⟨hk, hk.2⟩ : _ ∧ k_ ≠ gb105))) (fun _ hk => hk.2) (.int .i64 (wrap64 (Int.tdiv (wrap64 ((wrap64 ((wrap64 (ji4 - ((rd_T41 y101 x23_1).f0))) + ((rd_T41 y101 x23_1).f2))) - 1)) ((rd_T41 y101 x23_1).f2))))) (fun _ hk => hk.2) (.int .i64 (wrap64 (Int.tdiv (wrap64 ((wrap64 ((wrap64 (ji6 - ((rd_T41 y101 x23_1).f1))) + ((rd_T41 y101 x23_1).f3))) - 1)) ((rd_T41 y101 x23_1).f3))))) (fun _ hk => hk.1.1)⟩, ⟨by repeat (first | (with_reducible first | exact HB.out | apply below_alloc | apply pw_below_drewN | apply below_drew1 | refine below_set ?_ GE105.out) | exact HB.out)⟩⟩
          · rw [if_neg c12] at H
            exact absurd H (by simp)
        · rw [if_neg c11] at H
          exact absurd H (by simp)
      · rw [if_neg c10] at H
        have c10b0 : decide (x23_1 < (y101.length : Int)) = false := decide_eq_false c10
        clear c10
        obtain rfl := Option.some.inj H
        go_wp2
        go_ret
        exact ⟨_, by first | rfl | (simp [errW_none, errW_some] <;> rfl) | (simp only [← hji3, ← hji4, ← hji5, ← hji6]; first | rfl | (simp [errW_none, errW_some] <;> rfl)) | (simp [*, errW_none, errW_some] <;> rfl), by (with_reducible repeat (first | apply Kd.R_alloc | apply Kd.R_drewN | apply Kd.R_drew)); exact Kd.R_mono HO_5.out (fun _ hk => trivial), by repeat (first | (with_reducible first | exact HB.out | apply below_alloc | apply pw_below_drewN | apply below_drew1) | exact HB.out)⟩

end Go.Proofs.Ytkagmelijdfdiaa.PRowsTells
