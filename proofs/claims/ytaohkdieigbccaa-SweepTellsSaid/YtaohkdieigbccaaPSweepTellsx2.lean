-- PRINTED BY print.sh 35421559b90ae4d0a3588c463048766b98c2df88dd9212a6774a882060cdf62d: not written by this session
import Derived.Test.YtaohkdieigbccaaPSweepTellsx0
import Derived.Test.YtaohkdieigbccaaPSweepTellsx1
namespace Go.Proofs.Ytaohkdieigbccaa.PSweepTells
open Go.RowKit Go.Proofs.YtaohkdieigbccaaW.PrintWords Go.Proofs.YtaohkdieigbccaaW.PrintLast Go.Proofs.YtaohkdieigbccaaW.PrintMore
attribute [local go_sem] max2_int min2_int max_two min_two max_three min_three max_four min_four   -- for this text's walks alone
set_option linter.unusedVariables false
set_option linter.unusedSimpArgs false

/-! ### versalref2_Atan: function 29 -/
mutual
def versalref2_Atan.j0 : Nat → Int → Int → Bool → Option (Int)
  | 0, _, _, _ => none
  | k + 1, x0, x1, x18 => if x18 = true then (some 0) else ((versalref2_abs.f x1).bind fun t134 => ((versalref2_abs.f x0).bind fun t135 => ((versalref2_abs.f x1).bind fun t136 => ((versalref2_abs.f x0).bind fun t137 => (if (mx t134 t135) = 0 then (none) else ((versalref2_abs.f x0).bind fun t138 => ((versalref2_abs.f x1).bind fun t139 => (if t138 > t139 then (versalref2_Atan.j1 k x0 x1 (wrap64 (16384 - (wrap64 (Int.tdiv (wrap64 ((wrap64 ((wrap64 (8192 * (wrap64 (Int.tdiv (wrap64 ((mn t136 t137) * 65536)) (mx t134 t135))))) * 65536)) + (wrap64 ((wrap64 (2847 * (wrap64 (Int.tdiv (wrap64 ((mn t136 t137) * 65536)) (mx t134 t135))))) * (wrap64 (65536 - (wrap64 (Int.tdiv (wrap64 ((mn t136 t137) * 65536)) (mx t134 t135))))))))) 4294967296))))) else (versalref2_Atan.j1 k x0 x1 (wrap64 (Int.tdiv (wrap64 ((wrap64 ((wrap64 (8192 * (wrap64 (Int.tdiv (wrap64 ((mn t136 t137) * 65536)) (mx t134 t135))))) * 65536)) + (wrap64 ((wrap64 (2847 * (wrap64 (Int.tdiv (wrap64 ((mn t136 t137) * 65536)) (mx t134 t135))))) * (wrap64 (65536 - (wrap64 (Int.tdiv (wrap64 ((mn t136 t137) * 65536)) (mx t134 t135))))))))) 4294967296)))))))))))
def versalref2_Atan.j1 : Nat → Int → Int → Int → Option (Int)
  | 0, _, _, _ => none
  | k + 1, x0, x1, x8 => if x1 < 0 then (if x0 < 0 then ((versalref2_Norm.f (wrap64 (-(wrap64 (32768 - x8))))).bind fun t140 => (some t140)) else (some (wrap64 (32768 - x8)))) else (if x0 < 0 then ((versalref2_Norm.f (wrap64 (-x8))).bind fun t141 => (some t141)) else (some x8))
end
def versalref2_Atan.f (k : Nat) (a0 : Int) (a1 : Int) : Option (Int) := (versalref2_Clip.f a0).bind fun t132 => ((versalref2_Clip.f a1).bind fun t133 => (if t133 = 0 then (versalref2_Atan.j0 k t132 t133 (t132 == 0)) else (versalref2_Atan.j0 k t132 t133 false)))
theorem versalref2_Atan.mono_l : ∀ k, (∀ y0 y1 y2, LeO (versalref2_Atan.j0 k y0 y1 y2) (versalref2_Atan.j0 (k + 1) y0 y1 y2)) ∧ (∀ y0 y1 y2, LeO (versalref2_Atan.j1 k y0 y1 y2) (versalref2_Atan.j1 (k + 1) y0 y1 y2))
  | 0 => ⟨fun _ _ _ r h => by simp [versalref2_Atan.j0] at h, fun _ _ _ r h => by simp [versalref2_Atan.j1] at h⟩
  | k + 1 => by
    obtain ⟨ih0, ih1⟩ := versalref2_Atan.mono_l k
    refine ⟨?_, ?_⟩
    · intro y0 y1 y2
      unfold versalref2_Atan.j0
      repeat' first
      | (with_reducible exact ih0 _ _ _)
      | (with_reducible exact ih1 _ _ _)
      | (with_reducible exact LeO.refl _)
      | (with_reducible exact LeO.none _)
      | (with_reducible refine LeO.ite ?_ ?_)
      | (with_reducible refine LeO.bind ?_ (fun _ => ?_))
      | exact ih0 _ _ _
      | exact ih1 _ _ _
      | exact LeO.none _
      | refine LeO.ite ?_ ?_
      | refine LeO.bind ?_ (fun _ => ?_)
    · intro y0 y1 y2
      unfold versalref2_Atan.j1
      repeat' first
      | (with_reducible exact ih0 _ _ _)
      | (with_reducible exact ih1 _ _ _)
      | (with_reducible exact LeO.refl _)
      | (with_reducible exact LeO.none _)
      | (with_reducible refine LeO.ite ?_ ?_)
      | (with_reducible refine LeO.bind ?_ (fun _ => ?_))
      | exact ih0 _ _ _
      | exact ih1 _ _ _
      | exact LeO.none _
      | refine LeO.ite ?_ ?_
      | refine LeO.bind ?_ (fun _ => ?_)
theorem versalref2_Atan.mono : ∀ a0 a1 k, LeO (versalref2_Atan.f k a0 a1) (versalref2_Atan.f (k + 1) a0 a1) := by
  intro a0 a1 k
  obtain ⟨ih0, ih1⟩ := versalref2_Atan.mono_l k
  unfold versalref2_Atan.f
  repeat' first
      | (with_reducible exact ih0 _ _ _)
      | (with_reducible exact ih1 _ _ _)
      | (with_reducible exact LeO.refl _)
      | (with_reducible exact LeO.none _)
      | (with_reducible refine LeO.ite ?_ ?_)
      | (with_reducible refine LeO.bind ?_ (fun _ => ?_))
      | exact ih0 _ _ _
      | exact ih1 _ _ _
      | exact LeO.none _
      | refine LeO.ite ?_ ?_
      | refine LeO.bind ?_ (fun _ => ?_)
set_option maxHeartbeats 8000000 in
set_option maxRecDepth 100000 in
theorem versalref2_Atan.calls (k : Nat) (a0 : Int) (a1 : Int) (r : Int) (w : World) (h : versalref2_Atan.f k a0 a1 = some r) :
    Calls Try.prog 29 #[.int .i64 a0, .int .i64 a1] w fun e w' => e = .returned (.int .i64 r) ∧ Below w.heap.size w w' := by
  have HB := Aside0.mk (Below.refl w.heap.size w)
  have H : ((versalref2_Clip.f a0).bind fun t132 => ((versalref2_Clip.f a1).bind fun t133 => (if t133 = 0 then (versalref2_Atan.j0 k t132 t133 (t132 == 0)) else (versalref2_Atan.j0 k t132 t133 false)))) = some r := h
  clear h
  replace H := Option.bind_eq_some_iff.mp H
  obtain ⟨t132, A30, H⟩ := H
  replace H : ((versalref2_Clip.f a1).bind fun t133 => (if t133 = 0 then (versalref2_Atan.j0 k t132 t133 (t132 == 0)) else (versalref2_Atan.j0 k t132 t133 false))) = some r := H
  have A3 := Aside0.mk A30
  clear A30
  replace H := Option.bind_eq_some_iff.mp H
  obtain ⟨t133, A40, H⟩ := H
  replace H : (if t133 = 0 then (versalref2_Atan.j0 k t132 t133 (t132 == 0)) else (versalref2_Atan.j0 k t132 t133 false)) = some r := H
  have A4 := Aside0.mk A40
  clear A40
  have HC5 := Aside0.mk H
  clear H
  go_enter Try.func29, Try.ntmps29
  go_upto_region 3 with (first | ((with_reducible refine gate_callee (f := 44) rfl ?_); refine goesL_ (some 10) rfl rfl Try.func44 (by kernel_rfl) rfl #[.int .i64 a0] rfl (by (try simp only [List.map_toArray, List.map_cons, List.map_nil]); first | done | rfl | (simp only [List.length_drop, List.length_take]; rfl)) ?_; (with_reducible refine (versalref2_Clip.calls a0 t132 _ A3.out).mono ?_); rintro e w6 ⟨rfl, hb⟩; refine ⟨_, rfl, ?_⟩; have n0_ := Aside0.mk (below_step (by repeat (first | (with_reducible first | exact HB.out | apply below_alloc | apply pw_below_drewN | apply below_drew1) | exact HB.out)) hb); clear HB; have HB := n0_; clear n0_; (try clear hb); (try clear hb2); (try clear hk); (try clear hi)) | ((with_reducible refine gate_callee (f := 44) rfl ?_); refine goesL_ (some 12) rfl rfl Try.func44 (by kernel_rfl) rfl #[.int .i64 a1] rfl (by (try simp only [List.map_toArray, List.map_cons, List.map_nil]); first | done | rfl | (simp only [List.length_drop, List.length_take]; rfl)) ?_; (with_reducible refine (versalref2_Clip.calls a1 t133 _ A4.out).mono ?_); rintro e w7 ⟨rfl, hb⟩; refine ⟨_, rfl, ?_⟩; have n0_ := Aside0.mk (below_step (by repeat (first | (with_reducible first | exact HB.out | apply below_alloc | apply pw_below_drewN | apply below_drew1) | exact HB.out)) hb); clear HB; have HB := n0_; clear n0_; (try clear hb); (try clear hb2); (try clear hk); (try clear hi)))
  (try simp only [Act.put, List.setIfInBounds_toArray, List.set_cons_zero, List.set_cons_succ])
  go_cut [18] (fun v18 wc => ∃ (kq : Nat) (x18_4 : Bool), v18 = .bool x18_4 ∧ Aside0 (versalref2_Atan.j0 kq t132 t133 x18_4 = some r) ∧ Aside0 (kq ≤ k) ∧ Aside0 (Below w.heap.size w wc))
  case first =>
    have H := HC5.out
    clear HC5
    by_cases c8 : t133 = 0
    · rw [if_pos c8] at H
      have c8b0 : (t133 == 0) = true := beq_iff_eq.mpr c8
      have c8b1 : (t133 != 0) = false := bne_eq_false_iff_eq.mpr c8
      clear c8
      (first | rw [c8b0] | (simp only [i64_w, i32_w]; rw [c8b0]) | skip)
      have H' := Aside0.mk H
      clear H
      go_wp2
      go_meet
      case rel => exact ⟨_, ((t132 == 0)), (by first | rfl | (simp; done) | (simp [*]; done)), H', ⟨by first | omega | exact Nat.le_refl _⟩, ⟨by repeat (first | (with_reducible first | exact HB.out | apply below_alloc | apply pw_below_drewN | apply below_drew1) | exact HB.out)⟩⟩
    · rw [if_neg c8] at H
      have c8b0 : (t133 == 0) = false := beq_eq_false_iff_ne.mpr c8
      have c8b1 : (t133 != 0) = true := bne_iff_ne.mpr c8
      (first | rw [c8b0] | (simp only [i64_w, i32_w]; rw [c8b0]) | skip)
      have H' := Aside0.mk H
      clear H
      go_wp2
      go_meet
      case rel => exact ⟨_, (false), (by first | rfl | (simp; done) | (simp [*]; done)), H', ⟨by first | omega | exact Nat.le_refl _⟩, ⟨by repeat (first | (with_reducible first | exact HB.out | apply below_alloc | apply pw_below_drewN | apply below_drew1) | exact HB.out)⟩⟩
  case rest =>
    clear HC5
    try clear c2
    try clear p2
    try clear c4
    try clear c8
    try clear c8b0
    try clear c8b1
    obtain ⟨kq, x18_4, rfl, HA, HJ4, HB⟩ := hcut
    cases kq with
    | zero => exact absurd HA.out (by simp [versalref2_Atan.j0])
    | succ kj4 =>
      have H := HA.out
      clear HA
      simp only [versalref2_Atan.j0] at H
      by_cases c9 : x18_4 = true
      · subst c9
        have H1 : (some 0) = some r := by rw [if_pos rfl] at H; exact H
        clear H
        have H := H1
        clear H1
        obtain rfl := Option.some.inj H
        go_wp2
        go_ret
        exact ⟨by first | rfl | (simp [errW_none, errW_some] <;> rfl) | (simp [*, errW_none, errW_some] <;> rfl), by repeat (first | (with_reducible first | exact HB.out | apply below_alloc | apply pw_below_drewN | apply below_drew1) | exact HB.out)⟩
      · replace c9 := Bool.eq_false_iff.mpr c9
        subst c9
        have H1 : ((versalref2_abs.f t133).bind fun t134 => ((versalref2_abs.f t132).bind fun t135 => ((versalref2_abs.f t133).bind fun t136 => ((versalref2_abs.f t132).bind fun t137 => (if (mx t134 t135) = 0 then (none) else ((versalref2_abs.f t132).bind fun t138 => ((versalref2_abs.f t133).bind fun t139 => (if t138 > t139 then (versalref2_Atan.j1 kj4 t132 t133 (wrap64 (16384 - (wrap64 (Int.tdiv (wrap64 ((wrap64 ((wrap64 (8192 * (wrap64 (Int.tdiv (wrap64 ((mn t136 t137) * 65536)) (mx t134 t135))))) * 65536)) + (wrap64 ((wrap64 (2847 * (wrap64 (Int.tdiv (wrap64 ((mn t136 t137) * 65536)) (mx t134 t135))))) * (wrap64 (65536 - (wrap64 (Int.tdiv (wrap64 ((mn t136 t137) * 65536)) (mx t134 t135))))))))) 4294967296))))) else (versalref2_Atan.j1 kj4 t132 t133 (wrap64 (Int.tdiv (wrap64 ((wrap64 ((wrap64 (8192 * (wrap64 (Int.tdiv (wrap64 ((mn t136 t137) * 65536)) (mx t134 t135))))) * 65536)) + (wrap64 ((wrap64 (2847 * (wrap64 (Int.tdiv (wrap64 ((mn t136 t137) * 65536)) (mx t134 t135))))) * (wrap64 (65536 - (wrap64 (Int.tdiv (wrap64 ((mn t136 t137) * 65536)) (mx t134 t135))))))))) 4294967296))))))))))) = some r := by rw [if_neg (show ¬ (false = true) by decide)] at H; exact H
        clear H
        have H := H1
        clear H1
        replace H := Option.bind_eq_some_iff.mp H
        obtain ⟨t134, A100, H⟩ := H
        replace H : ((versalref2_abs.f t132).bind fun t135 => ((versalref2_abs.f t133).bind fun t136 => ((versalref2_abs.f t132).bind fun t137 => (if (mx t134 t135) = 0 then (none) else ((versalref2_abs.f t132).bind fun t138 => ((versalref2_abs.f t133).bind fun t139 => (if t138 > t139 then (versalref2_Atan.j1 kj4 t132 t133 (wrap64 (16384 - (wrap64 (Int.tdiv (wrap64 ((wrap64 ((wrap64 (8192 * (wrap64 (Int.tdiv (wrap64 ((mn t136 t137) * 65536)) (mx t134 t135))))) * 65536)) + (wrap64 ((wrap64 (2847 * (wrap64 (Int.tdiv (wrap64 ((mn t136 t137) * 65536)) (mx t134 t135))))) * (wrap64 (65536 - (wrap64 (Int.tdiv (wrap64 ((mn t136 t137) * 65536)) (mx t134 t135))))))))) 4294967296))))) else (versalref2_Atan.j1 kj4 t132 t133 (wrap64 (Int.tdiv (wrap64 ((wrap64 ((wrap64 (8192 * (wrap64 (Int.tdiv (wrap64 ((mn t136 t137) * 65536)) (mx t134 t135))))) * 65536)) + (wrap64 ((wrap64 (2847 * (wrap64 (Int.tdiv (wrap64 ((mn t136 t137) * 65536)) (mx t134 t135))))) * (wrap64 (65536 - (wrap64 (Int.tdiv (wrap64 ((mn t136 t137) * 65536)) (mx t134 t135))))))))) 4294967296)))))))))) = some r := H
        have A10 := Aside0.mk A100
        clear A100
        replace H := Option.bind_eq_some_iff.mp H
        obtain ⟨t135, A110, H⟩ := H
        replace H : ((versalref2_abs.f t133).bind fun t136 => ((versalref2_abs.f t132).bind fun t137 => (if (mx t134 t135) = 0 then (none) else ((versalref2_abs.f t132).bind fun t138 => ((versalref2_abs.f t133).bind fun t139 => (if t138 > t139 then (versalref2_Atan.j1 kj4 t132 t133 (wrap64 (16384 - (wrap64 (Int.tdiv (wrap64 ((wrap64 ((wrap64 (8192 * (wrap64 (Int.tdiv (wrap64 ((mn t136 t137) * 65536)) (mx t134 t135))))) * 65536)) + (wrap64 ((wrap64 (2847 * (wrap64 (Int.tdiv (wrap64 ((mn t136 t137) * 65536)) (mx t134 t135))))) * (wrap64 (65536 - (wrap64 (Int.tdiv (wrap64 ((mn t136 t137) * 65536)) (mx t134 t135))))))))) 4294967296))))) else (versalref2_Atan.j1 kj4 t132 t133 (wrap64 (Int.tdiv (wrap64 ((wrap64 ((wrap64 (8192 * (wrap64 (Int.tdiv (wrap64 ((mn t136 t137) * 65536)) (mx t134 t135))))) * 65536)) + (wrap64 ((wrap64 (2847 * (wrap64 (Int.tdiv (wrap64 ((mn t136 t137) * 65536)) (mx t134 t135))))) * (wrap64 (65536 - (wrap64 (Int.tdiv (wrap64 ((mn t136 t137) * 65536)) (mx t134 t135))))))))) 4294967296))))))))) = some r := H
        have A11 := Aside0.mk A110
        clear A110
        obtain ⟨ji12, hji12⟩ : ∃ j_ : Int, (mx t134 t135) = j_ := ⟨_, rfl⟩
        replace H : ((versalref2_abs.f t133).bind fun t136 => ((versalref2_abs.f t132).bind fun t137 => (if (ji12) = 0 then (none) else ((versalref2_abs.f t132).bind fun t138 => ((versalref2_abs.f t133).bind fun t139 => (if t138 > t139 then (versalref2_Atan.j1 kj4 t132 t133 (wrap64 (16384 - (wrap64 (Int.tdiv (wrap64 ((wrap64 ((wrap64 (8192 * (wrap64 (Int.tdiv (wrap64 ((mn t136 t137) * 65536)) (ji12))))) * 65536)) + (wrap64 ((wrap64 (2847 * (wrap64 (Int.tdiv (wrap64 ((mn t136 t137) * 65536)) (ji12))))) * (wrap64 (65536 - (wrap64 (Int.tdiv (wrap64 ((mn t136 t137) * 65536)) (ji12))))))))) 4294967296))))) else (versalref2_Atan.j1 kj4 t132 t133 (wrap64 (Int.tdiv (wrap64 ((wrap64 ((wrap64 (8192 * (wrap64 (Int.tdiv (wrap64 ((mn t136 t137) * 65536)) (ji12))))) * 65536)) + (wrap64 ((wrap64 (2847 * (wrap64 (Int.tdiv (wrap64 ((mn t136 t137) * 65536)) (ji12))))) * (wrap64 (65536 - (wrap64 (Int.tdiv (wrap64 ((mn t136 t137) * 65536)) (ji12))))))))) 4294967296))))))))) = some r := by first | (rw [hji12] at H; exact H) | (simp only [hji12] at H ⊢; exact H)
        (try rw [hji12] at A10)
        (try rw [hji12] at A11)
        have hji12_ : (if t134 < t135 then t135 else t134) = ji12 := hji12
        replace H := Option.bind_eq_some_iff.mp H
        obtain ⟨t136, A130, H⟩ := H
        replace H : ((versalref2_abs.f t132).bind fun t137 => (if (ji12) = 0 then (none) else ((versalref2_abs.f t132).bind fun t138 => ((versalref2_abs.f t133).bind fun t139 => (if t138 > t139 then (versalref2_Atan.j1 kj4 t132 t133 (wrap64 (16384 - (wrap64 (Int.tdiv (wrap64 ((wrap64 ((wrap64 (8192 * (wrap64 (Int.tdiv (wrap64 ((mn t136 t137) * 65536)) (ji12))))) * 65536)) + (wrap64 ((wrap64 (2847 * (wrap64 (Int.tdiv (wrap64 ((mn t136 t137) * 65536)) (ji12))))) * (wrap64 (65536 - (wrap64 (Int.tdiv (wrap64 ((mn t136 t137) * 65536)) (ji12))))))))) 4294967296))))) else (versalref2_Atan.j1 kj4 t132 t133 (wrap64 (Int.tdiv (wrap64 ((wrap64 ((wrap64 (8192 * (wrap64 (Int.tdiv (wrap64 ((mn t136 t137) * 65536)) (ji12))))) * 65536)) + (wrap64 ((wrap64 (2847 * (wrap64 (Int.tdiv (wrap64 ((mn t136 t137) * 65536)) (ji12))))) * (wrap64 (65536 - (wrap64 (Int.tdiv (wrap64 ((mn t136 t137) * 65536)) (ji12))))))))) 4294967296)))))))) = some r := H
        have A13 := Aside0.mk A130
        clear A130
        replace H := Option.bind_eq_some_iff.mp H
        obtain ⟨t137, A140, H⟩ := H
        replace H : (if (ji12) = 0 then (none) else ((versalref2_abs.f t132).bind fun t138 => ((versalref2_abs.f t133).bind fun t139 => (if t138 > t139 then (versalref2_Atan.j1 kj4 t132 t133 (wrap64 (16384 - (wrap64 (Int.tdiv (wrap64 ((wrap64 ((wrap64 (8192 * (wrap64 (Int.tdiv (wrap64 ((mn t136 t137) * 65536)) (ji12))))) * 65536)) + (wrap64 ((wrap64 (2847 * (wrap64 (Int.tdiv (wrap64 ((mn t136 t137) * 65536)) (ji12))))) * (wrap64 (65536 - (wrap64 (Int.tdiv (wrap64 ((mn t136 t137) * 65536)) (ji12))))))))) 4294967296))))) else (versalref2_Atan.j1 kj4 t132 t133 (wrap64 (Int.tdiv (wrap64 ((wrap64 ((wrap64 (8192 * (wrap64 (Int.tdiv (wrap64 ((mn t136 t137) * 65536)) (ji12))))) * 65536)) + (wrap64 ((wrap64 (2847 * (wrap64 (Int.tdiv (wrap64 ((mn t136 t137) * 65536)) (ji12))))) * (wrap64 (65536 - (wrap64 (Int.tdiv (wrap64 ((mn t136 t137) * 65536)) (ji12))))))))) 4294967296))))))) = some r := H
        have A14 := Aside0.mk A140
        clear A140
        obtain ⟨ji15, hji15⟩ : ∃ j_ : Int, (mn t136 t137) = j_ := ⟨_, rfl⟩
        replace H : (if (ji12) = 0 then (none) else ((versalref2_abs.f t132).bind fun t138 => ((versalref2_abs.f t133).bind fun t139 => (if t138 > t139 then (versalref2_Atan.j1 kj4 t132 t133 (wrap64 (16384 - (wrap64 (Int.tdiv (wrap64 ((wrap64 ((wrap64 (8192 * (wrap64 (Int.tdiv (wrap64 ((ji15) * 65536)) (ji12))))) * 65536)) + (wrap64 ((wrap64 (2847 * (wrap64 (Int.tdiv (wrap64 ((ji15) * 65536)) (ji12))))) * (wrap64 (65536 - (wrap64 (Int.tdiv (wrap64 ((ji15) * 65536)) (ji12))))))))) 4294967296))))) else (versalref2_Atan.j1 kj4 t132 t133 (wrap64 (Int.tdiv (wrap64 ((wrap64 ((wrap64 (8192 * (wrap64 (Int.tdiv (wrap64 ((ji15) * 65536)) (ji12))))) * 65536)) + (wrap64 ((wrap64 (2847 * (wrap64 (Int.tdiv (wrap64 ((ji15) * 65536)) (ji12))))) * (wrap64 (65536 - (wrap64 (Int.tdiv (wrap64 ((ji15) * 65536)) (ji12))))))))) 4294967296))))))) = some r := by first | (rw [hji15] at H; exact H) | (simp only [hji15] at H ⊢; exact H)
        (try rw [hji15] at A10)
        (try rw [hji15] at A11)
        (try rw [hji15] at A13)
        (try rw [hji15] at A14)
        have hji15_ : (if t137 < t136 then t137 else t136) = ji15 := hji15
        by_cases c16 : (ji12) = 0
        · rw [if_pos c16] at H
          exact absurd H (by simp)
        · rw [if_neg c16] at H
          have c16b0 : ((ji12) == 0) = false := beq_eq_false_iff_ne.mpr c16
          have c16b1 : ((ji12) != 0) = true := bne_iff_ne.mpr c16
          replace H := Option.bind_eq_some_iff.mp H
          obtain ⟨t138, A170, H⟩ := H
          replace H : ((versalref2_abs.f t133).bind fun t139 => (if t138 > t139 then (versalref2_Atan.j1 kj4 t132 t133 (wrap64 (16384 - (wrap64 (Int.tdiv (wrap64 ((wrap64 ((wrap64 (8192 * (wrap64 (Int.tdiv (wrap64 ((ji15) * 65536)) (ji12))))) * 65536)) + (wrap64 ((wrap64 (2847 * (wrap64 (Int.tdiv (wrap64 ((ji15) * 65536)) (ji12))))) * (wrap64 (65536 - (wrap64 (Int.tdiv (wrap64 ((ji15) * 65536)) (ji12))))))))) 4294967296))))) else (versalref2_Atan.j1 kj4 t132 t133 (wrap64 (Int.tdiv (wrap64 ((wrap64 ((wrap64 (8192 * (wrap64 (Int.tdiv (wrap64 ((ji15) * 65536)) (ji12))))) * 65536)) + (wrap64 ((wrap64 (2847 * (wrap64 (Int.tdiv (wrap64 ((ji15) * 65536)) (ji12))))) * (wrap64 (65536 - (wrap64 (Int.tdiv (wrap64 ((ji15) * 65536)) (ji12))))))))) 4294967296))))) = some r := H
          have A17 := Aside0.mk A170
          clear A170
          replace H := Option.bind_eq_some_iff.mp H
          obtain ⟨t139, A180, H⟩ := H
          replace H : (if t138 > t139 then (versalref2_Atan.j1 kj4 t132 t133 (wrap64 (16384 - (wrap64 (Int.tdiv (wrap64 ((wrap64 ((wrap64 (8192 * (wrap64 (Int.tdiv (wrap64 ((ji15) * 65536)) (ji12))))) * 65536)) + (wrap64 ((wrap64 (2847 * (wrap64 (Int.tdiv (wrap64 ((ji15) * 65536)) (ji12))))) * (wrap64 (65536 - (wrap64 (Int.tdiv (wrap64 ((ji15) * 65536)) (ji12))))))))) 4294967296))))) else (versalref2_Atan.j1 kj4 t132 t133 (wrap64 (Int.tdiv (wrap64 ((wrap64 ((wrap64 (8192 * (wrap64 (Int.tdiv (wrap64 ((ji15) * 65536)) (ji12))))) * 65536)) + (wrap64 ((wrap64 (2847 * (wrap64 (Int.tdiv (wrap64 ((ji15) * 65536)) (ji12))))) * (wrap64 (65536 - (wrap64 (Int.tdiv (wrap64 ((ji15) * 65536)) (ji12))))))))) 4294967296)))) = some r := H
          have A18 := Aside0.mk A180
          clear A180
          have HC19 := Aside0.mk H
          clear H
          go_upto_if 47 with (first | ((with_reducible refine gate_callee (f := 45) rfl ?_); refine goesL_ (some 20) rfl rfl Try.func45 (by kernel_rfl) rfl #[.int .i64 t133] rfl (by (try simp only [List.map_toArray, List.map_cons, List.map_nil]); first | done | rfl | (simp only [List.length_drop, List.length_take]; rfl)) ?_; (with_reducible refine (versalref2_abs.calls t133 t134 _ A10.out).mono ?_); rintro e w20 ⟨rfl, hb⟩; refine ⟨_, rfl, ?_⟩; have n0_ := Aside0.mk (below_step (by repeat (first | (with_reducible first | exact HB.out | apply below_alloc | apply pw_below_drewN | apply below_drew1) | exact HB.out)) hb); clear HB; have HB := n0_; clear n0_; (try clear hb); (try clear hb2); (try clear hk); (try clear hi)) | ((with_reducible refine gate_callee (f := 45) rfl ?_); refine goesL_ (some 22) rfl rfl Try.func45 (by kernel_rfl) rfl #[.int .i64 t132] rfl (by (try simp only [List.map_toArray, List.map_cons, List.map_nil]); first | done | rfl | (simp only [List.length_drop, List.length_take]; rfl)) ?_; (with_reducible refine (versalref2_abs.calls t132 t135 _ A11.out).mono ?_); rintro e w21 ⟨rfl, hb⟩; refine ⟨_, rfl, ?_⟩; have n0_ := Aside0.mk (below_step (by repeat (first | (with_reducible first | exact HB.out | apply below_alloc | apply pw_below_drewN | apply below_drew1) | exact HB.out)) hb); clear HB; have HB := n0_; clear n0_; (try clear hb); (try clear hb2); (try clear hk); (try clear hi)) | ((with_reducible refine gate_callee (f := 45) rfl ?_); refine goesL_ (some 25) rfl rfl Try.func45 (by kernel_rfl) rfl #[.int .i64 t133] rfl (by (try simp only [List.map_toArray, List.map_cons, List.map_nil]); first | done | rfl | (simp only [List.length_drop, List.length_take]; rfl)) ?_; (with_reducible refine (versalref2_abs.calls t133 t136 _ A13.out).mono ?_); rintro e w22 ⟨rfl, hb⟩; refine ⟨_, rfl, ?_⟩; have n0_ := Aside0.mk (below_step (by repeat (first | (with_reducible first | exact HB.out | apply below_alloc | apply pw_below_drewN | apply below_drew1) | exact HB.out)) hb); clear HB; have HB := n0_; clear n0_; (try clear hb); (try clear hb2); (try clear hk); (try clear hi)) | ((with_reducible refine gate_callee (f := 45) rfl ?_); refine goesL_ (some 27) rfl rfl Try.func45 (by kernel_rfl) rfl #[.int .i64 t132] rfl (by (try simp only [List.map_toArray, List.map_cons, List.map_nil]); first | done | rfl | (simp only [List.length_drop, List.length_take]; rfl)) ?_; (with_reducible refine (versalref2_abs.calls t132 t137 _ A14.out).mono ?_); rintro e w23 ⟨rfl, hb⟩; refine ⟨_, rfl, ?_⟩; have n0_ := Aside0.mk (below_step (by repeat (first | (with_reducible first | exact HB.out | apply below_alloc | apply pw_below_drewN | apply below_drew1) | exact HB.out)) hb); clear HB; have HB := n0_; clear n0_; (try clear hb); (try clear hb2); (try clear hk); (try clear hi)) | ((with_reducible refine gate_callee (f := 45) rfl ?_); refine goesL_ (some 44) rfl rfl Try.func45 (by kernel_rfl) rfl #[.int .i64 t132] rfl (by (try simp only [List.map_toArray, List.map_cons, List.map_nil]); first | done | rfl | (simp only [List.length_drop, List.length_take]; rfl)) ?_; (with_reducible refine (versalref2_abs.calls t132 t138 _ A17.out).mono ?_); rintro e w24 ⟨rfl, hb⟩; refine ⟨_, rfl, ?_⟩; have n0_ := Aside0.mk (below_step (by repeat (first | (with_reducible first | exact HB.out | apply below_alloc | apply pw_below_drewN | apply below_drew1) | exact HB.out)) hb); clear HB; have HB := n0_; clear n0_; (try clear hb); (try clear hb2); (try clear hk); (try clear hi)) | ((with_reducible refine gate_callee (f := 45) rfl ?_); refine goesL_ (some 46) rfl rfl Try.func45 (by kernel_rfl) rfl #[.int .i64 t133] rfl (by (try simp only [List.map_toArray, List.map_cons, List.map_nil]); first | done | rfl | (simp only [List.length_drop, List.length_take]; rfl)) ?_; (with_reducible refine (versalref2_abs.calls t133 t139 _ A18.out).mono ?_); rintro e w25 ⟨rfl, hb⟩; refine ⟨_, rfl, ?_⟩; have n0_ := Aside0.mk (below_step (by repeat (first | (with_reducible first | exact HB.out | apply below_alloc | apply pw_below_drewN | apply below_drew1) | exact HB.out)) hb); clear HB; have HB := n0_; clear n0_; (try clear hb); (try clear hb2); (try clear hk); (try clear hi)))
          (try simp only [Act.put, List.setIfInBounds_toArray, List.set_cons_zero, List.set_cons_succ])
          go_cut [8] (fun v8 wc => ∃ (kq : Nat) (x8_18 : Int), v8 = .int .i64 x8_18 ∧ Aside0 (versalref2_Atan.j1 kq t132 t133 x8_18 = some r) ∧ Aside0 (kq ≤ kj4) ∧ Aside0 (Below w.heap.size w wc))
          case first =>
            have H := HC19.out
            clear HC19
            by_cases c26 : t138 > t139
            · rw [if_pos c26] at H
              have c26b0 : decide (t139 < t138) = true := decide_eq_true c26
              clear c26
              (first | rw [c26b0] | (simp only [i64_w, i32_w]; rw [c26b0]) | skip)
              have H' := Aside0.mk H
              clear H
              go_wp2
              go_meet
              case rel => exact ⟨_, (wrap64 (16384 - (wrap64 (Int.tdiv (wrap64 ((wrap64 ((wrap64 (8192 * (wrap64 (Int.tdiv (wrap64 ((ji15) * 65536)) (ji12))))) * 65536)) + (wrap64 ((wrap64 (2847 * (wrap64 (Int.tdiv (wrap64 ((ji15) * 65536)) (ji12))))) * (wrap64 (65536 - (wrap64 (Int.tdiv (wrap64 ((ji15) * 65536)) (ji12))))))))) 4294967296)))), (by first | rfl | (simp; done) | (simp only [← hji12, ← hji15] <;> (first | rfl | simp)) | (simp [*]; done)), H', ⟨by have := HJ4.out; first | omega | exact Nat.le_refl _⟩, ⟨by repeat (first | (with_reducible first | exact HB.out | apply below_alloc | apply pw_below_drewN | apply below_drew1) | exact HB.out)⟩⟩
            · rw [if_neg c26] at H
              have c26b0 : decide (t139 < t138) = false := decide_eq_false c26
              clear c26
              (first | rw [c26b0] | (simp only [i64_w, i32_w]; rw [c26b0]) | skip)
              have H' := Aside0.mk H
              clear H
              go_wp2
              go_meet
              case rel => exact ⟨_, (wrap64 (Int.tdiv (wrap64 ((wrap64 ((wrap64 (8192 * (wrap64 (Int.tdiv (wrap64 ((ji15) * 65536)) (ji12))))) * 65536)) + (wrap64 ((wrap64 (2847 * (wrap64 (Int.tdiv (wrap64 ((ji15) * 65536)) (ji12))))) * (wrap64 (65536 - (wrap64 (Int.tdiv (wrap64 ((ji15) * 65536)) (ji12))))))))) 4294967296)), (by first | rfl | (simp; done) | (simp only [← hji12, ← hji15] <;> (first | rfl | simp)) | (simp [*]; done)), H', ⟨by have := HJ4.out; first | omega | exact Nat.le_refl _⟩, ⟨by repeat (first | (with_reducible first | exact HB.out | apply below_alloc | apply pw_below_drewN | apply below_drew1) | exact HB.out)⟩⟩
          case rest =>
            clear HC19
            try clear c1
            try clear c2
            try clear p2
            try clear c4
            try clear p6
            try clear c8
            try clear c8b0
            try clear c8b1
            try clear c9
            try clear c16
            try clear c16b0
            try clear c16b1
            try clear c26
            try clear c26b0
            try clear p2
            obtain ⟨kq, x8_18, rfl, HA, HJ18, HB⟩ := hcut
            cases kq with
            | zero => exact absurd HA.out (by simp [versalref2_Atan.j1])
            | succ kj18 =>
              have H := HA.out
              clear HA
              simp only [versalref2_Atan.j1] at H
              by_cases c27 : t133 < 0
              · rw [if_pos c27] at H
                have c27b0 : decide (t133 < 0) = true := decide_eq_true c27
                clear c27
                by_cases c28 : t132 < 0
                · rw [if_pos c28] at H
                  have c28b0 : decide (t132 < 0) = true := decide_eq_true c28
                  clear c28
                  replace H := Option.bind_eq_some_iff.mp H
                  obtain ⟨t140, A290, H⟩ := H
                  replace H : (some t140) = some r := H
                  have A29 := Aside0.mk A290
                  clear A290
                  obtain rfl := Option.some.inj H
                  go_wp2_with (first | ((with_reducible refine gate_callee (f := 25) rfl ?_); refine goesL_ (some 58) rfl rfl Try.func25 (by kernel_rfl) rfl #[.int .i64 (wrap64 (-(wrap64 (32768 - x8_18))))] rfl (by (try simp only [List.map_toArray, List.map_cons, List.map_nil]); first | done | rfl | (simp only [List.length_drop, List.length_take]; rfl)) ?_; (with_reducible refine (versalref2_Norm.calls (wrap64 (-(wrap64 (32768 - x8_18)))) t140 _ A29.out).mono ?_); rintro e w' ⟨rfl, ⟨nd, rfl⟩⟩; refine ⟨_, rfl, ?_⟩))
                  go_ret
                  exact ⟨by first | rfl | (simp [errW_none, errW_some] <;> rfl) | (simp only [← hji12, ← hji15]; first | rfl | (simp [errW_none, errW_some] <;> rfl)) | (simp [*, errW_none, errW_some] <;> rfl), by repeat (first | (with_reducible first | exact HB.out | apply below_alloc | apply pw_below_drewN | apply below_drew1) | exact HB.out)⟩
                · rw [if_neg c28] at H
                  have c28b0 : decide (t132 < 0) = false := decide_eq_false c28
                  clear c28
                  obtain rfl := Option.some.inj H
                  go_wp2
                  go_ret
                  exact ⟨by first | rfl | (simp [errW_none, errW_some] <;> rfl) | (simp only [← hji12, ← hji15]; first | rfl | (simp [errW_none, errW_some] <;> rfl)) | (simp [*, errW_none, errW_some] <;> rfl), by repeat (first | (with_reducible first | exact HB.out | apply below_alloc | apply pw_below_drewN | apply below_drew1) | exact HB.out)⟩
              · rw [if_neg c27] at H
                have c27b0 : decide (t133 < 0) = false := decide_eq_false c27
                clear c27
                by_cases c30 : t132 < 0
                · rw [if_pos c30] at H
                  have c30b0 : decide (t132 < 0) = true := decide_eq_true c30
                  clear c30
                  replace H := Option.bind_eq_some_iff.mp H
                  obtain ⟨t141, A310, H⟩ := H
                  replace H : (some t141) = some r := H
                  have A31 := Aside0.mk A310
                  clear A310
                  obtain rfl := Option.some.inj H
                  go_wp2_with (first | ((with_reducible refine gate_callee (f := 25) rfl ?_); refine goesL_ (some 58) rfl rfl Try.func25 (by kernel_rfl) rfl #[.int .i64 (wrap64 (-x8_18))] rfl (by (try simp only [List.map_toArray, List.map_cons, List.map_nil]); first | done | rfl | (simp only [List.length_drop, List.length_take]; rfl)) ?_; (with_reducible refine (versalref2_Norm.calls (wrap64 (-x8_18)) t141 _ A31.out).mono ?_); rintro e w' ⟨rfl, ⟨nd, rfl⟩⟩; refine ⟨_, rfl, ?_⟩))
                  go_ret
                  exact ⟨by first | rfl | (simp [errW_none, errW_some] <;> rfl) | (simp only [← hji12, ← hji15]; first | rfl | (simp [errW_none, errW_some] <;> rfl)) | (simp [*, errW_none, errW_some] <;> rfl), by repeat (first | (with_reducible first | exact HB.out | apply below_alloc | apply pw_below_drewN | apply below_drew1) | exact HB.out)⟩
                · rw [if_neg c30] at H
                  have c30b0 : decide (t132 < 0) = false := decide_eq_false c30
                  clear c30
                  obtain rfl := Option.some.inj H
                  go_wp2
                  go_ret
                  exact ⟨by first | rfl | (simp [errW_none, errW_some] <;> rfl) | (simp only [← hji12, ← hji15]; first | rfl | (simp [errW_none, errW_some] <;> rfl)) | (simp [*, errW_none, errW_some] <;> rfl), by repeat (first | (with_reducible first | exact HB.out | apply below_alloc | apply pw_below_drewN | apply below_drew1) | exact HB.out)⟩

/-! ### versalref20_clip: function 39 -/
def versalref20_clip.f (a0 : Int) : Option (Int) := (versalref2_Clip.f a0).bind fun t142 => (some t142)
set_option maxHeartbeats 8000000 in
set_option maxRecDepth 100000 in
theorem versalref20_clip.calls (a0 : Int) (r : Int) (w : World) (h : versalref20_clip.f a0 = some r) :
    Calls Try.prog 39 #[.int .i64 a0] w fun e w' => e = .returned (.int .i64 r) ∧ Below w.heap.size w w' := by
  have HB := Aside0.mk (Below.refl w.heap.size w)
  have H : ((versalref2_Clip.f a0).bind fun t142 => (some t142)) = some r := h
  clear h
  replace H := Option.bind_eq_some_iff.mp H
  obtain ⟨t142, A20, H⟩ := H
  replace H : (some t142) = some r := H
  have A2 := Aside0.mk A20
  clear A20
  obtain rfl := Option.some.inj H
  go_enter Try.func39, Try.ntmps39
  go_wp2_with (first | ((with_reducible refine gate_callee (f := 44) rfl ?_); refine goesL_ (some 4) rfl rfl Try.func44 (by kernel_rfl) rfl #[.int .i64 a0] rfl (by (try simp only [List.map_toArray, List.map_cons, List.map_nil]); first | done | rfl | (simp only [List.length_drop, List.length_take]; rfl)) ?_; (with_reducible refine (versalref2_Clip.calls a0 t142 _ A2.out).mono ?_); rintro e w3 ⟨rfl, hb⟩; refine ⟨_, rfl, ?_⟩; have n0_ := Aside0.mk (below_step (by repeat (first | (with_reducible first | exact HB.out | apply below_alloc | apply pw_below_drewN | apply below_drew1) | exact HB.out)) hb); clear HB; have HB := n0_; clear n0_; (try clear hb); (try clear hb2); (try clear hk); (try clear hi)))
  go_ret
  exact ⟨by first | rfl | (simp [errW_none, errW_some] <;> rfl) | (simp [*, errW_none, errW_some] <;> rfl), by repeat (first | (with_reducible first | exact HB.out | apply below_alloc | apply pw_below_drewN | apply below_drew1) | exact HB.out)⟩

/-! ### versalref2_Floor: function 42 -/
def versalref2_Floor.f (a0 : Int) (a1 : Int) : Option (Int) := if a1 = 0 then (none) else (if (Int.tmod a0 a1) < 0 then (some (wrap64 ((wrap64 (Int.tdiv a0 a1)) - 1))) else (some (wrap64 (Int.tdiv a0 a1))))
set_option maxHeartbeats 8000000 in
set_option maxRecDepth 100000 in
theorem versalref2_Floor.calls (a0 : Int) (a1 : Int) (r : Int) (w : World) (h : versalref2_Floor.f a0 a1 = some r) :
    Calls Try.prog 42 #[.int .i64 a0, .int .i64 a1] w fun e w' => e = .returned (.int .i64 r) ∧ Drawn0 w w' := by
  have H : (if a1 = 0 then (none) else (if (Int.tmod a0 a1) < 0 then (some (wrap64 ((wrap64 (Int.tdiv a0 a1)) - 1))) else (some (wrap64 (Int.tdiv a0 a1))))) = some r := h
  clear h
  by_cases c3 : a1 = 0
  · rw [if_pos c3] at H
    exact absurd H (by simp)
  · rw [if_neg c3] at H
    have c3b0 : (a1 == 0) = false := beq_eq_false_iff_ne.mpr c3
    have c3b1 : (a1 != 0) = true := bne_iff_ne.mpr c3
    by_cases c4 : (Int.tmod a0 a1) < 0
    · rw [if_pos c4] at H
      have c4b0 : decide ((Int.tmod a0 a1) < 0) = true := decide_eq_true c4
      clear c4
      obtain rfl := Option.some.inj H
      go_enter Try.func42, Try.ntmps42
      go_wp2
      go_ret
      exact ⟨by first | rfl | (simp; done) | (simp [*]; done), by repeat (first | exact Drawn0.refl _ | apply Drawn0.step)⟩
    · rw [if_neg c4] at H
      have c4b0 : decide ((Int.tmod a0 a1) < 0) = false := decide_eq_false c4
      clear c4
      obtain rfl := Option.some.inj H
      go_enter Try.func42, Try.ntmps42
      go_wp2
      go_ret
      exact ⟨by first | rfl | (simp; done) | (simp [*]; done), by repeat (first | exact Drawn0.refl _ | apply Drawn0.step)⟩

/-! ### versalref2_Ratio: function 40 -/
def versalref2_Ratio.f (a0 : Int) (a1 : Int) : Option (Int) := (versalref2_Within.f a0 (-70368744177664) 70368744177664).bind fun t143 => ((versalref2_Within.f a1 (-70368744177664) 70368744177664).bind fun t144 => (if t144 = 0 then (some 0) else (if t144 < 0 then ((versalref2_Floor.f (wrap64 ((wrap64 (-t143)) * 65536)) (wrap64 (-t144))).bind fun t145 => ((versalref2_Clip.f t145).bind fun t146 => (some t146))) else ((versalref2_Floor.f (wrap64 (t143 * 65536)) t144).bind fun t147 => ((versalref2_Clip.f t147).bind fun t148 => (some t148))))))
set_option maxHeartbeats 8000000 in
set_option maxRecDepth 100000 in
theorem versalref2_Ratio.calls (a0 : Int) (a1 : Int) (r : Int) (w : World) (h : versalref2_Ratio.f a0 a1 = some r) :
    Calls Try.prog 40 #[.int .i64 a0, .int .i64 a1] w fun e w' => e = .returned (.int .i64 r) ∧ Below w.heap.size w w' := by
  have HB := Aside0.mk (Below.refl w.heap.size w)
  have H : ((versalref2_Within.f a0 (-70368744177664) 70368744177664).bind fun t143 => ((versalref2_Within.f a1 (-70368744177664) 70368744177664).bind fun t144 => (if t144 = 0 then (some 0) else (if t144 < 0 then ((versalref2_Floor.f (wrap64 ((wrap64 (-t143)) * 65536)) (wrap64 (-t144))).bind fun t145 => ((versalref2_Clip.f t145).bind fun t146 => (some t146))) else ((versalref2_Floor.f (wrap64 (t143 * 65536)) t144).bind fun t147 => ((versalref2_Clip.f t147).bind fun t148 => (some t148))))))) = some r := h
  clear h
  replace H := Option.bind_eq_some_iff.mp H
  obtain ⟨t143, A30, H⟩ := H
  replace H : ((versalref2_Within.f a1 (-70368744177664) 70368744177664).bind fun t144 => (if t144 = 0 then (some 0) else (if t144 < 0 then ((versalref2_Floor.f (wrap64 ((wrap64 (-t143)) * 65536)) (wrap64 (-t144))).bind fun t145 => ((versalref2_Clip.f t145).bind fun t146 => (some t146))) else ((versalref2_Floor.f (wrap64 (t143 * 65536)) t144).bind fun t147 => ((versalref2_Clip.f t147).bind fun t148 => (some t148)))))) = some r := H
  have A3 := Aside0.mk A30
  clear A30
  replace H := Option.bind_eq_some_iff.mp H
  obtain ⟨t144, A40, H⟩ := H
  replace H : (if t144 = 0 then (some 0) else (if t144 < 0 then ((versalref2_Floor.f (wrap64 ((wrap64 (-t143)) * 65536)) (wrap64 (-t144))).bind fun t145 => ((versalref2_Clip.f t145).bind fun t146 => (some t146))) else ((versalref2_Floor.f (wrap64 (t143 * 65536)) t144).bind fun t147 => ((versalref2_Clip.f t147).bind fun t148 => (some t148))))) = some r := H
  have A4 := Aside0.mk A40
  clear A40
  by_cases c5 : t144 = 0
  · rw [if_pos c5] at H
    have c5b0 : (t144 == 0) = true := beq_iff_eq.mpr c5
    have c5b1 : (t144 != 0) = false := bne_eq_false_iff_eq.mpr c5
    clear c5
    obtain rfl := Option.some.inj H
    go_enter Try.func40, Try.ntmps40
    go_wp2_with (first | ((with_reducible refine gate_callee (f := 38) rfl ?_); refine goesL_ (some 6) rfl rfl Try.func38 (by kernel_rfl) rfl #[.int .i64 a0, .int .i64 (-70368744177664), .int .i64 70368744177664] rfl (by (try simp only [List.map_toArray, List.map_cons, List.map_nil]); first | done | rfl | (simp only [List.length_drop, List.length_take]; rfl)) ?_; (with_reducible refine (versalref2_Within.calls a0 (-70368744177664) 70368744177664 t143 _ A3.out).mono ?_); rintro e w6 ⟨rfl, hb⟩; refine ⟨_, rfl, ?_⟩; have n0_ := Aside0.mk (below_step (by repeat (first | (with_reducible first | exact HB.out | apply below_alloc | apply pw_below_drewN | apply below_drew1) | exact HB.out)) hb); clear HB; have HB := n0_; clear n0_; (try clear hb); (try clear hb2); (try clear hk); (try clear hi)) | ((with_reducible refine gate_callee (f := 38) rfl ?_); refine goesL_ (some 8) rfl rfl Try.func38 (by kernel_rfl) rfl #[.int .i64 a1, .int .i64 (-70368744177664), .int .i64 70368744177664] rfl (by (try simp only [List.map_toArray, List.map_cons, List.map_nil]); first | done | rfl | (simp only [List.length_drop, List.length_take]; rfl)) ?_; (with_reducible refine (versalref2_Within.calls a1 (-70368744177664) 70368744177664 t144 _ A4.out).mono ?_); rintro e w7 ⟨rfl, hb⟩; refine ⟨_, rfl, ?_⟩; have n0_ := Aside0.mk (below_step (by repeat (first | (with_reducible first | exact HB.out | apply below_alloc | apply pw_below_drewN | apply below_drew1) | exact HB.out)) hb); clear HB; have HB := n0_; clear n0_; (try clear hb); (try clear hb2); (try clear hk); (try clear hi)))
    go_ret
    exact ⟨by first | rfl | (simp [errW_none, errW_some] <;> rfl) | (simp [*, errW_none, errW_some] <;> rfl), by repeat (first | (with_reducible first | exact HB.out | apply below_alloc | apply pw_below_drewN | apply below_drew1) | exact HB.out)⟩
  · rw [if_neg c5] at H
    have c5b0 : (t144 == 0) = false := beq_eq_false_iff_ne.mpr c5
    have c5b1 : (t144 != 0) = true := bne_iff_ne.mpr c5
    by_cases c8 : t144 < 0
    · rw [if_pos c8] at H
      have c8b0 : decide (t144 < 0) = true := decide_eq_true c8
      clear c8
      replace H := Option.bind_eq_some_iff.mp H
      obtain ⟨t145, A90, H⟩ := H
      replace H : ((versalref2_Clip.f t145).bind fun t146 => (some t146)) = some r := H
      have A9 := Aside0.mk A90
      clear A90
      replace H := Option.bind_eq_some_iff.mp H
      obtain ⟨t146, A100, H⟩ := H
      replace H : (some t146) = some r := H
      have A10 := Aside0.mk A100
      clear A100
      obtain rfl := Option.some.inj H
      go_enter Try.func40, Try.ntmps40
      go_wp2_with (first | ((with_reducible refine gate_callee (f := 38) rfl ?_); refine goesL_ (some 6) rfl rfl Try.func38 (by kernel_rfl) rfl #[.int .i64 a0, .int .i64 (-70368744177664), .int .i64 70368744177664] rfl (by (try simp only [List.map_toArray, List.map_cons, List.map_nil]); first | done | rfl | (simp only [List.length_drop, List.length_take]; rfl)) ?_; (with_reducible refine (versalref2_Within.calls a0 (-70368744177664) 70368744177664 t143 _ A3.out).mono ?_); rintro e w11 ⟨rfl, hb⟩; refine ⟨_, rfl, ?_⟩; have n0_ := Aside0.mk (below_step (by repeat (first | (with_reducible first | exact HB.out | apply below_alloc | apply pw_below_drewN | apply below_drew1) | exact HB.out)) hb); clear HB; have HB := n0_; clear n0_; (try clear hb); (try clear hb2); (try clear hk); (try clear hi)) | ((with_reducible refine gate_callee (f := 38) rfl ?_); refine goesL_ (some 8) rfl rfl Try.func38 (by kernel_rfl) rfl #[.int .i64 a1, .int .i64 (-70368744177664), .int .i64 70368744177664] rfl (by (try simp only [List.map_toArray, List.map_cons, List.map_nil]); first | done | rfl | (simp only [List.length_drop, List.length_take]; rfl)) ?_; (with_reducible refine (versalref2_Within.calls a1 (-70368744177664) 70368744177664 t144 _ A4.out).mono ?_); rintro e w12 ⟨rfl, hb⟩; refine ⟨_, rfl, ?_⟩; have n0_ := Aside0.mk (below_step (by repeat (first | (with_reducible first | exact HB.out | apply below_alloc | apply pw_below_drewN | apply below_drew1) | exact HB.out)) hb); clear HB; have HB := n0_; clear n0_; (try clear hb); (try clear hb2); (try clear hk); (try clear hi)) | ((with_reducible refine gate_callee (f := 42) rfl ?_); refine goesL_ (some 20) rfl rfl Try.func42 (by kernel_rfl) rfl #[.int .i64 (wrap64 ((wrap64 (-t143)) * 65536)), .int .i64 (wrap64 (-t144))] rfl (by (try simp only [List.map_toArray, List.map_cons, List.map_nil]); first | done | rfl | (simp only [List.length_drop, List.length_take]; rfl)) ?_; (with_reducible refine (versalref2_Floor.calls (wrap64 ((wrap64 (-t143)) * 65536)) (wrap64 (-t144)) t145 _ A9.out).mono ?_); rintro e w' ⟨rfl, ⟨nd, rfl⟩⟩; refine ⟨_, rfl, ?_⟩) | ((with_reducible refine gate_callee (f := 44) rfl ?_); refine goesL_ (some 21) rfl rfl Try.func44 (by kernel_rfl) rfl #[.int .i64 t145] rfl (by (try simp only [List.map_toArray, List.map_cons, List.map_nil]); first | done | rfl | (simp only [List.length_drop, List.length_take]; rfl)) ?_; (with_reducible refine (versalref2_Clip.calls t145 t146 _ A10.out).mono ?_); rintro e w13 ⟨rfl, hb⟩; refine ⟨_, rfl, ?_⟩; have n0_ := Aside0.mk (below_step (by repeat (first | (with_reducible first | exact HB.out | apply below_alloc | apply pw_below_drewN | apply below_drew1) | exact HB.out)) hb); clear HB; have HB := n0_; clear n0_; (try clear hb); (try clear hb2); (try clear hk); (try clear hi)))
      go_ret
      exact ⟨by first | rfl | (simp [errW_none, errW_some] <;> rfl) | (simp [*, errW_none, errW_some] <;> rfl), by repeat (first | (with_reducible first | exact HB.out | apply below_alloc | apply pw_below_drewN | apply below_drew1) | exact HB.out)⟩
    · rw [if_neg c8] at H
      have c8b0 : decide (t144 < 0) = false := decide_eq_false c8
      clear c8
      replace H := Option.bind_eq_some_iff.mp H
      obtain ⟨t147, A140, H⟩ := H
      replace H : ((versalref2_Clip.f t147).bind fun t148 => (some t148)) = some r := H
      have A14 := Aside0.mk A140
      clear A140
      replace H := Option.bind_eq_some_iff.mp H
      obtain ⟨t148, A150, H⟩ := H
      replace H : (some t148) = some r := H
      have A15 := Aside0.mk A150
      clear A150
      obtain rfl := Option.some.inj H
      go_enter Try.func40, Try.ntmps40
      go_wp2_with (first | ((with_reducible refine gate_callee (f := 38) rfl ?_); refine goesL_ (some 6) rfl rfl Try.func38 (by kernel_rfl) rfl #[.int .i64 a0, .int .i64 (-70368744177664), .int .i64 70368744177664] rfl (by (try simp only [List.map_toArray, List.map_cons, List.map_nil]); first | done | rfl | (simp only [List.length_drop, List.length_take]; rfl)) ?_; (with_reducible refine (versalref2_Within.calls a0 (-70368744177664) 70368744177664 t143 _ A3.out).mono ?_); rintro e w16 ⟨rfl, hb⟩; refine ⟨_, rfl, ?_⟩; have n0_ := Aside0.mk (below_step (by repeat (first | (with_reducible first | exact HB.out | apply below_alloc | apply pw_below_drewN | apply below_drew1) | exact HB.out)) hb); clear HB; have HB := n0_; clear n0_; (try clear hb); (try clear hb2); (try clear hk); (try clear hi)) | ((with_reducible refine gate_callee (f := 38) rfl ?_); refine goesL_ (some 8) rfl rfl Try.func38 (by kernel_rfl) rfl #[.int .i64 a1, .int .i64 (-70368744177664), .int .i64 70368744177664] rfl (by (try simp only [List.map_toArray, List.map_cons, List.map_nil]); first | done | rfl | (simp only [List.length_drop, List.length_take]; rfl)) ?_; (with_reducible refine (versalref2_Within.calls a1 (-70368744177664) 70368744177664 t144 _ A4.out).mono ?_); rintro e w17 ⟨rfl, hb⟩; refine ⟨_, rfl, ?_⟩; have n0_ := Aside0.mk (below_step (by repeat (first | (with_reducible first | exact HB.out | apply below_alloc | apply pw_below_drewN | apply below_drew1) | exact HB.out)) hb); clear HB; have HB := n0_; clear n0_; (try clear hb); (try clear hb2); (try clear hk); (try clear hi)) | ((with_reducible refine gate_callee (f := 42) rfl ?_); refine goesL_ (some 25) rfl rfl Try.func42 (by kernel_rfl) rfl #[.int .i64 (wrap64 (t143 * 65536)), .int .i64 t144] rfl (by (try simp only [List.map_toArray, List.map_cons, List.map_nil]); first | done | rfl | (simp only [List.length_drop, List.length_take]; rfl)) ?_; (with_reducible refine (versalref2_Floor.calls (wrap64 (t143 * 65536)) t144 t147 _ A14.out).mono ?_); rintro e w' ⟨rfl, ⟨nd, rfl⟩⟩; refine ⟨_, rfl, ?_⟩) | ((with_reducible refine gate_callee (f := 44) rfl ?_); refine goesL_ (some 26) rfl rfl Try.func44 (by kernel_rfl) rfl #[.int .i64 t147] rfl (by (try simp only [List.map_toArray, List.map_cons, List.map_nil]); first | done | rfl | (simp only [List.length_drop, List.length_take]; rfl)) ?_; (with_reducible refine (versalref2_Clip.calls t147 t148 _ A15.out).mono ?_); rintro e w18 ⟨rfl, hb⟩; refine ⟨_, rfl, ?_⟩; have n0_ := Aside0.mk (below_step (by repeat (first | (with_reducible first | exact HB.out | apply below_alloc | apply pw_below_drewN | apply below_drew1) | exact HB.out)) hb); clear HB; have HB := n0_; clear n0_; (try clear hb); (try clear hb2); (try clear hk); (try clear hi)))
      go_ret
      exact ⟨by first | rfl | (simp [errW_none, errW_some] <;> rfl) | (simp [*, errW_none, errW_some] <;> rfl), by repeat (first | (with_reducible first | exact HB.out | apply below_alloc | apply pw_below_drewN | apply below_drew1) | exact HB.out)⟩

/-! ### versalref20_Sweep: function 23 -/
def versalref20_Sweep.f (k : Nat) (a0 : Int) (a1 : Int) (a2 : Int) (a3 : Int) (a4 : Int) (a5 : Int) : Option (Int × Bool) := (versalref2_Within.f a2 (-131072) 131072).bind fun t149 => ((versalref2_Within.f a3 (-131072) 131072).bind fun t150 => (if t149 = t150 then (some (0, false)) else ((versalref20_clip.f a5).bind fun t151 => ((versalref20_clip.f a1).bind fun t152 => ((versalref20_clip.f (wrap64 (t151 - t152))).bind fun t153 => ((versalref20_clip.f a4).bind fun t154 => ((versalref20_clip.f a0).bind fun t155 => ((versalref20_clip.f (wrap64 (t154 - t155))).bind fun t156 => ((versalref2_Atan.f k t153 t156).bind fun t157 => ((versalref2_Ratio.f (wrap64 (t157 - t149)) (wrap64 (t150 - t149))).bind fun t158 => (some (t158, true))))))))))))
theorem versalref20_Sweep.mono : ∀ a0 a1 a2 a3 a4 a5 k, LeO (versalref20_Sweep.f k a0 a1 a2 a3 a4 a5) (versalref20_Sweep.f (k + 1) a0 a1 a2 a3 a4 a5) := by
  intro a0 a1 a2 a3 a4 a5 k
  unfold versalref20_Sweep.f
  repeat' first
      | (with_reducible exact versalref2_Atan.mono _ _ _)
      | (with_reducible exact LeO.refl _)
      | (with_reducible exact LeO.none _)
      | (with_reducible refine LeO.ite ?_ ?_)
      | (with_reducible refine LeO.bind ?_ (fun _ => ?_))
      | exact versalref2_Atan.mono _ _ _
      | exact LeO.none _
      | refine LeO.ite ?_ ?_
      | refine LeO.bind ?_ (fun _ => ?_)
set_option maxHeartbeats 8000000 in
set_option maxRecDepth 100000 in
theorem versalref20_Sweep.calls (k : Nat) (a0 : Int) (a1 : Int) (a2 : Int) (a3 : Int) (a4 : Int) (a5 : Int) (r1 : Int) (r2 : Bool) (w : World) (h : versalref20_Sweep.f k a0 a1 a2 a3 a4 a5 = some (r1, r2)) :
    Calls Try.prog 23 #[.int .i64 a0, .int .i64 a1, .int .i64 a2, .int .i64 a3, .int .i64 a4, .int .i64 a5] w fun e w' => e = .returned (.tuple #[.int .i64 r1, .bool r2]) ∧ Below w.heap.size w w' := by
  have HB := Aside0.mk (Below.refl w.heap.size w)
  have H : ((versalref2_Within.f a2 (-131072) 131072).bind fun t149 => ((versalref2_Within.f a3 (-131072) 131072).bind fun t150 => (if t149 = t150 then (some (0, false)) else ((versalref20_clip.f a5).bind fun t151 => ((versalref20_clip.f a1).bind fun t152 => ((versalref20_clip.f (wrap64 (t151 - t152))).bind fun t153 => ((versalref20_clip.f a4).bind fun t154 => ((versalref20_clip.f a0).bind fun t155 => ((versalref20_clip.f (wrap64 (t154 - t155))).bind fun t156 => ((versalref2_Atan.f k t153 t156).bind fun t157 => ((versalref2_Ratio.f (wrap64 (t157 - t149)) (wrap64 (t150 - t149))).bind fun t158 => (some (t158, true))))))))))))) = some (r1, r2) := h
  clear h
  replace H := Option.bind_eq_some_iff.mp H
  obtain ⟨t149, A70, H⟩ := H
  replace H : ((versalref2_Within.f a3 (-131072) 131072).bind fun t150 => (if t149 = t150 then (some (0, false)) else ((versalref20_clip.f a5).bind fun t151 => ((versalref20_clip.f a1).bind fun t152 => ((versalref20_clip.f (wrap64 (t151 - t152))).bind fun t153 => ((versalref20_clip.f a4).bind fun t154 => ((versalref20_clip.f a0).bind fun t155 => ((versalref20_clip.f (wrap64 (t154 - t155))).bind fun t156 => ((versalref2_Atan.f k t153 t156).bind fun t157 => ((versalref2_Ratio.f (wrap64 (t157 - t149)) (wrap64 (t150 - t149))).bind fun t158 => (some (t158, true)))))))))))) = some (r1, r2) := H
  have A7 := Aside0.mk A70
  clear A70
  replace H := Option.bind_eq_some_iff.mp H
  obtain ⟨t150, A80, H⟩ := H
  replace H : (if t149 = t150 then (some (0, false)) else ((versalref20_clip.f a5).bind fun t151 => ((versalref20_clip.f a1).bind fun t152 => ((versalref20_clip.f (wrap64 (t151 - t152))).bind fun t153 => ((versalref20_clip.f a4).bind fun t154 => ((versalref20_clip.f a0).bind fun t155 => ((versalref20_clip.f (wrap64 (t154 - t155))).bind fun t156 => ((versalref2_Atan.f k t153 t156).bind fun t157 => ((versalref2_Ratio.f (wrap64 (t157 - t149)) (wrap64 (t150 - t149))).bind fun t158 => (some (t158, true))))))))))) = some (r1, r2) := H
  have A8 := Aside0.mk A80
  clear A80
  by_cases c9 : t149 = t150
  · rw [if_pos c9] at H
    have c9b0 : (t149 == t150) = true := beq_iff_eq.mpr c9
    have c9b1 : (t149 != t150) = false := bne_eq_false_iff_eq.mpr c9
    clear c9
    simp only [Option.some.injEq, Prod.mk.injEq] at H
    obtain ⟨rfl, rfl⟩ := H
    go_enter Try.func23, Try.ntmps23
    go_wp2_with (first | ((with_reducible refine gate_callee (f := 38) rfl ?_); refine goesL_ (some 16) rfl rfl Try.func38 (by kernel_rfl) rfl #[.int .i64 a2, .int .i64 (-131072), .int .i64 131072] rfl (by (try simp only [List.map_toArray, List.map_cons, List.map_nil]); first | done | rfl | (simp only [List.length_drop, List.length_take]; rfl)) ?_; (with_reducible refine (versalref2_Within.calls a2 (-131072) 131072 t149 _ A7.out).mono ?_); rintro e w10 ⟨rfl, hb⟩; refine ⟨_, rfl, ?_⟩; have n0_ := Aside0.mk (below_step (by repeat (first | (with_reducible first | exact HB.out | apply below_alloc | apply pw_below_drewN | apply below_drew1) | exact HB.out)) hb); clear HB; have HB := n0_; clear n0_; (try clear hb); (try clear hb2); (try clear hk); (try clear hi)) | ((with_reducible refine gate_callee (f := 38) rfl ?_); refine goesL_ (some 18) rfl rfl Try.func38 (by kernel_rfl) rfl #[.int .i64 a3, .int .i64 (-131072), .int .i64 131072] rfl (by (try simp only [List.map_toArray, List.map_cons, List.map_nil]); first | done | rfl | (simp only [List.length_drop, List.length_take]; rfl)) ?_; (with_reducible refine (versalref2_Within.calls a3 (-131072) 131072 t150 _ A8.out).mono ?_); rintro e w11 ⟨rfl, hb⟩; refine ⟨_, rfl, ?_⟩; have n0_ := Aside0.mk (below_step (by repeat (first | (with_reducible first | exact HB.out | apply below_alloc | apply pw_below_drewN | apply below_drew1) | exact HB.out)) hb); clear HB; have HB := n0_; clear n0_; (try clear hb); (try clear hb2); (try clear hk); (try clear hi)))
    go_ret2
    exact ⟨by first | rfl | (simp [errW_none, errW_some] <;> rfl) | (simp [*, errW_none, errW_some] <;> rfl), by repeat (first | (with_reducible first | exact HB.out | apply below_alloc | apply pw_below_drewN | apply below_drew1) | exact HB.out)⟩
  · rw [if_neg c9] at H
    have c9b0 : (t149 == t150) = false := beq_eq_false_iff_ne.mpr c9
    have c9b1 : (t149 != t150) = true := bne_iff_ne.mpr c9
    replace H := Option.bind_eq_some_iff.mp H
    obtain ⟨t151, A120, H⟩ := H
    replace H : ((versalref20_clip.f a1).bind fun t152 => ((versalref20_clip.f (wrap64 (t151 - t152))).bind fun t153 => ((versalref20_clip.f a4).bind fun t154 => ((versalref20_clip.f a0).bind fun t155 => ((versalref20_clip.f (wrap64 (t154 - t155))).bind fun t156 => ((versalref2_Atan.f k t153 t156).bind fun t157 => ((versalref2_Ratio.f (wrap64 (t157 - t149)) (wrap64 (t150 - t149))).bind fun t158 => (some (t158, true))))))))) = some (r1, r2) := H
    have A12 := Aside0.mk A120
    clear A120
    replace H := Option.bind_eq_some_iff.mp H
    obtain ⟨t152, A130, H⟩ := H
    replace H : ((versalref20_clip.f (wrap64 (t151 - t152))).bind fun t153 => ((versalref20_clip.f a4).bind fun t154 => ((versalref20_clip.f a0).bind fun t155 => ((versalref20_clip.f (wrap64 (t154 - t155))).bind fun t156 => ((versalref2_Atan.f k t153 t156).bind fun t157 => ((versalref2_Ratio.f (wrap64 (t157 - t149)) (wrap64 (t150 - t149))).bind fun t158 => (some (t158, true)))))))) = some (r1, r2) := H
    have A13 := Aside0.mk A130
    clear A130
    replace H := Option.bind_eq_some_iff.mp H
    obtain ⟨t153, A140, H⟩ := H
    replace H : ((versalref20_clip.f a4).bind fun t154 => ((versalref20_clip.f a0).bind fun t155 => ((versalref20_clip.f (wrap64 (t154 - t155))).bind fun t156 => ((versalref2_Atan.f k t153 t156).bind fun t157 => ((versalref2_Ratio.f (wrap64 (t157 - t149)) (wrap64 (t150 - t149))).bind fun t158 => (some (t158, true))))))) = some (r1, r2) := H
    have A14 := Aside0.mk A140
    clear A140
    replace H := Option.bind_eq_some_iff.mp H
    obtain ⟨t154, A150, H⟩ := H
    replace H : ((versalref20_clip.f a0).bind fun t155 => ((versalref20_clip.f (wrap64 (t154 - t155))).bind fun t156 => ((versalref2_Atan.f k t153 t156).bind fun t157 => ((versalref2_Ratio.f (wrap64 (t157 - t149)) (wrap64 (t150 - t149))).bind fun t158 => (some (t158, true)))))) = some (r1, r2) := H
    have A15 := Aside0.mk A150
    clear A150
    replace H := Option.bind_eq_some_iff.mp H
    obtain ⟨t155, A160, H⟩ := H
    replace H : ((versalref20_clip.f (wrap64 (t154 - t155))).bind fun t156 => ((versalref2_Atan.f k t153 t156).bind fun t157 => ((versalref2_Ratio.f (wrap64 (t157 - t149)) (wrap64 (t150 - t149))).bind fun t158 => (some (t158, true))))) = some (r1, r2) := H
    have A16 := Aside0.mk A160
    clear A160
    replace H := Option.bind_eq_some_iff.mp H
    obtain ⟨t156, A170, H⟩ := H
    replace H : ((versalref2_Atan.f k t153 t156).bind fun t157 => ((versalref2_Ratio.f (wrap64 (t157 - t149)) (wrap64 (t150 - t149))).bind fun t158 => (some (t158, true)))) = some (r1, r2) := H
    have A17 := Aside0.mk A170
    clear A170
    replace H := Option.bind_eq_some_iff.mp H
    obtain ⟨t157, A180, H⟩ := H
    replace H : ((versalref2_Ratio.f (wrap64 (t157 - t149)) (wrap64 (t150 - t149))).bind fun t158 => (some (t158, true))) = some (r1, r2) := H
    have A18 := Aside0.mk A180
    clear A180
    replace H := Option.bind_eq_some_iff.mp H
    obtain ⟨t158, A190, H⟩ := H
    replace H : (some (t158, true)) = some (r1, r2) := H
    have A19 := Aside0.mk A190
    clear A190
    simp only [Option.some.injEq, Prod.mk.injEq] at H
    obtain ⟨rfl, rfl⟩ := H
    go_enter Try.func23, Try.ntmps23
    go_wp2_with (first | ((with_reducible refine gate_callee (f := 38) rfl ?_); refine goesL_ (some 16) rfl rfl Try.func38 (by kernel_rfl) rfl #[.int .i64 a2, .int .i64 (-131072), .int .i64 131072] rfl (by (try simp only [List.map_toArray, List.map_cons, List.map_nil]); first | done | rfl | (simp only [List.length_drop, List.length_take]; rfl)) ?_; (with_reducible refine (versalref2_Within.calls a2 (-131072) 131072 t149 _ A7.out).mono ?_); rintro e w20 ⟨rfl, hb⟩; refine ⟨_, rfl, ?_⟩; have n0_ := Aside0.mk (below_step (by repeat (first | (with_reducible first | exact HB.out | apply below_alloc | apply pw_below_drewN | apply below_drew1) | exact HB.out)) hb); clear HB; have HB := n0_; clear n0_; (try clear hb); (try clear hb2); (try clear hk); (try clear hi)) | ((with_reducible refine gate_callee (f := 38) rfl ?_); refine goesL_ (some 18) rfl rfl Try.func38 (by kernel_rfl) rfl #[.int .i64 a3, .int .i64 (-131072), .int .i64 131072] rfl (by (try simp only [List.map_toArray, List.map_cons, List.map_nil]); first | done | rfl | (simp only [List.length_drop, List.length_take]; rfl)) ?_; (with_reducible refine (versalref2_Within.calls a3 (-131072) 131072 t150 _ A8.out).mono ?_); rintro e w21 ⟨rfl, hb⟩; refine ⟨_, rfl, ?_⟩; have n0_ := Aside0.mk (below_step (by repeat (first | (with_reducible first | exact HB.out | apply below_alloc | apply pw_below_drewN | apply below_drew1) | exact HB.out)) hb); clear HB; have HB := n0_; clear n0_; (try clear hb); (try clear hb2); (try clear hk); (try clear hi)) | ((with_reducible refine gate_callee (f := 39) rfl ?_); refine goesL_ (some 23) rfl rfl Try.func39 (by kernel_rfl) rfl #[.int .i64 a5] rfl (by (try simp only [List.map_toArray, List.map_cons, List.map_nil]); first | done | rfl | (simp only [List.length_drop, List.length_take]; rfl)) ?_; (with_reducible refine (versalref20_clip.calls a5 t151 _ A12.out).mono ?_); rintro e w22 ⟨rfl, hb⟩; refine ⟨_, rfl, ?_⟩; have n0_ := Aside0.mk (below_step (by repeat (first | (with_reducible first | exact HB.out | apply below_alloc | apply pw_below_drewN | apply below_drew1) | exact HB.out)) hb); clear HB; have HB := n0_; clear n0_; (try clear hb); (try clear hb2); (try clear hk); (try clear hi)) | ((with_reducible refine gate_callee (f := 39) rfl ?_); refine goesL_ (some 25) rfl rfl Try.func39 (by kernel_rfl) rfl #[.int .i64 a1] rfl (by (try simp only [List.map_toArray, List.map_cons, List.map_nil]); first | done | rfl | (simp only [List.length_drop, List.length_take]; rfl)) ?_; (with_reducible refine (versalref20_clip.calls a1 t152 _ A13.out).mono ?_); rintro e w23 ⟨rfl, hb⟩; refine ⟨_, rfl, ?_⟩; have n0_ := Aside0.mk (below_step (by repeat (first | (with_reducible first | exact HB.out | apply below_alloc | apply pw_below_drewN | apply below_drew1) | exact HB.out)) hb); clear HB; have HB := n0_; clear n0_; (try clear hb); (try clear hb2); (try clear hk); (try clear hi)) | ((with_reducible refine gate_callee (f := 39) rfl ?_); refine goesL_ (some 27) rfl rfl Try.func39 (by kernel_rfl) rfl #[.int .i64 (wrap64 (t151 - t152))] rfl (by (try simp only [List.map_toArray, List.map_cons, List.map_nil]); first | done | rfl | (simp only [List.length_drop, List.length_take]; rfl)) ?_; (with_reducible refine (versalref20_clip.calls (wrap64 (t151 - t152)) t153 _ A14.out).mono ?_); rintro e w24 ⟨rfl, hb⟩; refine ⟨_, rfl, ?_⟩; have n0_ := Aside0.mk (below_step (by repeat (first | (with_reducible first | exact HB.out | apply below_alloc | apply pw_below_drewN | apply below_drew1) | exact HB.out)) hb); clear HB; have HB := n0_; clear n0_; (try clear hb); (try clear hb2); (try clear hk); (try clear hi)) | ((with_reducible refine gate_callee (f := 39) rfl ?_); refine goesL_ (some 29) rfl rfl Try.func39 (by kernel_rfl) rfl #[.int .i64 a4] rfl (by (try simp only [List.map_toArray, List.map_cons, List.map_nil]); first | done | rfl | (simp only [List.length_drop, List.length_take]; rfl)) ?_; (with_reducible refine (versalref20_clip.calls a4 t154 _ A15.out).mono ?_); rintro e w25 ⟨rfl, hb⟩; refine ⟨_, rfl, ?_⟩; have n0_ := Aside0.mk (below_step (by repeat (first | (with_reducible first | exact HB.out | apply below_alloc | apply pw_below_drewN | apply below_drew1) | exact HB.out)) hb); clear HB; have HB := n0_; clear n0_; (try clear hb); (try clear hb2); (try clear hk); (try clear hi)) | ((with_reducible refine gate_callee (f := 39) rfl ?_); refine goesL_ (some 31) rfl rfl Try.func39 (by kernel_rfl) rfl #[.int .i64 a0] rfl (by (try simp only [List.map_toArray, List.map_cons, List.map_nil]); first | done | rfl | (simp only [List.length_drop, List.length_take]; rfl)) ?_; (with_reducible refine (versalref20_clip.calls a0 t155 _ A16.out).mono ?_); rintro e w26 ⟨rfl, hb⟩; refine ⟨_, rfl, ?_⟩; have n0_ := Aside0.mk (below_step (by repeat (first | (with_reducible first | exact HB.out | apply below_alloc | apply pw_below_drewN | apply below_drew1) | exact HB.out)) hb); clear HB; have HB := n0_; clear n0_; (try clear hb); (try clear hb2); (try clear hk); (try clear hi)) | ((with_reducible refine gate_callee (f := 39) rfl ?_); refine goesL_ (some 33) rfl rfl Try.func39 (by kernel_rfl) rfl #[.int .i64 (wrap64 (t154 - t155))] rfl (by (try simp only [List.map_toArray, List.map_cons, List.map_nil]); first | done | rfl | (simp only [List.length_drop, List.length_take]; rfl)) ?_; (with_reducible refine (versalref20_clip.calls (wrap64 (t154 - t155)) t156 _ A17.out).mono ?_); rintro e w27 ⟨rfl, hb⟩; refine ⟨_, rfl, ?_⟩; have n0_ := Aside0.mk (below_step (by repeat (first | (with_reducible first | exact HB.out | apply below_alloc | apply pw_below_drewN | apply below_drew1) | exact HB.out)) hb); clear HB; have HB := n0_; clear n0_; (try clear hb); (try clear hb2); (try clear hk); (try clear hi)) | ((with_reducible refine gate_callee (f := 29) rfl ?_); refine goesL_ (some 34) rfl rfl Try.func29 (by kernel_rfl) rfl #[.int .i64 t153, .int .i64 t156] rfl (by (try simp only [List.map_toArray, List.map_cons, List.map_nil]); first | done | rfl | (simp only [List.length_drop, List.length_take]; rfl)) ?_; (with_reducible refine (versalref2_Atan.calls k t153 t156 t157 _ A18.out).mono ?_); rintro e w28 ⟨rfl, hb⟩; refine ⟨_, rfl, ?_⟩; have n0_ := Aside0.mk (below_step (by repeat (first | (with_reducible first | exact HB.out | apply below_alloc | apply pw_below_drewN | apply below_drew1) | exact HB.out)) hb); clear HB; have HB := n0_; clear n0_; (try clear hb); (try clear hb2); (try clear hk); (try clear hi)) | ((with_reducible refine gate_callee (f := 40) rfl ?_); refine goesL_ (some 41) rfl rfl Try.func40 (by kernel_rfl) rfl #[.int .i64 (wrap64 (t157 - t149)), .int .i64 (wrap64 (t150 - t149))] rfl (by (try simp only [List.map_toArray, List.map_cons, List.map_nil]); first | done | rfl | (simp only [List.length_drop, List.length_take]; rfl)) ?_; (with_reducible refine (versalref2_Ratio.calls (wrap64 (t157 - t149)) (wrap64 (t150 - t149)) t158 _ A19.out).mono ?_); rintro e w29 ⟨rfl, hb⟩; refine ⟨_, rfl, ?_⟩; have n0_ := Aside0.mk (below_step (by repeat (first | (with_reducible first | exact HB.out | apply below_alloc | apply pw_below_drewN | apply below_drew1) | exact HB.out)) hb); clear HB; have HB := n0_; clear n0_; (try clear hb); (try clear hb2); (try clear hk); (try clear hi)))
    go_ret2
    exact ⟨by first | rfl | (simp [errW_none, errW_some] <;> rfl) | (simp [*, errW_none, errW_some] <;> rfl), by repeat (first | (with_reducible first | exact HB.out | apply below_alloc | apply pw_below_drewN | apply below_drew1) | exact HB.out)⟩

/-! ### versallaw23_SweepTells: function 6 -/
def versallaw23_SweepTells.f (k : Nat) (a0 : Int) (a1 : Int) (a2 : Int) (a3 : Int) (a4 : Int) (a5 : Int) (a6 : Bool) : Option (Bool) := if a6 = true then ((sweep_T.f k a0 a1 a2 a3 a4 a5).bind fun bt159 => ((versalref20_Sweep.f k a0 a1 a2 a3 a4 a5).bind fun bt161 => ((versallaw23_known.f k).bind fun t163 => (if t163 = true then (if bt159.1 = bt161.1 then (some (bt159.2 == bt161.2)) else (some false)) else (some false))))) else ((versalhand_Num.f a0).bind fun t164 => ((versalhand_Num.f a1).bind fun t165 => ((versalhand_Num.f a4).bind fun t166 => ((versalhand_Num.f a5).bind fun t167 => ((versalhand_Pick.f a2 140000).bind fun t168 => ((versalhand_Pick.f a3 140000).bind fun t169 => ((sweep_T.f k t164 t165 (wrap64 (t168 - 70000)) (wrap64 (t169 - 70000)) t166 t167).bind fun bt170 => ((versalref20_Sweep.f k t164 t165 (wrap64 (t168 - 70000)) (wrap64 (t169 - 70000)) t166 t167).bind fun bt172 => ((versallaw23_known.f k).bind fun t174 => (if t174 = true then (if bt170.1 = bt172.1 then (some (bt170.2 == bt172.2)) else (some false)) else (some false)))))))))))
theorem versallaw23_SweepTells.mono : ∀ a0 a1 a2 a3 a4 a5 a6 k, LeO (versallaw23_SweepTells.f k a0 a1 a2 a3 a4 a5 a6) (versallaw23_SweepTells.f (k + 1) a0 a1 a2 a3 a4 a5 a6) := by
  intro a0 a1 a2 a3 a4 a5 a6 k
  unfold versallaw23_SweepTells.f
  repeat' first
      | (with_reducible exact sweep_T.mono _ _ _ _ _ _ _)
      | (with_reducible exact versallaw23_known.mono _)
      | (with_reducible exact versalref20_Sweep.mono _ _ _ _ _ _ _)
      | (with_reducible exact LeO.refl _)
      | (with_reducible exact LeO.none _)
      | (with_reducible refine LeO.ite ?_ ?_)
      | (with_reducible refine LeO.bind ?_ (fun _ => ?_))
      | exact sweep_T.mono _ _ _ _ _ _ _
      | exact versallaw23_known.mono _
      | exact versalref20_Sweep.mono _ _ _ _ _ _ _
      | exact LeO.none _
      | refine LeO.ite ?_ ?_
      | refine LeO.bind ?_ (fun _ => ?_)
set_option maxHeartbeats 8000000 in
set_option maxRecDepth 100000 in
theorem versallaw23_SweepTells.calls (k : Nat) (a0 : Int) (a1 : Int) (a2 : Int) (a3 : Int) (a4 : Int) (a5 : Int) (a6 : Bool) (r : Bool) (w : World) (h : versallaw23_SweepTells.f k a0 a1 a2 a3 a4 a5 a6 = some r) :
    Calls Try.prog 6 #[.int .i64 a0, .int .i64 a1, .int .i64 a2, .int .i64 a3, .int .i64 a4, .int .i64 a5, .bool a6] w fun e w' => e = .returned (.bool r) ∧ Below w.heap.size w w' := by
  have HB := Aside0.mk (Below.refl w.heap.size w)
  have H : (if a6 = true then ((sweep_T.f k a0 a1 a2 a3 a4 a5).bind fun bt159 => ((versalref20_Sweep.f k a0 a1 a2 a3 a4 a5).bind fun bt161 => ((versallaw23_known.f k).bind fun t163 => (if t163 = true then (if bt159.1 = bt161.1 then (some (bt159.2 == bt161.2)) else (some false)) else (some false))))) else ((versalhand_Num.f a0).bind fun t164 => ((versalhand_Num.f a1).bind fun t165 => ((versalhand_Num.f a4).bind fun t166 => ((versalhand_Num.f a5).bind fun t167 => ((versalhand_Pick.f a2 140000).bind fun t168 => ((versalhand_Pick.f a3 140000).bind fun t169 => ((sweep_T.f k t164 t165 (wrap64 (t168 - 70000)) (wrap64 (t169 - 70000)) t166 t167).bind fun bt170 => ((versalref20_Sweep.f k t164 t165 (wrap64 (t168 - 70000)) (wrap64 (t169 - 70000)) t166 t167).bind fun bt172 => ((versallaw23_known.f k).bind fun t174 => (if t174 = true then (if bt170.1 = bt172.1 then (some (bt170.2 == bt172.2)) else (some false)) else (some false)))))))))))) = some r := h
  clear h
  by_cases c8 : a6 = true
  · subst c8
    have H1 : ((sweep_T.f k a0 a1 a2 a3 a4 a5).bind fun bt159 => ((versalref20_Sweep.f k a0 a1 a2 a3 a4 a5).bind fun bt161 => ((versallaw23_known.f k).bind fun t163 => (if t163 = true then (if bt159.1 = bt161.1 then (some (bt159.2 == bt161.2)) else (some false)) else (some false))))) = some r := by rw [if_pos rfl] at H; exact H
    clear H
    have H := H1
    clear H1
    replace H := Option.bind_eq_some_iff.mp H
    obtain ⟨⟨t159, t160⟩, A90, H⟩ := H
    replace H : ((versalref20_Sweep.f k a0 a1 a2 a3 a4 a5).bind fun bt161 => ((versallaw23_known.f k).bind fun t163 => (if t163 = true then (if t159 = bt161.1 then (some (t160 == bt161.2)) else (some false)) else (some false)))) = some r := H
    have A9 := Aside0.mk A90
    clear A90
    replace H := Option.bind_eq_some_iff.mp H
    obtain ⟨⟨t161, t162⟩, A100, H⟩ := H
    replace H : ((versallaw23_known.f k).bind fun t163 => (if t163 = true then (if t159 = t161 then (some (t160 == t162)) else (some false)) else (some false))) = some r := H
    have A10 := Aside0.mk A100
    clear A100
    replace H := Option.bind_eq_some_iff.mp H
    obtain ⟨t163, A110, H⟩ := H
    replace H : (if t163 = true then (if t159 = t161 then (some (t160 == t162)) else (some false)) else (some false)) = some r := H
    have A11 := Aside0.mk A110
    clear A110
    by_cases c12 : t163 = true
    · subst c12
      have H1 : (if t159 = t161 then (some (t160 == t162)) else (some false)) = some r := by rw [if_pos rfl] at H; exact H
      clear H
      have H := H1
      clear H1
      by_cases c13 : t159 = t161
      · rw [if_pos c13] at H
        have c13b0 : (t159 == t161) = true := beq_iff_eq.mpr c13
        have c13b1 : (t159 != t161) = false := bne_eq_false_iff_eq.mpr c13
        clear c13
        obtain rfl := Option.some.inj H
        go_enter Try.func6, Try.ntmps6
        go_wp2_with (first | ((with_reducible refine gate_callee (f := 20) rfl ?_); refine goesL_ (some 42) rfl rfl Try.func20 (by kernel_rfl) rfl #[.int .i64 a0, .int .i64 a1, .int .i64 a2, .int .i64 a3, .int .i64 a4, .int .i64 a5] rfl (by (try simp only [List.map_toArray, List.map_cons, List.map_nil]); first | done | rfl | (simp only [List.length_drop, List.length_take]; rfl)) ?_; (with_reducible refine (sweep_T.calls k a0 a1 a2 a3 a4 a5 t159 t160 _ A9.out).mono ?_); rintro e w14 ⟨rfl, hb⟩; refine ⟨_, rfl, ?_⟩; have n0_ := Aside0.mk (below_step (by repeat (first | (with_reducible first | exact HB.out | apply below_alloc | apply pw_below_drewN | apply below_drew1) | exact HB.out)) hb); clear HB; have HB := n0_; clear n0_; (try clear hb); (try clear hb2); (try clear hk); (try clear hi)) | ((with_reducible refine gate_callee (f := 23) rfl ?_); refine goesL_ (some 52) rfl rfl Try.func23 (by kernel_rfl) rfl #[.int .i64 a0, .int .i64 a1, .int .i64 a2, .int .i64 a3, .int .i64 a4, .int .i64 a5] rfl (by (try simp only [List.map_toArray, List.map_cons, List.map_nil]); first | done | rfl | (simp only [List.length_drop, List.length_take]; rfl)) ?_; (with_reducible refine (versalref20_Sweep.calls k a0 a1 a2 a3 a4 a5 t161 t162 _ A10.out).mono ?_); rintro e w15 ⟨rfl, hb⟩; refine ⟨_, rfl, ?_⟩; have n0_ := Aside0.mk (below_step (by repeat (first | (with_reducible first | exact HB.out | apply below_alloc | apply pw_below_drewN | apply below_drew1) | exact HB.out)) hb); clear HB; have HB := n0_; clear n0_; (try clear hb); (try clear hb2); (try clear hk); (try clear hi)) | ((with_reducible refine gate_callee (f := 21) rfl ?_); refine goesL_ (some 55) rfl rfl Try.func21 (by kernel_rfl) rfl #[] rfl (by (try simp only [List.map_toArray, List.map_cons, List.map_nil]); first | done | rfl | (simp only [List.length_drop, List.length_take]; rfl)) ?_; (with_reducible refine (versallaw23_known.calls k  true _ A11.out).mono ?_); rintro e w16 ⟨rfl, hb⟩; refine ⟨_, rfl, ?_⟩; have n0_ := Aside0.mk (below_step (by repeat (first | (with_reducible first | exact HB.out | apply below_alloc | apply pw_below_drewN | apply below_drew1) | exact HB.out)) hb); clear HB; have HB := n0_; clear n0_; (try clear hb); (try clear hb2); (try clear hk); (try clear hi)))
        go_ret
        exact ⟨by first | rfl | (simp [errW_none, errW_some] <;> rfl) | (simp [*, errW_none, errW_some] <;> rfl), by repeat (first | (with_reducible first | exact HB.out | apply below_alloc | apply pw_below_drewN | apply below_drew1) | exact HB.out)⟩
      · rw [if_neg c13] at H
        have c13b0 : (t159 == t161) = false := beq_eq_false_iff_ne.mpr c13
        have c13b1 : (t159 != t161) = true := bne_iff_ne.mpr c13
        obtain rfl := Option.some.inj H
        go_enter Try.func6, Try.ntmps6
        go_wp2_with (first | ((with_reducible refine gate_callee (f := 20) rfl ?_); refine goesL_ (some 42) rfl rfl Try.func20 (by kernel_rfl) rfl #[.int .i64 a0, .int .i64 a1, .int .i64 a2, .int .i64 a3, .int .i64 a4, .int .i64 a5] rfl (by (try simp only [List.map_toArray, List.map_cons, List.map_nil]); first | done | rfl | (simp only [List.length_drop, List.length_take]; rfl)) ?_; (with_reducible refine (sweep_T.calls k a0 a1 a2 a3 a4 a5 t159 t160 _ A9.out).mono ?_); rintro e w17 ⟨rfl, hb⟩; refine ⟨_, rfl, ?_⟩; have n0_ := Aside0.mk (below_step (by repeat (first | (with_reducible first | exact HB.out | apply below_alloc | apply pw_below_drewN | apply below_drew1) | exact HB.out)) hb); clear HB; have HB := n0_; clear n0_; (try clear hb); (try clear hb2); (try clear hk); (try clear hi)) | ((with_reducible refine gate_callee (f := 23) rfl ?_); refine goesL_ (some 52) rfl rfl Try.func23 (by kernel_rfl) rfl #[.int .i64 a0, .int .i64 a1, .int .i64 a2, .int .i64 a3, .int .i64 a4, .int .i64 a5] rfl (by (try simp only [List.map_toArray, List.map_cons, List.map_nil]); first | done | rfl | (simp only [List.length_drop, List.length_take]; rfl)) ?_; (with_reducible refine (versalref20_Sweep.calls k a0 a1 a2 a3 a4 a5 t161 t162 _ A10.out).mono ?_); rintro e w18 ⟨rfl, hb⟩; refine ⟨_, rfl, ?_⟩; have n0_ := Aside0.mk (below_step (by repeat (first | (with_reducible first | exact HB.out | apply below_alloc | apply pw_below_drewN | apply below_drew1) | exact HB.out)) hb); clear HB; have HB := n0_; clear n0_; (try clear hb); (try clear hb2); (try clear hk); (try clear hi)) | ((with_reducible refine gate_callee (f := 21) rfl ?_); refine goesL_ (some 55) rfl rfl Try.func21 (by kernel_rfl) rfl #[] rfl (by (try simp only [List.map_toArray, List.map_cons, List.map_nil]); first | done | rfl | (simp only [List.length_drop, List.length_take]; rfl)) ?_; (with_reducible refine (versallaw23_known.calls k  true _ A11.out).mono ?_); rintro e w19 ⟨rfl, hb⟩; refine ⟨_, rfl, ?_⟩; have n0_ := Aside0.mk (below_step (by repeat (first | (with_reducible first | exact HB.out | apply below_alloc | apply pw_below_drewN | apply below_drew1) | exact HB.out)) hb); clear HB; have HB := n0_; clear n0_; (try clear hb); (try clear hb2); (try clear hk); (try clear hi)))
        go_ret
        exact ⟨by first | rfl | (simp [errW_none, errW_some] <;> rfl) | (simp [*, errW_none, errW_some] <;> rfl), by repeat (first | (with_reducible first | exact HB.out | apply below_alloc | apply pw_below_drewN | apply below_drew1) | exact HB.out)⟩
    · replace c12 := Bool.eq_false_iff.mpr c12
      subst c12
      have H1 : (some false) = some r := by rw [if_neg (show ¬ (false = true) by decide)] at H; exact H
      clear H
      have H := H1
      clear H1
      obtain rfl := Option.some.inj H
      go_enter Try.func6, Try.ntmps6
      go_wp2_with (first | ((with_reducible refine gate_callee (f := 20) rfl ?_); refine goesL_ (some 42) rfl rfl Try.func20 (by kernel_rfl) rfl #[.int .i64 a0, .int .i64 a1, .int .i64 a2, .int .i64 a3, .int .i64 a4, .int .i64 a5] rfl (by (try simp only [List.map_toArray, List.map_cons, List.map_nil]); first | done | rfl | (simp only [List.length_drop, List.length_take]; rfl)) ?_; (with_reducible refine (sweep_T.calls k a0 a1 a2 a3 a4 a5 t159 t160 _ A9.out).mono ?_); rintro e w20 ⟨rfl, hb⟩; refine ⟨_, rfl, ?_⟩; have n0_ := Aside0.mk (below_step (by repeat (first | (with_reducible first | exact HB.out | apply below_alloc | apply pw_below_drewN | apply below_drew1) | exact HB.out)) hb); clear HB; have HB := n0_; clear n0_; (try clear hb); (try clear hb2); (try clear hk); (try clear hi)) | ((with_reducible refine gate_callee (f := 23) rfl ?_); refine goesL_ (some 52) rfl rfl Try.func23 (by kernel_rfl) rfl #[.int .i64 a0, .int .i64 a1, .int .i64 a2, .int .i64 a3, .int .i64 a4, .int .i64 a5] rfl (by (try simp only [List.map_toArray, List.map_cons, List.map_nil]); first | done | rfl | (simp only [List.length_drop, List.length_take]; rfl)) ?_; (with_reducible refine (versalref20_Sweep.calls k a0 a1 a2 a3 a4 a5 t161 t162 _ A10.out).mono ?_); rintro e w21 ⟨rfl, hb⟩; refine ⟨_, rfl, ?_⟩; have n0_ := Aside0.mk (below_step (by repeat (first | (with_reducible first | exact HB.out | apply below_alloc | apply pw_below_drewN | apply below_drew1) | exact HB.out)) hb); clear HB; have HB := n0_; clear n0_; (try clear hb); (try clear hb2); (try clear hk); (try clear hi)) | ((with_reducible refine gate_callee (f := 21) rfl ?_); refine goesL_ (some 55) rfl rfl Try.func21 (by kernel_rfl) rfl #[] rfl (by (try simp only [List.map_toArray, List.map_cons, List.map_nil]); first | done | rfl | (simp only [List.length_drop, List.length_take]; rfl)) ?_; (with_reducible refine (versallaw23_known.calls k  false _ A11.out).mono ?_); rintro e w22 ⟨rfl, hb⟩; refine ⟨_, rfl, ?_⟩; have n0_ := Aside0.mk (below_step (by repeat (first | (with_reducible first | exact HB.out | apply below_alloc | apply pw_below_drewN | apply below_drew1) | exact HB.out)) hb); clear HB; have HB := n0_; clear n0_; (try clear hb); (try clear hb2); (try clear hk); (try clear hi)))
      go_ret
      exact ⟨by first | rfl | (simp [errW_none, errW_some] <;> rfl) | (simp [*, errW_none, errW_some] <;> rfl), by repeat (first | (with_reducible first | exact HB.out | apply below_alloc | apply pw_below_drewN | apply below_drew1) | exact HB.out)⟩
  · replace c8 := Bool.eq_false_iff.mpr c8
    subst c8
    have H1 : ((versalhand_Num.f a0).bind fun t164 => ((versalhand_Num.f a1).bind fun t165 => ((versalhand_Num.f a4).bind fun t166 => ((versalhand_Num.f a5).bind fun t167 => ((versalhand_Pick.f a2 140000).bind fun t168 => ((versalhand_Pick.f a3 140000).bind fun t169 => ((sweep_T.f k t164 t165 (wrap64 (t168 - 70000)) (wrap64 (t169 - 70000)) t166 t167).bind fun bt170 => ((versalref20_Sweep.f k t164 t165 (wrap64 (t168 - 70000)) (wrap64 (t169 - 70000)) t166 t167).bind fun bt172 => ((versallaw23_known.f k).bind fun t174 => (if t174 = true then (if bt170.1 = bt172.1 then (some (bt170.2 == bt172.2)) else (some false)) else (some false))))))))))) = some r := by rw [if_neg (show ¬ (false = true) by decide)] at H; exact H
    clear H
    have H := H1
    clear H1
    replace H := Option.bind_eq_some_iff.mp H
    obtain ⟨t164, A230, H⟩ := H
    replace H : ((versalhand_Num.f a1).bind fun t165 => ((versalhand_Num.f a4).bind fun t166 => ((versalhand_Num.f a5).bind fun t167 => ((versalhand_Pick.f a2 140000).bind fun t168 => ((versalhand_Pick.f a3 140000).bind fun t169 => ((sweep_T.f k t164 t165 (wrap64 (t168 - 70000)) (wrap64 (t169 - 70000)) t166 t167).bind fun bt170 => ((versalref20_Sweep.f k t164 t165 (wrap64 (t168 - 70000)) (wrap64 (t169 - 70000)) t166 t167).bind fun bt172 => ((versallaw23_known.f k).bind fun t174 => (if t174 = true then (if bt170.1 = bt172.1 then (some (bt170.2 == bt172.2)) else (some false)) else (some false)))))))))) = some r := H
    have A23 := Aside0.mk A230
    clear A230
    replace H := Option.bind_eq_some_iff.mp H
    obtain ⟨t165, A240, H⟩ := H
    replace H : ((versalhand_Num.f a4).bind fun t166 => ((versalhand_Num.f a5).bind fun t167 => ((versalhand_Pick.f a2 140000).bind fun t168 => ((versalhand_Pick.f a3 140000).bind fun t169 => ((sweep_T.f k t164 t165 (wrap64 (t168 - 70000)) (wrap64 (t169 - 70000)) t166 t167).bind fun bt170 => ((versalref20_Sweep.f k t164 t165 (wrap64 (t168 - 70000)) (wrap64 (t169 - 70000)) t166 t167).bind fun bt172 => ((versallaw23_known.f k).bind fun t174 => (if t174 = true then (if bt170.1 = bt172.1 then (some (bt170.2 == bt172.2)) else (some false)) else (some false))))))))) = some r := H
    have A24 := Aside0.mk A240
    clear A240
    replace H := Option.bind_eq_some_iff.mp H
    obtain ⟨t166, A250, H⟩ := H
    replace H : ((versalhand_Num.f a5).bind fun t167 => ((versalhand_Pick.f a2 140000).bind fun t168 => ((versalhand_Pick.f a3 140000).bind fun t169 => ((sweep_T.f k t164 t165 (wrap64 (t168 - 70000)) (wrap64 (t169 - 70000)) t166 t167).bind fun bt170 => ((versalref20_Sweep.f k t164 t165 (wrap64 (t168 - 70000)) (wrap64 (t169 - 70000)) t166 t167).bind fun bt172 => ((versallaw23_known.f k).bind fun t174 => (if t174 = true then (if bt170.1 = bt172.1 then (some (bt170.2 == bt172.2)) else (some false)) else (some false)))))))) = some r := H
    have A25 := Aside0.mk A250
    clear A250
    replace H := Option.bind_eq_some_iff.mp H
    obtain ⟨t167, A260, H⟩ := H
    replace H : ((versalhand_Pick.f a2 140000).bind fun t168 => ((versalhand_Pick.f a3 140000).bind fun t169 => ((sweep_T.f k t164 t165 (wrap64 (t168 - 70000)) (wrap64 (t169 - 70000)) t166 t167).bind fun bt170 => ((versalref20_Sweep.f k t164 t165 (wrap64 (t168 - 70000)) (wrap64 (t169 - 70000)) t166 t167).bind fun bt172 => ((versallaw23_known.f k).bind fun t174 => (if t174 = true then (if bt170.1 = bt172.1 then (some (bt170.2 == bt172.2)) else (some false)) else (some false))))))) = some r := H
    have A26 := Aside0.mk A260
    clear A260
    replace H := Option.bind_eq_some_iff.mp H
    obtain ⟨t168, A270, H⟩ := H
    replace H : ((versalhand_Pick.f a3 140000).bind fun t169 => ((sweep_T.f k t164 t165 (wrap64 (t168 - 70000)) (wrap64 (t169 - 70000)) t166 t167).bind fun bt170 => ((versalref20_Sweep.f k t164 t165 (wrap64 (t168 - 70000)) (wrap64 (t169 - 70000)) t166 t167).bind fun bt172 => ((versallaw23_known.f k).bind fun t174 => (if t174 = true then (if bt170.1 = bt172.1 then (some (bt170.2 == bt172.2)) else (some false)) else (some false)))))) = some r := H
    have A27 := Aside0.mk A270
    clear A270
    replace H := Option.bind_eq_some_iff.mp H
    obtain ⟨t169, A280, H⟩ := H
    replace H : ((sweep_T.f k t164 t165 (wrap64 (t168 - 70000)) (wrap64 (t169 - 70000)) t166 t167).bind fun bt170 => ((versalref20_Sweep.f k t164 t165 (wrap64 (t168 - 70000)) (wrap64 (t169 - 70000)) t166 t167).bind fun bt172 => ((versallaw23_known.f k).bind fun t174 => (if t174 = true then (if bt170.1 = bt172.1 then (some (bt170.2 == bt172.2)) else (some false)) else (some false))))) = some r := H
    have A28 := Aside0.mk A280
    clear A280
    replace H := Option.bind_eq_some_iff.mp H
    obtain ⟨⟨t170, t171⟩, A290, H⟩ := H
    replace H : ((versalref20_Sweep.f k t164 t165 (wrap64 (t168 - 70000)) (wrap64 (t169 - 70000)) t166 t167).bind fun bt172 => ((versallaw23_known.f k).bind fun t174 => (if t174 = true then (if t170 = bt172.1 then (some (t171 == bt172.2)) else (some false)) else (some false)))) = some r := H
    have A29 := Aside0.mk A290
    clear A290
    replace H := Option.bind_eq_some_iff.mp H
    obtain ⟨⟨t172, t173⟩, A300, H⟩ := H
    replace H : ((versallaw23_known.f k).bind fun t174 => (if t174 = true then (if t170 = t172 then (some (t171 == t173)) else (some false)) else (some false))) = some r := H
    have A30 := Aside0.mk A300
    clear A300
    replace H := Option.bind_eq_some_iff.mp H
    obtain ⟨t174, A310, H⟩ := H
    replace H : (if t174 = true then (if t170 = t172 then (some (t171 == t173)) else (some false)) else (some false)) = some r := H
    have A31 := Aside0.mk A310
    clear A310
    by_cases c32 : t174 = true
    · subst c32
      have H1 : (if t170 = t172 then (some (t171 == t173)) else (some false)) = some r := by rw [if_pos rfl] at H; exact H
      clear H
      have H := H1
      clear H1
      by_cases c33 : t170 = t172
      · rw [if_pos c33] at H
        have c33b0 : (t170 == t172) = true := beq_iff_eq.mpr c33
        have c33b1 : (t170 != t172) = false := bne_eq_false_iff_eq.mpr c33
        clear c33
        obtain rfl := Option.some.inj H
        go_enter Try.func6, Try.ntmps6
        go_wp2_with (first | ((with_reducible refine gate_callee (f := 18) rfl ?_); refine goesL_ (some 22) rfl rfl Try.func18 (by kernel_rfl) rfl #[.int .i64 a0] rfl (by (try simp only [List.map_toArray, List.map_cons, List.map_nil]); first | done | rfl | (simp only [List.length_drop, List.length_take]; rfl)) ?_; (with_reducible refine (versalhand_Num.calls a0 t164 _ A23.out).mono ?_); rintro e w' ⟨rfl, ⟨nd, rfl⟩⟩; refine ⟨_, rfl, ?_⟩) | ((with_reducible refine gate_callee (f := 18) rfl ?_); refine goesL_ (some 24) rfl rfl Try.func18 (by kernel_rfl) rfl #[.int .i64 a1] rfl (by (try simp only [List.map_toArray, List.map_cons, List.map_nil]); first | done | rfl | (simp only [List.length_drop, List.length_take]; rfl)) ?_; (with_reducible refine (versalhand_Num.calls a1 t165 _ A24.out).mono ?_); rintro e w' ⟨rfl, ⟨nd, rfl⟩⟩; refine ⟨_, rfl, ?_⟩) | ((with_reducible refine gate_callee (f := 18) rfl ?_); refine goesL_ (some 26) rfl rfl Try.func18 (by kernel_rfl) rfl #[.int .i64 a4] rfl (by (try simp only [List.map_toArray, List.map_cons, List.map_nil]); first | done | rfl | (simp only [List.length_drop, List.length_take]; rfl)) ?_; (with_reducible refine (versalhand_Num.calls a4 t166 _ A25.out).mono ?_); rintro e w' ⟨rfl, ⟨nd, rfl⟩⟩; refine ⟨_, rfl, ?_⟩) | ((with_reducible refine gate_callee (f := 18) rfl ?_); refine goesL_ (some 28) rfl rfl Try.func18 (by kernel_rfl) rfl #[.int .i64 a5] rfl (by (try simp only [List.map_toArray, List.map_cons, List.map_nil]); first | done | rfl | (simp only [List.length_drop, List.length_take]; rfl)) ?_; (with_reducible refine (versalhand_Num.calls a5 t167 _ A26.out).mono ?_); rintro e w' ⟨rfl, ⟨nd, rfl⟩⟩; refine ⟨_, rfl, ?_⟩) | ((with_reducible refine gate_callee (f := 22) rfl ?_); refine goesL_ (some 30) rfl rfl Try.func22 (by kernel_rfl) rfl #[.int .i64 a2, .int .i64 140000] rfl (by (try simp only [List.map_toArray, List.map_cons, List.map_nil]); first | done | rfl | (simp only [List.length_drop, List.length_take]; rfl)) ?_; (with_reducible refine (versalhand_Pick.calls a2 140000 t168 _ A27.out).mono ?_); rintro e w' ⟨rfl, ⟨nd, rfl⟩⟩; refine ⟨_, rfl, ?_⟩) | ((with_reducible refine gate_callee (f := 22) rfl ?_); refine goesL_ (some 33) rfl rfl Try.func22 (by kernel_rfl) rfl #[.int .i64 a3, .int .i64 140000] rfl (by (try simp only [List.map_toArray, List.map_cons, List.map_nil]); first | done | rfl | (simp only [List.length_drop, List.length_take]; rfl)) ?_; (with_reducible refine (versalhand_Pick.calls a3 140000 t169 _ A28.out).mono ?_); rintro e w' ⟨rfl, ⟨nd, rfl⟩⟩; refine ⟨_, rfl, ?_⟩) | ((with_reducible refine gate_callee (f := 20) rfl ?_); refine goesL_ (some 42) rfl rfl Try.func20 (by kernel_rfl) rfl #[.int .i64 t164, .int .i64 t165, .int .i64 (wrap64 (t168 - 70000)), .int .i64 (wrap64 (t169 - 70000)), .int .i64 t166, .int .i64 t167] rfl (by (try simp only [List.map_toArray, List.map_cons, List.map_nil]); first | done | rfl | (simp only [List.length_drop, List.length_take]; rfl)) ?_; (with_reducible refine (sweep_T.calls k t164 t165 (wrap64 (t168 - 70000)) (wrap64 (t169 - 70000)) t166 t167 t170 t171 _ A29.out).mono ?_); rintro e w34 ⟨rfl, hb⟩; refine ⟨_, rfl, ?_⟩; have n0_ := Aside0.mk (below_step (by repeat (first | (with_reducible first | exact HB.out | apply below_alloc | apply pw_below_drewN | apply below_drew1) | exact HB.out)) hb); clear HB; have HB := n0_; clear n0_; (try clear hb); (try clear hb2); (try clear hk); (try clear hi)) | ((with_reducible refine gate_callee (f := 23) rfl ?_); refine goesL_ (some 52) rfl rfl Try.func23 (by kernel_rfl) rfl #[.int .i64 t164, .int .i64 t165, .int .i64 (wrap64 (t168 - 70000)), .int .i64 (wrap64 (t169 - 70000)), .int .i64 t166, .int .i64 t167] rfl (by (try simp only [List.map_toArray, List.map_cons, List.map_nil]); first | done | rfl | (simp only [List.length_drop, List.length_take]; rfl)) ?_; (with_reducible refine (versalref20_Sweep.calls k t164 t165 (wrap64 (t168 - 70000)) (wrap64 (t169 - 70000)) t166 t167 t172 t173 _ A30.out).mono ?_); rintro e w35 ⟨rfl, hb⟩; refine ⟨_, rfl, ?_⟩; have n0_ := Aside0.mk (below_step (by repeat (first | (with_reducible first | exact HB.out | apply below_alloc | apply pw_below_drewN | apply below_drew1) | exact HB.out)) hb); clear HB; have HB := n0_; clear n0_; (try clear hb); (try clear hb2); (try clear hk); (try clear hi)) | ((with_reducible refine gate_callee (f := 21) rfl ?_); refine goesL_ (some 55) rfl rfl Try.func21 (by kernel_rfl) rfl #[] rfl (by (try simp only [List.map_toArray, List.map_cons, List.map_nil]); first | done | rfl | (simp only [List.length_drop, List.length_take]; rfl)) ?_; (with_reducible refine (versallaw23_known.calls k  true _ A31.out).mono ?_); rintro e w36 ⟨rfl, hb⟩; refine ⟨_, rfl, ?_⟩; have n0_ := Aside0.mk (below_step (by repeat (first | (with_reducible first | exact HB.out | apply below_alloc | apply pw_below_drewN | apply below_drew1) | exact HB.out)) hb); clear HB; have HB := n0_; clear n0_; (try clear hb); (try clear hb2); (try clear hk); (try clear hi)))
        go_ret
        exact ⟨by first | rfl | (simp [errW_none, errW_some] <;> rfl) | (simp [*, errW_none, errW_some] <;> rfl), by repeat (first | (with_reducible first | exact HB.out | apply below_alloc | apply pw_below_drewN | apply below_drew1) | exact HB.out)⟩
      · rw [if_neg c33] at H
        have c33b0 : (t170 == t172) = false := beq_eq_false_iff_ne.mpr c33
        have c33b1 : (t170 != t172) = true := bne_iff_ne.mpr c33
        obtain rfl := Option.some.inj H
        go_enter Try.func6, Try.ntmps6
        go_wp2_with (first | ((with_reducible refine gate_callee (f := 18) rfl ?_); refine goesL_ (some 22) rfl rfl Try.func18 (by kernel_rfl) rfl #[.int .i64 a0] rfl (by (try simp only [List.map_toArray, List.map_cons, List.map_nil]); first | done | rfl | (simp only [List.length_drop, List.length_take]; rfl)) ?_; (with_reducible refine (versalhand_Num.calls a0 t164 _ A23.out).mono ?_); rintro e w' ⟨rfl, ⟨nd, rfl⟩⟩; refine ⟨_, rfl, ?_⟩) | ((with_reducible refine gate_callee (f := 18) rfl ?_); refine goesL_ (some 24) rfl rfl Try.func18 (by kernel_rfl) rfl #[.int .i64 a1] rfl (by (try simp only [List.map_toArray, List.map_cons, List.map_nil]); first | done | rfl | (simp only [List.length_drop, List.length_take]; rfl)) ?_; (with_reducible refine (versalhand_Num.calls a1 t165 _ A24.out).mono ?_); rintro e w' ⟨rfl, ⟨nd, rfl⟩⟩; refine ⟨_, rfl, ?_⟩) | ((with_reducible refine gate_callee (f := 18) rfl ?_); refine goesL_ (some 26) rfl rfl Try.func18 (by kernel_rfl) rfl #[.int .i64 a4] rfl (by (try simp only [List.map_toArray, List.map_cons, List.map_nil]); first | done | rfl | (simp only [List.length_drop, List.length_take]; rfl)) ?_; (with_reducible refine (versalhand_Num.calls a4 t166 _ A25.out).mono ?_); rintro e w' ⟨rfl, ⟨nd, rfl⟩⟩; refine ⟨_, rfl, ?_⟩) | ((with_reducible refine gate_callee (f := 18) rfl ?_); refine goesL_ (some 28) rfl rfl Try.func18 (by kernel_rfl) rfl #[.int .i64 a5] rfl (by (try simp only [List.map_toArray, List.map_cons, List.map_nil]); first | done | rfl | (simp only [List.length_drop, List.length_take]; rfl)) ?_; (with_reducible refine (versalhand_Num.calls a5 t167 _ A26.out).mono ?_); rintro e w' ⟨rfl, ⟨nd, rfl⟩⟩; refine ⟨_, rfl, ?_⟩) | ((with_reducible refine gate_callee (f := 22) rfl ?_); refine goesL_ (some 30) rfl rfl Try.func22 (by kernel_rfl) rfl #[.int .i64 a2, .int .i64 140000] rfl (by (try simp only [List.map_toArray, List.map_cons, List.map_nil]); first | done | rfl | (simp only [List.length_drop, List.length_take]; rfl)) ?_; (with_reducible refine (versalhand_Pick.calls a2 140000 t168 _ A27.out).mono ?_); rintro e w' ⟨rfl, ⟨nd, rfl⟩⟩; refine ⟨_, rfl, ?_⟩) | ((with_reducible refine gate_callee (f := 22) rfl ?_); refine goesL_ (some 33) rfl rfl Try.func22 (by kernel_rfl) rfl #[.int .i64 a3, .int .i64 140000] rfl (by (try simp only [List.map_toArray, List.map_cons, List.map_nil]); first | done | rfl | (simp only [List.length_drop, List.length_take]; rfl)) ?_; (with_reducible refine (versalhand_Pick.calls a3 140000 t169 _ A28.out).mono ?_); rintro e w' ⟨rfl, ⟨nd, rfl⟩⟩; refine ⟨_, rfl, ?_⟩) | ((with_reducible refine gate_callee (f := 20) rfl ?_); refine goesL_ (some 42) rfl rfl Try.func20 (by kernel_rfl) rfl #[.int .i64 t164, .int .i64 t165, .int .i64 (wrap64 (t168 - 70000)), .int .i64 (wrap64 (t169 - 70000)), .int .i64 t166, .int .i64 t167] rfl (by (try simp only [List.map_toArray, List.map_cons, List.map_nil]); first | done | rfl | (simp only [List.length_drop, List.length_take]; rfl)) ?_; (with_reducible refine (sweep_T.calls k t164 t165 (wrap64 (t168 - 70000)) (wrap64 (t169 - 70000)) t166 t167 t170 t171 _ A29.out).mono ?_); rintro e w37 ⟨rfl, hb⟩; refine ⟨_, rfl, ?_⟩; have n0_ := Aside0.mk (below_step (by repeat (first | (with_reducible first | exact HB.out | apply below_alloc | apply pw_below_drewN | apply below_drew1) | exact HB.out)) hb); clear HB; have HB := n0_; clear n0_; (try clear hb); (try clear hb2); (try clear hk); (try clear hi)) | ((with_reducible refine gate_callee (f := 23) rfl ?_); refine goesL_ (some 52) rfl rfl Try.func23 (by kernel_rfl) rfl #[.int .i64 t164, .int .i64 t165, .int .i64 (wrap64 (t168 - 70000)), .int .i64 (wrap64 (t169 - 70000)), .int .i64 t166, .int .i64 t167] rfl (by (try simp only [List.map_toArray, List.map_cons, List.map_nil]); first | done | rfl | (simp only [List.length_drop, List.length_take]; rfl)) ?_; (with_reducible refine (versalref20_Sweep.calls k t164 t165 (wrap64 (t168 - 70000)) (wrap64 (t169 - 70000)) t166 t167 t172 t173 _ A30.out).mono ?_); rintro e w38 ⟨rfl, hb⟩; refine ⟨_, rfl, ?_⟩; have n0_ := Aside0.mk (below_step (by repeat (first | (with_reducible first | exact HB.out | apply below_alloc | apply pw_below_drewN | apply below_drew1) | exact HB.out)) hb); clear HB; have HB := n0_; clear n0_; (try clear hb); (try clear hb2); (try clear hk); (try clear hi)) | ((with_reducible refine gate_callee (f := 21) rfl ?_); refine goesL_ (some 55) rfl rfl Try.func21 (by kernel_rfl) rfl #[] rfl (by (try simp only [List.map_toArray, List.map_cons, List.map_nil]); first | done | rfl | (simp only [List.length_drop, List.length_take]; rfl)) ?_; (with_reducible refine (versallaw23_known.calls k  true _ A31.out).mono ?_); rintro e w39 ⟨rfl, hb⟩; refine ⟨_, rfl, ?_⟩; have n0_ := Aside0.mk (below_step (by repeat (first | (with_reducible first | exact HB.out | apply below_alloc | apply pw_below_drewN | apply below_drew1) | exact HB.out)) hb); clear HB; have HB := n0_; clear n0_; (try clear hb); (try clear hb2); (try clear hk); (try clear hi)))
        go_ret
        exact ⟨by first | rfl | (simp [errW_none, errW_some] <;> rfl) | (simp [*, errW_none, errW_some] <;> rfl), by repeat (first | (with_reducible first | exact HB.out | apply below_alloc | apply pw_below_drewN | apply below_drew1) | exact HB.out)⟩
    · replace c32 := Bool.eq_false_iff.mpr c32
      subst c32
      have H1 : (some false) = some r := by rw [if_neg (show ¬ (false = true) by decide)] at H; exact H
      clear H
      have H := H1
      clear H1
      obtain rfl := Option.some.inj H
      go_enter Try.func6, Try.ntmps6
      go_wp2_with (first | ((with_reducible refine gate_callee (f := 18) rfl ?_); refine goesL_ (some 22) rfl rfl Try.func18 (by kernel_rfl) rfl #[.int .i64 a0] rfl (by (try simp only [List.map_toArray, List.map_cons, List.map_nil]); first | done | rfl | (simp only [List.length_drop, List.length_take]; rfl)) ?_; (with_reducible refine (versalhand_Num.calls a0 t164 _ A23.out).mono ?_); rintro e w' ⟨rfl, ⟨nd, rfl⟩⟩; refine ⟨_, rfl, ?_⟩) | ((with_reducible refine gate_callee (f := 18) rfl ?_); refine goesL_ (some 24) rfl rfl Try.func18 (by kernel_rfl) rfl #[.int .i64 a1] rfl (by (try simp only [List.map_toArray, List.map_cons, List.map_nil]); first | done | rfl | (simp only [List.length_drop, List.length_take]; rfl)) ?_; (with_reducible refine (versalhand_Num.calls a1 t165 _ A24.out).mono ?_); rintro e w' ⟨rfl, ⟨nd, rfl⟩⟩; refine ⟨_, rfl, ?_⟩) | ((with_reducible refine gate_callee (f := 18) rfl ?_); refine goesL_ (some 26) rfl rfl Try.func18 (by kernel_rfl) rfl #[.int .i64 a4] rfl (by (try simp only [List.map_toArray, List.map_cons, List.map_nil]); first | done | rfl | (simp only [List.length_drop, List.length_take]; rfl)) ?_; (with_reducible refine (versalhand_Num.calls a4 t166 _ A25.out).mono ?_); rintro e w' ⟨rfl, ⟨nd, rfl⟩⟩; refine ⟨_, rfl, ?_⟩) | ((with_reducible refine gate_callee (f := 18) rfl ?_); refine goesL_ (some 28) rfl rfl Try.func18 (by kernel_rfl) rfl #[.int .i64 a5] rfl (by (try simp only [List.map_toArray, List.map_cons, List.map_nil]); first | done | rfl | (simp only [List.length_drop, List.length_take]; rfl)) ?_; (with_reducible refine (versalhand_Num.calls a5 t167 _ A26.out).mono ?_); rintro e w' ⟨rfl, ⟨nd, rfl⟩⟩; refine ⟨_, rfl, ?_⟩) | ((with_reducible refine gate_callee (f := 22) rfl ?_); refine goesL_ (some 30) rfl rfl Try.func22 (by kernel_rfl) rfl #[.int .i64 a2, .int .i64 140000] rfl (by (try simp only [List.map_toArray, List.map_cons, List.map_nil]); first | done | rfl | (simp only [List.length_drop, List.length_take]; rfl)) ?_; (with_reducible refine (versalhand_Pick.calls a2 140000 t168 _ A27.out).mono ?_); rintro e w' ⟨rfl, ⟨nd, rfl⟩⟩; refine ⟨_, rfl, ?_⟩) | ((with_reducible refine gate_callee (f := 22) rfl ?_); refine goesL_ (some 33) rfl rfl Try.func22 (by kernel_rfl) rfl #[.int .i64 a3, .int .i64 140000] rfl (by (try simp only [List.map_toArray, List.map_cons, List.map_nil]); first | done | rfl | (simp only [List.length_drop, List.length_take]; rfl)) ?_; (with_reducible refine (versalhand_Pick.calls a3 140000 t169 _ A28.out).mono ?_); rintro e w' ⟨rfl, ⟨nd, rfl⟩⟩; refine ⟨_, rfl, ?_⟩) | ((with_reducible refine gate_callee (f := 20) rfl ?_); refine goesL_ (some 42) rfl rfl Try.func20 (by kernel_rfl) rfl #[.int .i64 t164, .int .i64 t165, .int .i64 (wrap64 (t168 - 70000)), .int .i64 (wrap64 (t169 - 70000)), .int .i64 t166, .int .i64 t167] rfl (by (try simp only [List.map_toArray, List.map_cons, List.map_nil]); first | done | rfl | (simp only [List.length_drop, List.length_take]; rfl)) ?_; (with_reducible refine (sweep_T.calls k t164 t165 (wrap64 (t168 - 70000)) (wrap64 (t169 - 70000)) t166 t167 t170 t171 _ A29.out).mono ?_); rintro e w40 ⟨rfl, hb⟩; refine ⟨_, rfl, ?_⟩; have n0_ := Aside0.mk (below_step (by repeat (first | (with_reducible first | exact HB.out | apply below_alloc | apply pw_below_drewN | apply below_drew1) | exact HB.out)) hb); clear HB; have HB := n0_; clear n0_; (try clear hb); (try clear hb2); (try clear hk); (try clear hi)) | ((with_reducible refine gate_callee (f := 23) rfl ?_); refine goesL_ (some 52) rfl rfl Try.func23 (by kernel_rfl) rfl #[.int .i64 t164, .int .i64 t165, .int .i64 (wrap64 (t168 - 70000)), .int .i64 (wrap64 (t169 - 70000)), .int .i64 t166, .int .i64 t167] rfl (by (try simp only [List.map_toArray, List.map_cons, List.map_nil]); first | done | rfl | (simp only [List.length_drop, List.length_take]; rfl)) ?_; (with_reducible refine (versalref20_Sweep.calls k t164 t165 (wrap64 (t168 - 70000)) (wrap64 (t169 - 70000)) t166 t167 t172 t173 _ A30.out).mono ?_); rintro e w41 ⟨rfl, hb⟩; refine ⟨_, rfl, ?_⟩; have n0_ := Aside0.mk (below_step (by repeat (first | (with_reducible first | exact HB.out | apply below_alloc | apply pw_below_drewN | apply below_drew1) | exact HB.out)) hb); clear HB; have HB := n0_; clear n0_; (try clear hb); (try clear hb2); (try clear hk); (try clear hi)) | ((with_reducible refine gate_callee (f := 21) rfl ?_); refine goesL_ (some 55) rfl rfl Try.func21 (by kernel_rfl) rfl #[] rfl (by (try simp only [List.map_toArray, List.map_cons, List.map_nil]); first | done | rfl | (simp only [List.length_drop, List.length_take]; rfl)) ?_; (with_reducible refine (versallaw23_known.calls k  false _ A31.out).mono ?_); rintro e w42 ⟨rfl, hb⟩; refine ⟨_, rfl, ?_⟩; have n0_ := Aside0.mk (below_step (by repeat (first | (with_reducible first | exact HB.out | apply below_alloc | apply pw_below_drewN | apply below_drew1) | exact HB.out)) hb); clear HB; have HB := n0_; clear n0_; (try clear hb); (try clear hb2); (try clear hk); (try clear hi)))
      go_ret
      exact ⟨by first | rfl | (simp [errW_none, errW_some] <;> rfl) | (simp [*, errW_none, errW_some] <;> rfl), by repeat (first | (with_reducible first | exact HB.out | apply below_alloc | apply pw_below_drewN | apply below_drew1) | exact HB.out)⟩

/-- THE ONE PURE STATEMENT of versallaw23_SweepTells: yours. -/
def versallaw23_SweepTells.Pure : Prop := ∀ (a0 : Int) (a1 : Int) (a2 : Int) (a3 : Int) (a4 : Int) (a5 : Int) (a6 : Bool), (Lit.int .i64 a0).wf = true → (Lit.int .i64 a1).wf = true → (Lit.int .i64 a2).wf = true → (Lit.int .i64 a3).wf = true → (Lit.int .i64 a4).wf = true → (Lit.int .i64 a5).wf = true → ∃ k, versallaw23_SweepTells.f k a0 a1 a2 a3 a4 a5 a6 = some true
theorem versallaw23_SweepTells.walk (P : versallaw23_SweepTells.Pure) (a0 : Int) (a1 : Int) (a2 : Int) (a3 : Int) (a4 : Int) (a5 : Int) (a6 : Bool) (w : World) (w0 : (Lit.int .i64 a0).wf = true) (w1 : (Lit.int .i64 a1).wf = true) (w2 : (Lit.int .i64 a2).wf = true) (w3 : (Lit.int .i64 a3).wf = true) (w4 : (Lit.int .i64 a4).wf = true) (w5 : (Lit.int .i64 a5).wf = true) :
    Calls Try.prog 6 #[.int .i64 a0, .int .i64 a1, .int .i64 a2, .int .i64 a3, .int .i64 a4, .int .i64 a5, .bool a6] w fun e w' => e = .returned (.bool true) ∧ Below w.heap.size w w' := by
  obtain ⟨k, h⟩ := P a0 a1 a2 a3 a4 a5 a6 w0 w1 w2 w3 w4 w5
  refine (versallaw23_SweepTells.calls k a0 a1 a2 a3 a4 a5 a6 true w h).mono ?_
  rintro e w' ⟨rfl, hd⟩
  exact ⟨rfl, hd⟩

end Go.Proofs.Ytaohkdieigbccaa.PSweepTells
