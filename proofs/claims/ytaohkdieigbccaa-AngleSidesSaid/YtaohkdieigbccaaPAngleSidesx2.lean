-- PRINTED BY print.sh 35421559b90ae4d0a3588c463048766b98c2df88dd9212a6774a882060cdf62d: not written by this session
import Derived.Test.YtaohkdieigbccaaPAngleSidesx0
import Derived.Test.YtaohkdieigbccaaPAngleSidesx1
namespace Go.Proofs.Ytaohkdieigbccaa.PAngleSides
open Go.RowKit Go.Proofs.YtaohkdieigbccaaW.PrintWords Go.Proofs.YtaohkdieigbccaaW.PrintLast Go.Proofs.YtaohkdieigbccaaW.PrintMore
attribute [local go_sem] max2_int min2_int max_two min_two max_three min_three max_four min_four   -- for this text's walks alone
set_option linter.unusedVariables false
set_option linter.unusedSimpArgs false

/-! ### versallaw4_AngleSides: function 4 -/
mutual
def versallaw4_AngleSides.j0 : Nat → Int → Int → Int → Bool → Option (Bool)
  | 0, _, _, _, _ => none
  | k + 1, x0, x1, x5, x24 => if x24 = true then (some false) else (if x1 = 0 then (versallaw4_AngleSides.j1 k x0 x1 x5 (x0 == 0)) else (versallaw4_AngleSides.j1 k x0 x1 x5 false))
def versallaw4_AngleSides.j1 : Nat → Int → Int → Int → Bool → Option (Bool)
  | 0, _, _, _, _ => none
  | k + 1, x0, x1, x5, x30 => if x30 = true then (some (x5 == 0)) else (if x0 > 0 then (if x5 < 0 then (versallaw4_AngleSides.j2 k x0 x1 x5 true) else (if x5 > 32768 then (versallaw4_AngleSides.j2 k x0 x1 x5 true) else (if x0 < 0 then (if x5 > 0 then (if x5 < 32768 then (versallaw4_AngleSides.j2 k x0 x1 x5 true) else (if x1 > 0 then (if x5 > 16384 then (if x5 < 49152 then (versallaw4_AngleSides.j2 k x0 x1 x5 true) else (if x1 < 0 then (if x5 < 16384 then (versallaw4_AngleSides.j2 k x0 x1 x5 true) else (versallaw4_AngleSides.j2 k x0 x1 x5 (decide (x5 > 49152)))) else (versallaw4_AngleSides.j2 k x0 x1 x5 false))) else (if x1 < 0 then (if x5 < 16384 then (versallaw4_AngleSides.j2 k x0 x1 x5 true) else (versallaw4_AngleSides.j2 k x0 x1 x5 (decide (x5 > 49152)))) else (versallaw4_AngleSides.j2 k x0 x1 x5 false))) else (if x1 < 0 then (if x5 < 16384 then (versallaw4_AngleSides.j2 k x0 x1 x5 true) else (versallaw4_AngleSides.j2 k x0 x1 x5 (decide (x5 > 49152)))) else (versallaw4_AngleSides.j2 k x0 x1 x5 false)))) else (if x1 > 0 then (if x5 > 16384 then (if x5 < 49152 then (versallaw4_AngleSides.j2 k x0 x1 x5 true) else (if x1 < 0 then (if x5 < 16384 then (versallaw4_AngleSides.j2 k x0 x1 x5 true) else (versallaw4_AngleSides.j2 k x0 x1 x5 (decide (x5 > 49152)))) else (versallaw4_AngleSides.j2 k x0 x1 x5 false))) else (if x1 < 0 then (if x5 < 16384 then (versallaw4_AngleSides.j2 k x0 x1 x5 true) else (versallaw4_AngleSides.j2 k x0 x1 x5 (decide (x5 > 49152)))) else (versallaw4_AngleSides.j2 k x0 x1 x5 false))) else (if x1 < 0 then (if x5 < 16384 then (versallaw4_AngleSides.j2 k x0 x1 x5 true) else (versallaw4_AngleSides.j2 k x0 x1 x5 (decide (x5 > 49152)))) else (versallaw4_AngleSides.j2 k x0 x1 x5 false)))) else (if x1 > 0 then (if x5 > 16384 then (if x5 < 49152 then (versallaw4_AngleSides.j2 k x0 x1 x5 true) else (if x1 < 0 then (if x5 < 16384 then (versallaw4_AngleSides.j2 k x0 x1 x5 true) else (versallaw4_AngleSides.j2 k x0 x1 x5 (decide (x5 > 49152)))) else (versallaw4_AngleSides.j2 k x0 x1 x5 false))) else (if x1 < 0 then (if x5 < 16384 then (versallaw4_AngleSides.j2 k x0 x1 x5 true) else (versallaw4_AngleSides.j2 k x0 x1 x5 (decide (x5 > 49152)))) else (versallaw4_AngleSides.j2 k x0 x1 x5 false))) else (if x1 < 0 then (if x5 < 16384 then (versallaw4_AngleSides.j2 k x0 x1 x5 true) else (versallaw4_AngleSides.j2 k x0 x1 x5 (decide (x5 > 49152)))) else (versallaw4_AngleSides.j2 k x0 x1 x5 false)))))) else (if x0 < 0 then (if x5 > 0 then (if x5 < 32768 then (versallaw4_AngleSides.j2 k x0 x1 x5 true) else (if x1 > 0 then (if x5 > 16384 then (if x5 < 49152 then (versallaw4_AngleSides.j2 k x0 x1 x5 true) else (if x1 < 0 then (if x5 < 16384 then (versallaw4_AngleSides.j2 k x0 x1 x5 true) else (versallaw4_AngleSides.j2 k x0 x1 x5 (decide (x5 > 49152)))) else (versallaw4_AngleSides.j2 k x0 x1 x5 false))) else (if x1 < 0 then (if x5 < 16384 then (versallaw4_AngleSides.j2 k x0 x1 x5 true) else (versallaw4_AngleSides.j2 k x0 x1 x5 (decide (x5 > 49152)))) else (versallaw4_AngleSides.j2 k x0 x1 x5 false))) else (if x1 < 0 then (if x5 < 16384 then (versallaw4_AngleSides.j2 k x0 x1 x5 true) else (versallaw4_AngleSides.j2 k x0 x1 x5 (decide (x5 > 49152)))) else (versallaw4_AngleSides.j2 k x0 x1 x5 false)))) else (if x1 > 0 then (if x5 > 16384 then (if x5 < 49152 then (versallaw4_AngleSides.j2 k x0 x1 x5 true) else (if x1 < 0 then (if x5 < 16384 then (versallaw4_AngleSides.j2 k x0 x1 x5 true) else (versallaw4_AngleSides.j2 k x0 x1 x5 (decide (x5 > 49152)))) else (versallaw4_AngleSides.j2 k x0 x1 x5 false))) else (if x1 < 0 then (if x5 < 16384 then (versallaw4_AngleSides.j2 k x0 x1 x5 true) else (versallaw4_AngleSides.j2 k x0 x1 x5 (decide (x5 > 49152)))) else (versallaw4_AngleSides.j2 k x0 x1 x5 false))) else (if x1 < 0 then (if x5 < 16384 then (versallaw4_AngleSides.j2 k x0 x1 x5 true) else (versallaw4_AngleSides.j2 k x0 x1 x5 (decide (x5 > 49152)))) else (versallaw4_AngleSides.j2 k x0 x1 x5 false)))) else (if x1 > 0 then (if x5 > 16384 then (if x5 < 49152 then (versallaw4_AngleSides.j2 k x0 x1 x5 true) else (if x1 < 0 then (if x5 < 16384 then (versallaw4_AngleSides.j2 k x0 x1 x5 true) else (versallaw4_AngleSides.j2 k x0 x1 x5 (decide (x5 > 49152)))) else (versallaw4_AngleSides.j2 k x0 x1 x5 false))) else (if x1 < 0 then (if x5 < 16384 then (versallaw4_AngleSides.j2 k x0 x1 x5 true) else (versallaw4_AngleSides.j2 k x0 x1 x5 (decide (x5 > 49152)))) else (versallaw4_AngleSides.j2 k x0 x1 x5 false))) else (if x1 < 0 then (if x5 < 16384 then (versallaw4_AngleSides.j2 k x0 x1 x5 true) else (versallaw4_AngleSides.j2 k x0 x1 x5 (decide (x5 > 49152)))) else (versallaw4_AngleSides.j2 k x0 x1 x5 false)))))
def versallaw4_AngleSides.j2 : Nat → Int → Int → Int → Bool → Option (Bool)
  | 0, _, _, _, _ => none
  | k + 1, x0, x1, x5, x78 => if x78 = true then (some false) else ((angle_Atan.f k (wrap64 (-x0)) x1).bind fun t128 => ((angle_Norm.f (wrap64 (-x5))).bind fun t129 => (if t128 = t129 then (if x0 = 0 then ((angle_Atan.f k (wrap64 (2 * x0)) (wrap64 (2 * x1))).bind fun t130 => (some (t130 == x5))) else ((angle_Atan.f k x0 (wrap64 (-x1))).bind fun t131 => ((angle_Norm.f (wrap64 (32768 - x5))).bind fun t132 => (if t131 = t132 then ((angle_Atan.f k (wrap64 (2 * x0)) (wrap64 (2 * x1))).bind fun t133 => (some (t133 == x5))) else (some false))))) else (some false))))
end
def versallaw4_AngleSides.f (k : Nat) (a0 : Int) (a1 : Int) : Option (Bool) := (versalhand_Num.f a0).bind fun t124 => ((versalhand_Num.f a1).bind fun t125 => ((angle_Atan.f k (Int.tmod t124 536870912) (Int.tmod t125 536870912)).bind fun t126 => ((versallaw4_known.f k).bind fun t127 => (if t127 = true then (if t126 < 0 then (versallaw4_AngleSides.j0 k (Int.tmod t124 536870912) (Int.tmod t125 536870912) t126 true) else (versallaw4_AngleSides.j0 k (Int.tmod t124 536870912) (Int.tmod t125 536870912) t126 (decide (t126 ≥ 65536)))) else (versallaw4_AngleSides.j0 k (Int.tmod t124 536870912) (Int.tmod t125 536870912) t126 true)))))
theorem versallaw4_AngleSides.mono_l : ∀ k, (∀ y0 y1 y2 y3, LeO (versallaw4_AngleSides.j0 k y0 y1 y2 y3) (versallaw4_AngleSides.j0 (k + 1) y0 y1 y2 y3)) ∧ (∀ y0 y1 y2 y3, LeO (versallaw4_AngleSides.j1 k y0 y1 y2 y3) (versallaw4_AngleSides.j1 (k + 1) y0 y1 y2 y3)) ∧ (∀ y0 y1 y2 y3, LeO (versallaw4_AngleSides.j2 k y0 y1 y2 y3) (versallaw4_AngleSides.j2 (k + 1) y0 y1 y2 y3))
  | 0 => ⟨fun _ _ _ _ r h => by simp [versallaw4_AngleSides.j0] at h, fun _ _ _ _ r h => by simp [versallaw4_AngleSides.j1] at h, fun _ _ _ _ r h => by simp [versallaw4_AngleSides.j2] at h⟩
  | k + 1 => by
    obtain ⟨ih0, ih1, ih2⟩ := versallaw4_AngleSides.mono_l k
    refine ⟨?_, ?_, ?_⟩
    · intro y0 y1 y2 y3
      unfold versallaw4_AngleSides.j0
      repeat' first
      | (with_reducible exact ih0 _ _ _ _)
      | (with_reducible exact ih1 _ _ _ _)
      | (with_reducible exact ih2 _ _ _ _)
      | (with_reducible exact angle_Atan.mono _ _ _)
      | (with_reducible exact versallaw4_known.mono _)
      | (with_reducible exact LeO.refl _)
      | (with_reducible exact LeO.none _)
      | (with_reducible refine LeO.ite ?_ ?_)
      | (with_reducible refine LeO.bind ?_ (fun _ => ?_))
      | exact ih0 _ _ _ _
      | exact ih1 _ _ _ _
      | exact ih2 _ _ _ _
      | exact angle_Atan.mono _ _ _
      | exact versallaw4_known.mono _
      | exact LeO.none _
      | refine LeO.ite ?_ ?_
      | refine LeO.bind ?_ (fun _ => ?_)
    · intro y0 y1 y2 y3
      unfold versallaw4_AngleSides.j1
      repeat' first
      | (with_reducible exact ih0 _ _ _ _)
      | (with_reducible exact ih1 _ _ _ _)
      | (with_reducible exact ih2 _ _ _ _)
      | (with_reducible exact angle_Atan.mono _ _ _)
      | (with_reducible exact versallaw4_known.mono _)
      | (with_reducible exact LeO.refl _)
      | (with_reducible exact LeO.none _)
      | (with_reducible refine LeO.ite ?_ ?_)
      | (with_reducible refine LeO.bind ?_ (fun _ => ?_))
      | exact ih0 _ _ _ _
      | exact ih1 _ _ _ _
      | exact ih2 _ _ _ _
      | exact angle_Atan.mono _ _ _
      | exact versallaw4_known.mono _
      | exact LeO.none _
      | refine LeO.ite ?_ ?_
      | refine LeO.bind ?_ (fun _ => ?_)
    · intro y0 y1 y2 y3
      unfold versallaw4_AngleSides.j2
      repeat' first
      | (with_reducible exact ih0 _ _ _ _)
      | (with_reducible exact ih1 _ _ _ _)
      | (with_reducible exact ih2 _ _ _ _)
      | (with_reducible exact angle_Atan.mono _ _ _)
      | (with_reducible exact versallaw4_known.mono _)
      | (with_reducible exact LeO.refl _)
      | (with_reducible exact LeO.none _)
      | (with_reducible refine LeO.ite ?_ ?_)
      | (with_reducible refine LeO.bind ?_ (fun _ => ?_))
      | exact ih0 _ _ _ _
      | exact ih1 _ _ _ _
      | exact ih2 _ _ _ _
      | exact angle_Atan.mono _ _ _
      | exact versallaw4_known.mono _
      | exact LeO.none _
      | refine LeO.ite ?_ ?_
      | refine LeO.bind ?_ (fun _ => ?_)
theorem versallaw4_AngleSides.mono : ∀ a0 a1 k, LeO (versallaw4_AngleSides.f k a0 a1) (versallaw4_AngleSides.f (k + 1) a0 a1) := by
  intro a0 a1 k
  obtain ⟨ih0, ih1, ih2⟩ := versallaw4_AngleSides.mono_l k
  unfold versallaw4_AngleSides.f
  repeat' first
      | (with_reducible exact ih0 _ _ _ _)
      | (with_reducible exact ih1 _ _ _ _)
      | (with_reducible exact ih2 _ _ _ _)
      | (with_reducible exact angle_Atan.mono _ _ _)
      | (with_reducible exact versallaw4_known.mono _)
      | (with_reducible exact LeO.refl _)
      | (with_reducible exact LeO.none _)
      | (with_reducible refine LeO.ite ?_ ?_)
      | (with_reducible refine LeO.bind ?_ (fun _ => ?_))
      | exact ih0 _ _ _ _
      | exact ih1 _ _ _ _
      | exact ih2 _ _ _ _
      | exact angle_Atan.mono _ _ _
      | exact versallaw4_known.mono _
      | exact LeO.none _
      | refine LeO.ite ?_ ?_
      | refine LeO.bind ?_ (fun _ => ?_)
set_option maxHeartbeats 8000000 in
set_option maxRecDepth 100000 in
theorem versallaw4_AngleSides.calls (k : Nat) (a0 : Int) (a1 : Int) (r : Bool) (w : World) (h : versallaw4_AngleSides.f k a0 a1 = some r) :
    Calls Try.prog 4 #[.int .i64 a0, .int .i64 a1] w fun e w' => e = .returned (.bool r) ∧ Below w.heap.size w w' := by
  have HB := Aside0.mk (Below.refl w.heap.size w)
  have H : ((versalhand_Num.f a0).bind fun t124 => ((versalhand_Num.f a1).bind fun t125 => ((angle_Atan.f k (Int.tmod t124 536870912) (Int.tmod t125 536870912)).bind fun t126 => ((versallaw4_known.f k).bind fun t127 => (if t127 = true then (if t126 < 0 then (versallaw4_AngleSides.j0 k (Int.tmod t124 536870912) (Int.tmod t125 536870912) t126 true) else (versallaw4_AngleSides.j0 k (Int.tmod t124 536870912) (Int.tmod t125 536870912) t126 (decide (t126 ≥ 65536)))) else (versallaw4_AngleSides.j0 k (Int.tmod t124 536870912) (Int.tmod t125 536870912) t126 true)))))) = some r := h
  clear h
  replace H := Option.bind_eq_some_iff.mp H
  obtain ⟨t124, A30, H⟩ := H
  replace H : ((versalhand_Num.f a1).bind fun t125 => ((angle_Atan.f k (Int.tmod t124 536870912) (Int.tmod t125 536870912)).bind fun t126 => ((versallaw4_known.f k).bind fun t127 => (if t127 = true then (if t126 < 0 then (versallaw4_AngleSides.j0 k (Int.tmod t124 536870912) (Int.tmod t125 536870912) t126 true) else (versallaw4_AngleSides.j0 k (Int.tmod t124 536870912) (Int.tmod t125 536870912) t126 (decide (t126 ≥ 65536)))) else (versallaw4_AngleSides.j0 k (Int.tmod t124 536870912) (Int.tmod t125 536870912) t126 true))))) = some r := H
  have A3 := Aside0.mk A30
  clear A30
  replace H := Option.bind_eq_some_iff.mp H
  obtain ⟨t125, A40, H⟩ := H
  replace H : ((angle_Atan.f k (Int.tmod t124 536870912) (Int.tmod t125 536870912)).bind fun t126 => ((versallaw4_known.f k).bind fun t127 => (if t127 = true then (if t126 < 0 then (versallaw4_AngleSides.j0 k (Int.tmod t124 536870912) (Int.tmod t125 536870912) t126 true) else (versallaw4_AngleSides.j0 k (Int.tmod t124 536870912) (Int.tmod t125 536870912) t126 (decide (t126 ≥ 65536)))) else (versallaw4_AngleSides.j0 k (Int.tmod t124 536870912) (Int.tmod t125 536870912) t126 true)))) = some r := H
  have A4 := Aside0.mk A40
  clear A40
  replace H := Option.bind_eq_some_iff.mp H
  obtain ⟨t126, A50, H⟩ := H
  replace H : ((versallaw4_known.f k).bind fun t127 => (if t127 = true then (if t126 < 0 then (versallaw4_AngleSides.j0 k (Int.tmod t124 536870912) (Int.tmod t125 536870912) t126 true) else (versallaw4_AngleSides.j0 k (Int.tmod t124 536870912) (Int.tmod t125 536870912) t126 (decide (t126 ≥ 65536)))) else (versallaw4_AngleSides.j0 k (Int.tmod t124 536870912) (Int.tmod t125 536870912) t126 true))) = some r := H
  have A5 := Aside0.mk A50
  clear A50
  have HC6 := Aside0.mk H
  clear H
  go_enter Try.func4, Try.ntmps4
  go_upto_region 4 with (first | ((with_reducible refine gate_callee (f := 18) rfl ?_); refine goesL_ (some 7) rfl rfl Try.func18 (by kernel_rfl) rfl #[.int .i64 a0] rfl (by (try simp only [List.map_toArray, List.map_cons, List.map_nil]); first | done | rfl | (simp only [List.length_drop, List.length_take]; rfl)) ?_; (with_reducible refine (versalhand_Num.calls a0 t124 _ A3.out).mono ?_); rintro e w' ⟨rfl, ⟨nd, rfl⟩⟩; refine ⟨_, rfl, ?_⟩) | ((with_reducible refine gate_callee (f := 18) rfl ?_); refine goesL_ (some 10) rfl rfl Try.func18 (by kernel_rfl) rfl #[.int .i64 a1] rfl (by (try simp only [List.map_toArray, List.map_cons, List.map_nil]); first | done | rfl | (simp only [List.length_drop, List.length_take]; rfl)) ?_; (with_reducible refine (versalhand_Num.calls a1 t125 _ A4.out).mono ?_); rintro e w' ⟨rfl, ⟨nd, rfl⟩⟩; refine ⟨_, rfl, ?_⟩) | ((with_reducible refine gate_callee (f := 19) rfl ?_); refine goesL_ (some 14) rfl rfl Try.func19 (by kernel_rfl) rfl #[.int .i64 (Int.tmod t124 536870912), .int .i64 (Int.tmod t125 536870912)] rfl (by (try simp only [List.map_toArray, List.map_cons, List.map_nil]); first | done | rfl | (simp only [List.length_drop, List.length_take]; rfl)) ?_; (with_reducible refine (angle_Atan.calls k (Int.tmod t124 536870912) (Int.tmod t125 536870912) t126 _ A5.out).mono ?_); rintro e w7 ⟨rfl, hb⟩; refine ⟨_, rfl, ?_⟩; have n0_ := Aside0.mk (below_step (by repeat (first | (with_reducible first | exact HB.out | apply below_alloc | apply pw_below_drewN | apply below_drew1) | exact HB.out)) hb); clear HB; have HB := n0_; clear n0_; (try clear hb); (try clear hb2); (try clear hk); (try clear hi)))
  (try simp only [Act.put, List.setIfInBounds_toArray, List.set_cons_zero, List.set_cons_succ])
  go_cut [24] (fun v24 wc => ∃ (kq : Nat) (x24_5 : Bool), v24 = .bool x24_5 ∧ Aside0 (versallaw4_AngleSides.j0 kq (Int.tmod t124 536870912) (Int.tmod t125 536870912) t126 x24_5 = some r) ∧ Aside0 (kq ≤ k) ∧ Aside0 (Below w.heap.size w wc))
  case first =>
    have H := HC6.out
    clear HC6
    replace H := Option.bind_eq_some_iff.mp H
    obtain ⟨t127, A80, H⟩ := H
    replace H : (if t127 = true then (if t126 < 0 then (versallaw4_AngleSides.j0 k (Int.tmod t124 536870912) (Int.tmod t125 536870912) t126 true) else (versallaw4_AngleSides.j0 k (Int.tmod t124 536870912) (Int.tmod t125 536870912) t126 (decide (t126 ≥ 65536)))) else (versallaw4_AngleSides.j0 k (Int.tmod t124 536870912) (Int.tmod t125 536870912) t126 true)) = some r := H
    have A8 := Aside0.mk A80
    clear A80
    by_cases c9 : t127 = true
    · subst c9
      have H1 : (if t126 < 0 then (versallaw4_AngleSides.j0 k (Int.tmod t124 536870912) (Int.tmod t125 536870912) t126 true) else (versallaw4_AngleSides.j0 k (Int.tmod t124 536870912) (Int.tmod t125 536870912) t126 (decide (t126 ≥ 65536)))) = some r := by rw [if_pos rfl] at H; exact H
      clear H
      have H := H1
      clear H1
      by_cases c10 : t126 < 0
      · rw [if_pos c10] at H
        have c10b0 : decide (t126 < 0) = true := decide_eq_true c10
        clear c10
        (first | rw [c10b0] | (simp only [i64_w, i32_w]; rw [c10b0]) | skip)
        have H' := Aside0.mk H
        clear H
        go_wp2_with (first | ((with_reducible refine gate_callee (f := 16) rfl ?_); refine goesL_ (some 15) rfl rfl Try.func16 (by kernel_rfl) rfl #[] rfl (by (try simp only [List.map_toArray, List.map_cons, List.map_nil]); first | done | rfl | (simp only [List.length_drop, List.length_take]; rfl)) ?_; (with_reducible refine (versallaw4_known.calls k  true _ A8.out).mono ?_); rintro e w11 ⟨rfl, hb⟩; refine ⟨_, rfl, ?_⟩; have n0_ := Aside0.mk (below_step (by repeat (first | (with_reducible first | exact HB.out | apply below_alloc | apply pw_below_drewN | apply below_drew1) | exact HB.out)) hb); clear HB; have HB := n0_; clear n0_; (try clear hb); (try clear hb2); (try clear hk); (try clear hi)))
        go_meet
        case rel => exact ⟨_, (true), (by first | rfl | (simp; done) | (simp [*]; done)), H', ⟨by first | omega | exact Nat.le_refl _⟩, ⟨by repeat (first | (with_reducible first | exact HB.out | apply below_alloc | apply pw_below_drewN | apply below_drew1) | exact HB.out)⟩⟩
      · rw [if_neg c10] at H
        have c10b0 : decide (t126 < 0) = false := decide_eq_false c10
        clear c10
        (first | rw [c10b0] | (simp only [i64_w, i32_w]; rw [c10b0]) | skip)
        have H' := Aside0.mk H
        clear H
        go_wp2_with (first | ((with_reducible refine gate_callee (f := 16) rfl ?_); refine goesL_ (some 15) rfl rfl Try.func16 (by kernel_rfl) rfl #[] rfl (by (try simp only [List.map_toArray, List.map_cons, List.map_nil]); first | done | rfl | (simp only [List.length_drop, List.length_take]; rfl)) ?_; (with_reducible refine (versallaw4_known.calls k  true _ A8.out).mono ?_); rintro e w12 ⟨rfl, hb⟩; refine ⟨_, rfl, ?_⟩; have n0_ := Aside0.mk (below_step (by repeat (first | (with_reducible first | exact HB.out | apply below_alloc | apply pw_below_drewN | apply below_drew1) | exact HB.out)) hb); clear HB; have HB := n0_; clear n0_; (try clear hb); (try clear hb2); (try clear hk); (try clear hi)))
        go_meet
        case rel => exact ⟨_, (decide (t126 ≥ 65536)), (by first | rfl | (simp; done) | (simp [*]; done)), H', ⟨by first | omega | exact Nat.le_refl _⟩, ⟨by repeat (first | (with_reducible first | exact HB.out | apply below_alloc | apply pw_below_drewN | apply below_drew1) | exact HB.out)⟩⟩
    · replace c9 := Bool.eq_false_iff.mpr c9
      subst c9
      have H1 : (versallaw4_AngleSides.j0 k (Int.tmod t124 536870912) (Int.tmod t125 536870912) t126 true) = some r := by rw [if_neg (show ¬ (false = true) by decide)] at H; exact H
      clear H
      have H := H1
      clear H1
      have H' := Aside0.mk H
      clear H
      go_wp2_with (first | ((with_reducible refine gate_callee (f := 16) rfl ?_); refine goesL_ (some 15) rfl rfl Try.func16 (by kernel_rfl) rfl #[] rfl (by (try simp only [List.map_toArray, List.map_cons, List.map_nil]); first | done | rfl | (simp only [List.length_drop, List.length_take]; rfl)) ?_; (with_reducible refine (versallaw4_known.calls k  false _ A8.out).mono ?_); rintro e w13 ⟨rfl, hb⟩; refine ⟨_, rfl, ?_⟩; have n0_ := Aside0.mk (below_step (by repeat (first | (with_reducible first | exact HB.out | apply below_alloc | apply pw_below_drewN | apply below_drew1) | exact HB.out)) hb); clear HB; have HB := n0_; clear n0_; (try clear hb); (try clear hb2); (try clear hk); (try clear hi)))
      go_meet
      case rel => exact ⟨_, (true), (by first | rfl | (simp; done) | (simp [*]; done)), H', ⟨by first | omega | exact Nat.le_refl _⟩, ⟨by repeat (first | (with_reducible first | exact HB.out | apply below_alloc | apply pw_below_drewN | apply below_drew1) | exact HB.out)⟩⟩
  case rest =>
    clear HC6
    try clear c1
    try clear p2
    try clear c4
    try clear c9
    try clear c10
    try clear c10b0
    obtain ⟨kq, x24_5, rfl, HA, HJ5, HB⟩ := hcut
    cases kq with
    | zero => exact absurd HA.out (by simp [versallaw4_AngleSides.j0])
    | succ kj5 =>
      have H := HA.out
      clear HA
      simp only [versallaw4_AngleSides.j0] at H
      by_cases c14 : x24_5 = true
      · subst c14
        have H1 : (some false) = some r := by rw [if_pos rfl] at H; exact H
        clear H
        have H := H1
        clear H1
        obtain rfl := Option.some.inj H
        go_wp2
        go_ret
        exact ⟨by first | rfl | (simp [errW_none, errW_some] <;> rfl) | (simp [*, errW_none, errW_some] <;> rfl), by repeat (first | (with_reducible first | exact HB.out | apply below_alloc | apply pw_below_drewN | apply below_drew1) | exact HB.out)⟩
      · replace c14 := Bool.eq_false_iff.mpr c14
        subst c14
        have H1 : (if (Int.tmod t125 536870912) = 0 then (versallaw4_AngleSides.j1 kj5 (Int.tmod t124 536870912) (Int.tmod t125 536870912) t126 ((Int.tmod t124 536870912) == 0)) else (versallaw4_AngleSides.j1 kj5 (Int.tmod t124 536870912) (Int.tmod t125 536870912) t126 false)) = some r := by rw [if_neg (show ¬ (false = true) by decide)] at H; exact H
        clear H
        have H := H1
        clear H1
        have HC15 := Aside0.mk H
        clear H
        go_upto_region 6 with (fail)
        go_cut [30] (fun v30 wc => ∃ (kq : Nat) (x30_14 : Bool), v30 = .bool x30_14 ∧ Aside0 (versallaw4_AngleSides.j1 kq (Int.tmod t124 536870912) (Int.tmod t125 536870912) t126 x30_14 = some r) ∧ Aside0 (kq ≤ kj5) ∧ Aside0 (Below w.heap.size w wc))
        case first =>
          have H := HC15.out
          clear HC15
          by_cases c16 : (Int.tmod t125 536870912) = 0
          · rw [if_pos c16] at H
            have c16b0 : ((Int.tmod t125 536870912) == 0) = true := beq_iff_eq.mpr c16
            have c16b1 : ((Int.tmod t125 536870912) != 0) = false := bne_eq_false_iff_eq.mpr c16
            clear c16
            (first | rw [c16b0] | (simp only [i64_w, i32_w]; rw [c16b0]) | skip)
            have H' := Aside0.mk H
            clear H
            go_wp2
            go_meet
            case rel => exact ⟨_, (((Int.tmod t124 536870912) == 0)), (by first | rfl | (simp; done) | (simp [*]; done)), H', ⟨by have := HJ5.out; first | omega | exact Nat.le_refl _⟩, ⟨by repeat (first | (with_reducible first | exact HB.out | apply below_alloc | apply pw_below_drewN | apply below_drew1) | exact HB.out)⟩⟩
          · rw [if_neg c16] at H
            have c16b0 : ((Int.tmod t125 536870912) == 0) = false := beq_eq_false_iff_ne.mpr c16
            have c16b1 : ((Int.tmod t125 536870912) != 0) = true := bne_iff_ne.mpr c16
            (first | rw [c16b0] | (simp only [i64_w, i32_w]; rw [c16b0]) | skip)
            have H' := Aside0.mk H
            clear H
            go_wp2
            go_meet
            case rel => exact ⟨_, (false), (by first | rfl | (simp; done) | (simp [*]; done)), H', ⟨by have := HJ5.out; first | omega | exact Nat.le_refl _⟩, ⟨by repeat (first | (with_reducible first | exact HB.out | apply below_alloc | apply pw_below_drewN | apply below_drew1) | exact HB.out)⟩⟩
        case rest =>
          clear HC15
          try clear c1
          try clear p2
          try clear c4
          try clear c9
          try clear c10
          try clear c10b0
          try clear c14
          try clear c16
          try clear c16b0
          try clear c16b1
          try clear p2
          obtain ⟨kq, x30_14, rfl, HA, HJ14, HB⟩ := hcut
          cases kq with
          | zero => exact absurd HA.out (by simp [versallaw4_AngleSides.j1])
          | succ kj14 =>
            have H := HA.out
            clear HA
            simp only [versallaw4_AngleSides.j1] at H
            by_cases c17 : x30_14 = true
            · subst c17
              have H1 : (some (t126 == 0)) = some r := by rw [if_pos rfl] at H; exact H
              clear H
              have H := H1
              clear H1
              obtain rfl := Option.some.inj H
              go_wp2
              go_ret
              exact ⟨by first | rfl | (simp [errW_none, errW_some] <;> rfl) | (simp [*, errW_none, errW_some] <;> rfl), by repeat (first | (with_reducible first | exact HB.out | apply below_alloc | apply pw_below_drewN | apply below_drew1) | exact HB.out)⟩
            · replace c17 := Bool.eq_false_iff.mpr c17
              subst c17
              have H1 : (if (Int.tmod t124 536870912) > 0 then (if t126 < 0 then (versallaw4_AngleSides.j2 kj14 (Int.tmod t124 536870912) (Int.tmod t125 536870912) t126 true) else (if t126 > 32768 then (versallaw4_AngleSides.j2 kj14 (Int.tmod t124 536870912) (Int.tmod t125 536870912) t126 true) else (if (Int.tmod t124 536870912) < 0 then (if t126 > 0 then (if t126 < 32768 then (versallaw4_AngleSides.j2 kj14 (Int.tmod t124 536870912) (Int.tmod t125 536870912) t126 true) else (if (Int.tmod t125 536870912) > 0 then (if t126 > 16384 then (if t126 < 49152 then (versallaw4_AngleSides.j2 kj14 (Int.tmod t124 536870912) (Int.tmod t125 536870912) t126 true) else (if (Int.tmod t125 536870912) < 0 then (if t126 < 16384 then (versallaw4_AngleSides.j2 kj14 (Int.tmod t124 536870912) (Int.tmod t125 536870912) t126 true) else (versallaw4_AngleSides.j2 kj14 (Int.tmod t124 536870912) (Int.tmod t125 536870912) t126 (decide (t126 > 49152)))) else (versallaw4_AngleSides.j2 kj14 (Int.tmod t124 536870912) (Int.tmod t125 536870912) t126 false))) else (if (Int.tmod t125 536870912) < 0 then (if t126 < 16384 then (versallaw4_AngleSides.j2 kj14 (Int.tmod t124 536870912) (Int.tmod t125 536870912) t126 true) else (versallaw4_AngleSides.j2 kj14 (Int.tmod t124 536870912) (Int.tmod t125 536870912) t126 (decide (t126 > 49152)))) else (versallaw4_AngleSides.j2 kj14 (Int.tmod t124 536870912) (Int.tmod t125 536870912) t126 false))) else (if (Int.tmod t125 536870912) < 0 then (if t126 < 16384 then (versallaw4_AngleSides.j2 kj14 (Int.tmod t124 536870912) (Int.tmod t125 536870912) t126 true) else (versallaw4_AngleSides.j2 kj14 (Int.tmod t124 536870912) (Int.tmod t125 536870912) t126 (decide (t126 > 49152)))) else (versallaw4_AngleSides.j2 kj14 (Int.tmod t124 536870912) (Int.tmod t125 536870912) t126 false)))) else (if (Int.tmod t125 536870912) > 0 then (if t126 > 16384 then (if t126 < 49152 then (versallaw4_AngleSides.j2 kj14 (Int.tmod t124 536870912) (Int.tmod t125 536870912) t126 true) else (if (Int.tmod t125 536870912) < 0 then (if t126 < 16384 then (versallaw4_AngleSides.j2 kj14 (Int.tmod t124 536870912) (Int.tmod t125 536870912) t126 true) else (versallaw4_AngleSides.j2 kj14 (Int.tmod t124 536870912) (Int.tmod t125 536870912) t126 (decide (t126 > 49152)))) else (versallaw4_AngleSides.j2 kj14 (Int.tmod t124 536870912) (Int.tmod t125 536870912) t126 false))) else (if (Int.tmod t125 536870912) < 0 then (if t126 < 16384 then (versallaw4_AngleSides.j2 kj14 (Int.tmod t124 536870912) (Int.tmod t125 536870912) t126 true) else (versallaw4_AngleSides.j2 kj14 (Int.tmod t124 536870912) (Int.tmod t125 536870912) t126 (decide (t126 > 49152)))) else (versallaw4_AngleSides.j2 kj14 (Int.tmod t124 536870912) (Int.tmod t125 536870912) t126 false))) else (if (Int.tmod t125 536870912) < 0 then (if t126 < 16384 then (versallaw4_AngleSides.j2 kj14 (Int.tmod t124 536870912) (Int.tmod t125 536870912) t126 true) else (versallaw4_AngleSides.j2 kj14 (Int.tmod t124 536870912) (Int.tmod t125 536870912) t126 (decide (t126 > 49152)))) else (versallaw4_AngleSides.j2 kj14 (Int.tmod t124 536870912) (Int.tmod t125 536870912) t126 false)))) else (if (Int.tmod t125 536870912) > 0 then (if t126 > 16384 then (if t126 < 49152 then (versallaw4_AngleSides.j2 kj14 (Int.tmod t124 536870912) (Int.tmod t125 536870912) t126 true) else (if (Int.tmod t125 536870912) < 0 then (if t126 < 16384 then (versallaw4_AngleSides.j2 kj14 (Int.tmod t124 536870912) (Int.tmod t125 536870912) t126 true) else (versallaw4_AngleSides.j2 kj14 (Int.tmod t124 536870912) (Int.tmod t125 536870912) t126 (decide (t126 > 49152)))) else (versallaw4_AngleSides.j2 kj14 (Int.tmod t124 536870912) (Int.tmod t125 536870912) t126 false))) else (if (Int.tmod t125 536870912) < 0 then (if t126 < 16384 then (versallaw4_AngleSides.j2 kj14 (Int.tmod t124 536870912) (Int.tmod t125 536870912) t126 true) else (versallaw4_AngleSides.j2 kj14 (Int.tmod t124 536870912) (Int.tmod t125 536870912) t126 (decide (t126 > 49152)))) else (versallaw4_AngleSides.j2 kj14 (Int.tmod t124 536870912) (Int.tmod t125 536870912) t126 false))) else (if (Int.tmod t125 536870912) < 0 then (if t126 < 16384 then (versallaw4_AngleSides.j2 kj14 (Int.tmod t124 536870912) (Int.tmod t125 536870912) t126 true) else (versallaw4_AngleSides.j2 kj14 (Int.tmod t124 536870912) (Int.tmod t125 536870912) t126 (decide (t126 > 49152)))) else (versallaw4_AngleSides.j2 kj14 (Int.tmod t124 536870912) (Int.tmod t125 536870912) t126 false)))))) else (if (Int.tmod t124 536870912) < 0 then (if t126 > 0 then (if t126 < 32768 then (versallaw4_AngleSides.j2 kj14 (Int.tmod t124 536870912) (Int.tmod t125 536870912) t126 true) else (if (Int.tmod t125 536870912) > 0 then (if t126 > 16384 then (if t126 < 49152 then (versallaw4_AngleSides.j2 kj14 (Int.tmod t124 536870912) (Int.tmod t125 536870912) t126 true) else (if (Int.tmod t125 536870912) < 0 then (if t126 < 16384 then (versallaw4_AngleSides.j2 kj14 (Int.tmod t124 536870912) (Int.tmod t125 536870912) t126 true) else (versallaw4_AngleSides.j2 kj14 (Int.tmod t124 536870912) (Int.tmod t125 536870912) t126 (decide (t126 > 49152)))) else (versallaw4_AngleSides.j2 kj14 (Int.tmod t124 536870912) (Int.tmod t125 536870912) t126 false))) else (if (Int.tmod t125 536870912) < 0 then (if t126 < 16384 then (versallaw4_AngleSides.j2 kj14 (Int.tmod t124 536870912) (Int.tmod t125 536870912) t126 true) else (versallaw4_AngleSides.j2 kj14 (Int.tmod t124 536870912) (Int.tmod t125 536870912) t126 (decide (t126 > 49152)))) else (versallaw4_AngleSides.j2 kj14 (Int.tmod t124 536870912) (Int.tmod t125 536870912) t126 false))) else (if (Int.tmod t125 536870912) < 0 then (if t126 < 16384 then (versallaw4_AngleSides.j2 kj14 (Int.tmod t124 536870912) (Int.tmod t125 536870912) t126 true) else (versallaw4_AngleSides.j2 kj14 (Int.tmod t124 536870912) (Int.tmod t125 536870912) t126 (decide (t126 > 49152)))) else (versallaw4_AngleSides.j2 kj14 (Int.tmod t124 536870912) (Int.tmod t125 536870912) t126 false)))) else (if (Int.tmod t125 536870912) > 0 then (if t126 > 16384 then (if t126 < 49152 then (versallaw4_AngleSides.j2 kj14 (Int.tmod t124 536870912) (Int.tmod t125 536870912) t126 true) else (if (Int.tmod t125 536870912) < 0 then (if t126 < 16384 then (versallaw4_AngleSides.j2 kj14 (Int.tmod t124 536870912) (Int.tmod t125 536870912) t126 true) else (versallaw4_AngleSides.j2 kj14 (Int.tmod t124 536870912) (Int.tmod t125 536870912) t126 (decide (t126 > 49152)))) else (versallaw4_AngleSides.j2 kj14 (Int.tmod t124 536870912) (Int.tmod t125 536870912) t126 false))) else (if (Int.tmod t125 536870912) < 0 then (if t126 < 16384 then (versallaw4_AngleSides.j2 kj14 (Int.tmod t124 536870912) (Int.tmod t125 536870912) t126 true) else (versallaw4_AngleSides.j2 kj14 (Int.tmod t124 536870912) (Int.tmod t125 536870912) t126 (decide (t126 > 49152)))) else (versallaw4_AngleSides.j2 kj14 (Int.tmod t124 536870912) (Int.tmod t125 536870912) t126 false))) else (if (Int.tmod t125 536870912) < 0 then (if t126 < 16384 then (versallaw4_AngleSides.j2 kj14 (Int.tmod t124 536870912) (Int.tmod t125 536870912) t126 true) else (versallaw4_AngleSides.j2 kj14 (Int.tmod t124 536870912) (Int.tmod t125 536870912) t126 (decide (t126 > 49152)))) else (versallaw4_AngleSides.j2 kj14 (Int.tmod t124 536870912) (Int.tmod t125 536870912) t126 false)))) else (if (Int.tmod t125 536870912) > 0 then (if t126 > 16384 then (if t126 < 49152 then (versallaw4_AngleSides.j2 kj14 (Int.tmod t124 536870912) (Int.tmod t125 536870912) t126 true) else (if (Int.tmod t125 536870912) < 0 then (if t126 < 16384 then (versallaw4_AngleSides.j2 kj14 (Int.tmod t124 536870912) (Int.tmod t125 536870912) t126 true) else (versallaw4_AngleSides.j2 kj14 (Int.tmod t124 536870912) (Int.tmod t125 536870912) t126 (decide (t126 > 49152)))) else (versallaw4_AngleSides.j2 kj14 (Int.tmod t124 536870912) (Int.tmod t125 536870912) t126 false))) else (if (Int.tmod t125 536870912) < 0 then (if t126 < 16384 then (versallaw4_AngleSides.j2 kj14 (Int.tmod t124 536870912) (Int.tmod t125 536870912) t126 true) else (versallaw4_AngleSides.j2 kj14 (Int.tmod t124 536870912) (Int.tmod t125 536870912) t126 (decide (t126 > 49152)))) else (versallaw4_AngleSides.j2 kj14 (Int.tmod t124 536870912) (Int.tmod t125 536870912) t126 false))) else (if (Int.tmod t125 536870912) < 0 then (if t126 < 16384 then (versallaw4_AngleSides.j2 kj14 (Int.tmod t124 536870912) (Int.tmod t125 536870912) t126 true) else (versallaw4_AngleSides.j2 kj14 (Int.tmod t124 536870912) (Int.tmod t125 536870912) t126 (decide (t126 > 49152)))) else (versallaw4_AngleSides.j2 kj14 (Int.tmod t124 536870912) (Int.tmod t125 536870912) t126 false))))) = some r := by rw [if_neg (show ¬ (false = true) by decide)] at H; exact H
              clear H
              have H := H1
              clear H1
              have HC18 := Aside0.mk H
              clear H
              go_upto_region 8 with (fail)
              go_cut [78] (fun v78 wc => ∃ (kq : Nat) (x78_17 : Bool), v78 = .bool x78_17 ∧ Aside0 (versallaw4_AngleSides.j2 kq (Int.tmod t124 536870912) (Int.tmod t125 536870912) t126 x78_17 = some r) ∧ Aside0 (kq ≤ kj14) ∧ Aside0 (Below w.heap.size w wc))
              case first =>
                have H := HC18.out
                clear HC18
                by_cases c19 : (Int.tmod t124 536870912) > 0
                · rw [if_pos c19] at H
                  have c19b0 : decide (0 < (Int.tmod t124 536870912)) = true := decide_eq_true c19
                  clear c19
                  (first | rw [c19b0] | (simp only [i64_w, i32_w]; rw [c19b0]) | skip)
                  by_cases c20 : t126 < 0
                  · rw [if_pos c20] at H
                    have c20b0 : decide (t126 < 0) = true := decide_eq_true c20
                    clear c20
                    have H' := Aside0.mk H
                    clear H
                    go_wp2
                    go_meet
                    case rel => exact ⟨_, (true), (by first | rfl | (simp; done) | (simp [*]; done)), H', ⟨by have := HJ5.out; have := HJ14.out; first | omega | exact Nat.le_refl _⟩, ⟨by repeat (first | (with_reducible first | exact HB.out | apply below_alloc | apply pw_below_drewN | apply below_drew1) | exact HB.out)⟩⟩
                  · rw [if_neg c20] at H
                    have c20b0 : decide (t126 < 0) = false := decide_eq_false c20
                    clear c20
                    by_cases c21 : t126 > 32768
                    · rw [if_pos c21] at H
                      have c21b0 : decide (32768 < t126) = true := decide_eq_true c21
                      clear c21
                      have H' := Aside0.mk H
                      clear H
                      go_wp2
                      go_meet
                      case rel => exact ⟨_, (true), (by first | rfl | (simp; done) | (simp [*]; done)), H', ⟨by have := HJ5.out; have := HJ14.out; first | omega | exact Nat.le_refl _⟩, ⟨by repeat (first | (with_reducible first | exact HB.out | apply below_alloc | apply pw_below_drewN | apply below_drew1) | exact HB.out)⟩⟩
                    · rw [if_neg c21] at H
                      have c21b0 : decide (32768 < t126) = false := decide_eq_false c21
                      clear c21
                      by_cases c22 : (Int.tmod t124 536870912) < 0
                      · rw [if_pos c22] at H
                        have c22b0 : decide ((Int.tmod t124 536870912) < 0) = true := decide_eq_true c22
                        clear c22
                        by_cases c23 : t126 > 0
                        · rw [if_pos c23] at H
                          have c23b0 : decide (0 < t126) = true := decide_eq_true c23
                          clear c23
                          by_cases c24 : t126 < 32768
                          · rw [if_pos c24] at H
                            have c24b0 : decide (t126 < 32768) = true := decide_eq_true c24
                            clear c24
                            have H' := Aside0.mk H
                            clear H
                            go_wp2
                            go_meet
                            case rel => exact ⟨_, (true), (by first | rfl | (simp; done) | (simp [*]; done)), H', ⟨by have := HJ5.out; have := HJ14.out; first | omega | exact Nat.le_refl _⟩, ⟨by repeat (first | (with_reducible first | exact HB.out | apply below_alloc | apply pw_below_drewN | apply below_drew1) | exact HB.out)⟩⟩
                          · rw [if_neg c24] at H
                            have c24b0 : decide (t126 < 32768) = false := decide_eq_false c24
                            clear c24
                            by_cases c25 : (Int.tmod t125 536870912) > 0
                            · rw [if_pos c25] at H
                              have c25b0 : decide (0 < (Int.tmod t125 536870912)) = true := decide_eq_true c25
                              clear c25
                              by_cases c26 : t126 > 16384
                              · rw [if_pos c26] at H
                                have c26b0 : decide (16384 < t126) = true := decide_eq_true c26
                                clear c26
                                by_cases c27 : t126 < 49152
                                · rw [if_pos c27] at H
                                  have c27b0 : decide (t126 < 49152) = true := decide_eq_true c27
                                  clear c27
                                  have H' := Aside0.mk H
                                  clear H
                                  go_wp2
                                  go_meet
                                  case rel => exact ⟨_, (true), (by first | rfl | (simp; done) | (simp [*]; done)), H', ⟨by have := HJ5.out; have := HJ14.out; first | omega | exact Nat.le_refl _⟩, ⟨by repeat (first | (with_reducible first | exact HB.out | apply below_alloc | apply pw_below_drewN | apply below_drew1) | exact HB.out)⟩⟩
                                · rw [if_neg c27] at H
                                  have c27b0 : decide (t126 < 49152) = false := decide_eq_false c27
                                  clear c27
                                  by_cases c28 : (Int.tmod t125 536870912) < 0
                                  · rw [if_pos c28] at H
                                    have c28b0 : decide ((Int.tmod t125 536870912) < 0) = true := decide_eq_true c28
                                    clear c28
                                    by_cases c29 : t126 < 16384
                                    · rw [if_pos c29] at H
                                      have c29b0 : decide (t126 < 16384) = true := decide_eq_true c29
                                      clear c29
                                      have H' := Aside0.mk H
                                      clear H
                                      go_wp2
                                      go_meet
                                      case rel => exact ⟨_, (true), (by first | rfl | (simp; done) | (simp [*]; done)), H', ⟨by have := HJ5.out; have := HJ14.out; first | omega | exact Nat.le_refl _⟩, ⟨by repeat (first | (with_reducible first | exact HB.out | apply below_alloc | apply pw_below_drewN | apply below_drew1) | exact HB.out)⟩⟩
                                    · rw [if_neg c29] at H
                                      have c29b0 : decide (t126 < 16384) = false := decide_eq_false c29
                                      clear c29
                                      have H' := Aside0.mk H
                                      clear H
                                      go_wp2
                                      go_meet
                                      case rel => exact ⟨_, (decide (t126 > 49152)), (by first | rfl | (simp; done) | (simp [*]; done)), H', ⟨by have := HJ5.out; have := HJ14.out; first | omega | exact Nat.le_refl _⟩, ⟨by repeat (first | (with_reducible first | exact HB.out | apply below_alloc | apply pw_below_drewN | apply below_drew1) | exact HB.out)⟩⟩
                                  · rw [if_neg c28] at H
                                    have c28b0 : decide ((Int.tmod t125 536870912) < 0) = false := decide_eq_false c28
                                    clear c28
                                    have H' := Aside0.mk H
                                    clear H
                                    go_wp2
                                    go_meet
                                    case rel => exact ⟨_, (false), (by first | rfl | (simp; done) | (simp [*]; done)), H', ⟨by have := HJ5.out; have := HJ14.out; first | omega | exact Nat.le_refl _⟩, ⟨by repeat (first | (with_reducible first | exact HB.out | apply below_alloc | apply pw_below_drewN | apply below_drew1) | exact HB.out)⟩⟩
                              · rw [if_neg c26] at H
                                have c26b0 : decide (16384 < t126) = false := decide_eq_false c26
                                clear c26
                                by_cases c30 : (Int.tmod t125 536870912) < 0
                                · rw [if_pos c30] at H
                                  have c30b0 : decide ((Int.tmod t125 536870912) < 0) = true := decide_eq_true c30
                                  clear c30
                                  by_cases c31 : t126 < 16384
                                  · rw [if_pos c31] at H
                                    have c31b0 : decide (t126 < 16384) = true := decide_eq_true c31
                                    clear c31
                                    have H' := Aside0.mk H
                                    clear H
                                    go_wp2
                                    go_meet
                                    case rel => exact ⟨_, (true), (by first | rfl | (simp; done) | (simp [*]; done)), H', ⟨by have := HJ5.out; have := HJ14.out; first | omega | exact Nat.le_refl _⟩, ⟨by repeat (first | (with_reducible first | exact HB.out | apply below_alloc | apply pw_below_drewN | apply below_drew1) | exact HB.out)⟩⟩
                                  · rw [if_neg c31] at H
                                    have c31b0 : decide (t126 < 16384) = false := decide_eq_false c31
                                    clear c31
                                    have H' := Aside0.mk H
                                    clear H
                                    go_wp2
                                    go_meet
                                    case rel => exact ⟨_, (decide (t126 > 49152)), (by first | rfl | (simp; done) | (simp [*]; done)), H', ⟨by have := HJ5.out; have := HJ14.out; first | omega | exact Nat.le_refl _⟩, ⟨by repeat (first | (with_reducible first | exact HB.out | apply below_alloc | apply pw_below_drewN | apply below_drew1) | exact HB.out)⟩⟩
                                · rw [if_neg c30] at H
                                  have c30b0 : decide ((Int.tmod t125 536870912) < 0) = false := decide_eq_false c30
                                  clear c30
                                  have H' := Aside0.mk H
                                  clear H
                                  go_wp2
                                  go_meet
                                  case rel => exact ⟨_, (false), (by first | rfl | (simp; done) | (simp [*]; done)), H', ⟨by have := HJ5.out; have := HJ14.out; first | omega | exact Nat.le_refl _⟩, ⟨by repeat (first | (with_reducible first | exact HB.out | apply below_alloc | apply pw_below_drewN | apply below_drew1) | exact HB.out)⟩⟩
                            · rw [if_neg c25] at H
                              have c25b0 : decide (0 < (Int.tmod t125 536870912)) = false := decide_eq_false c25
                              clear c25
                              by_cases c32 : (Int.tmod t125 536870912) < 0
                              · rw [if_pos c32] at H
                                have c32b0 : decide ((Int.tmod t125 536870912) < 0) = true := decide_eq_true c32
                                clear c32
                                by_cases c33 : t126 < 16384
                                · rw [if_pos c33] at H
                                  have c33b0 : decide (t126 < 16384) = true := decide_eq_true c33
                                  clear c33
                                  have H' := Aside0.mk H
                                  clear H
                                  go_wp2
                                  go_meet
                                  case rel => exact ⟨_, (true), (by first | rfl | (simp; done) | (simp [*]; done)), H', ⟨by have := HJ5.out; have := HJ14.out; first | omega | exact Nat.le_refl _⟩, ⟨by repeat (first | (with_reducible first | exact HB.out | apply below_alloc | apply pw_below_drewN | apply below_drew1) | exact HB.out)⟩⟩
                                · rw [if_neg c33] at H
                                  have c33b0 : decide (t126 < 16384) = false := decide_eq_false c33
                                  clear c33
                                  have H' := Aside0.mk H
                                  clear H
                                  go_wp2
                                  go_meet
                                  case rel => exact ⟨_, (decide (t126 > 49152)), (by first | rfl | (simp; done) | (simp [*]; done)), H', ⟨by have := HJ5.out; have := HJ14.out; first | omega | exact Nat.le_refl _⟩, ⟨by repeat (first | (with_reducible first | exact HB.out | apply below_alloc | apply pw_below_drewN | apply below_drew1) | exact HB.out)⟩⟩
                              · rw [if_neg c32] at H
                                have c32b0 : decide ((Int.tmod t125 536870912) < 0) = false := decide_eq_false c32
                                clear c32
                                have H' := Aside0.mk H
                                clear H
                                go_wp2
                                go_meet
                                case rel => exact ⟨_, (false), (by first | rfl | (simp; done) | (simp [*]; done)), H', ⟨by have := HJ5.out; have := HJ14.out; first | omega | exact Nat.le_refl _⟩, ⟨by repeat (first | (with_reducible first | exact HB.out | apply below_alloc | apply pw_below_drewN | apply below_drew1) | exact HB.out)⟩⟩
                        · rw [if_neg c23] at H
                          have c23b0 : decide (0 < t126) = false := decide_eq_false c23
                          clear c23
                          by_cases c34 : (Int.tmod t125 536870912) > 0
                          · rw [if_pos c34] at H
                            have c34b0 : decide (0 < (Int.tmod t125 536870912)) = true := decide_eq_true c34
                            clear c34
                            by_cases c35 : t126 > 16384
                            · rw [if_pos c35] at H
                              have c35b0 : decide (16384 < t126) = true := decide_eq_true c35
                              clear c35
                              by_cases c36 : t126 < 49152
                              · rw [if_pos c36] at H
                                have c36b0 : decide (t126 < 49152) = true := decide_eq_true c36
                                clear c36
                                have H' := Aside0.mk H
                                clear H
                                go_wp2
                                go_meet
                                case rel => exact ⟨_, (true), (by first | rfl | (simp; done) | (simp [*]; done)), H', ⟨by have := HJ5.out; have := HJ14.out; first | omega | exact Nat.le_refl _⟩, ⟨by repeat (first | (with_reducible first | exact HB.out | apply below_alloc | apply pw_below_drewN | apply below_drew1) | exact HB.out)⟩⟩
                              · rw [if_neg c36] at H
                                have c36b0 : decide (t126 < 49152) = false := decide_eq_false c36
                                clear c36
                                by_cases c37 : (Int.tmod t125 536870912) < 0
                                · rw [if_pos c37] at H
                                  have c37b0 : decide ((Int.tmod t125 536870912) < 0) = true := decide_eq_true c37
                                  clear c37
                                  by_cases c38 : t126 < 16384
                                  · rw [if_pos c38] at H
                                    have c38b0 : decide (t126 < 16384) = true := decide_eq_true c38
                                    clear c38
                                    have H' := Aside0.mk H
                                    clear H
                                    go_wp2
                                    go_meet
                                    case rel => exact ⟨_, (true), (by first | rfl | (simp; done) | (simp [*]; done)), H', ⟨by have := HJ5.out; have := HJ14.out; first | omega | exact Nat.le_refl _⟩, ⟨by repeat (first | (with_reducible first | exact HB.out | apply below_alloc | apply pw_below_drewN | apply below_drew1) | exact HB.out)⟩⟩
                                  · rw [if_neg c38] at H
                                    have c38b0 : decide (t126 < 16384) = false := decide_eq_false c38
                                    clear c38
                                    have H' := Aside0.mk H
                                    clear H
                                    go_wp2
                                    go_meet
                                    case rel => exact ⟨_, (decide (t126 > 49152)), (by first | rfl | (simp; done) | (simp [*]; done)), H', ⟨by have := HJ5.out; have := HJ14.out; first | omega | exact Nat.le_refl _⟩, ⟨by repeat (first | (with_reducible first | exact HB.out | apply below_alloc | apply pw_below_drewN | apply below_drew1) | exact HB.out)⟩⟩
                                · rw [if_neg c37] at H
                                  have c37b0 : decide ((Int.tmod t125 536870912) < 0) = false := decide_eq_false c37
                                  clear c37
                                  have H' := Aside0.mk H
                                  clear H
                                  go_wp2
                                  go_meet
                                  case rel => exact ⟨_, (false), (by first | rfl | (simp; done) | (simp [*]; done)), H', ⟨by have := HJ5.out; have := HJ14.out; first | omega | exact Nat.le_refl _⟩, ⟨by repeat (first | (with_reducible first | exact HB.out | apply below_alloc | apply pw_below_drewN | apply below_drew1) | exact HB.out)⟩⟩
                            · rw [if_neg c35] at H
                              have c35b0 : decide (16384 < t126) = false := decide_eq_false c35
                              clear c35
                              by_cases c39 : (Int.tmod t125 536870912) < 0
                              · rw [if_pos c39] at H
                                have c39b0 : decide ((Int.tmod t125 536870912) < 0) = true := decide_eq_true c39
                                clear c39
                                by_cases c40 : t126 < 16384
                                · rw [if_pos c40] at H
                                  have c40b0 : decide (t126 < 16384) = true := decide_eq_true c40
                                  clear c40
                                  have H' := Aside0.mk H
                                  clear H
                                  go_wp2
                                  go_meet
                                  case rel => exact ⟨_, (true), (by first | rfl | (simp; done) | (simp [*]; done)), H', ⟨by have := HJ5.out; have := HJ14.out; first | omega | exact Nat.le_refl _⟩, ⟨by repeat (first | (with_reducible first | exact HB.out | apply below_alloc | apply pw_below_drewN | apply below_drew1) | exact HB.out)⟩⟩
                                · rw [if_neg c40] at H
                                  have c40b0 : decide (t126 < 16384) = false := decide_eq_false c40
                                  clear c40
                                  have H' := Aside0.mk H
                                  clear H
                                  go_wp2
                                  go_meet
                                  case rel => exact ⟨_, (decide (t126 > 49152)), (by first | rfl | (simp; done) | (simp [*]; done)), H', ⟨by have := HJ5.out; have := HJ14.out; first | omega | exact Nat.le_refl _⟩, ⟨by repeat (first | (with_reducible first | exact HB.out | apply below_alloc | apply pw_below_drewN | apply below_drew1) | exact HB.out)⟩⟩
                              · rw [if_neg c39] at H
                                have c39b0 : decide ((Int.tmod t125 536870912) < 0) = false := decide_eq_false c39
                                clear c39
                                have H' := Aside0.mk H
                                clear H
                                go_wp2
                                go_meet
                                case rel => exact ⟨_, (false), (by first | rfl | (simp; done) | (simp [*]; done)), H', ⟨by have := HJ5.out; have := HJ14.out; first | omega | exact Nat.le_refl _⟩, ⟨by repeat (first | (with_reducible first | exact HB.out | apply below_alloc | apply pw_below_drewN | apply below_drew1) | exact HB.out)⟩⟩
                          · rw [if_neg c34] at H
                            have c34b0 : decide (0 < (Int.tmod t125 536870912)) = false := decide_eq_false c34
                            clear c34
                            by_cases c41 : (Int.tmod t125 536870912) < 0
                            · rw [if_pos c41] at H
                              have c41b0 : decide ((Int.tmod t125 536870912) < 0) = true := decide_eq_true c41
                              clear c41
                              by_cases c42 : t126 < 16384
                              · rw [if_pos c42] at H
                                have c42b0 : decide (t126 < 16384) = true := decide_eq_true c42
                                clear c42
                                have H' := Aside0.mk H
                                clear H
                                go_wp2
                                go_meet
                                case rel => exact ⟨_, (true), (by first | rfl | (simp; done) | (simp [*]; done)), H', ⟨by have := HJ5.out; have := HJ14.out; first | omega | exact Nat.le_refl _⟩, ⟨by repeat (first | (with_reducible first | exact HB.out | apply below_alloc | apply pw_below_drewN | apply below_drew1) | exact HB.out)⟩⟩
                              · rw [if_neg c42] at H
                                have c42b0 : decide (t126 < 16384) = false := decide_eq_false c42
                                clear c42
                                have H' := Aside0.mk H
                                clear H
                                go_wp2
                                go_meet
                                case rel => exact ⟨_, (decide (t126 > 49152)), (by first | rfl | (simp; done) | (simp [*]; done)), H', ⟨by have := HJ5.out; have := HJ14.out; first | omega | exact Nat.le_refl _⟩, ⟨by repeat (first | (with_reducible first | exact HB.out | apply below_alloc | apply pw_below_drewN | apply below_drew1) | exact HB.out)⟩⟩
                            · rw [if_neg c41] at H
                              have c41b0 : decide ((Int.tmod t125 536870912) < 0) = false := decide_eq_false c41
                              clear c41
                              have H' := Aside0.mk H
                              clear H
                              go_wp2
                              go_meet
                              case rel => exact ⟨_, (false), (by first | rfl | (simp; done) | (simp [*]; done)), H', ⟨by have := HJ5.out; have := HJ14.out; first | omega | exact Nat.le_refl _⟩, ⟨by repeat (first | (with_reducible first | exact HB.out | apply below_alloc | apply pw_below_drewN | apply below_drew1) | exact HB.out)⟩⟩
                      · rw [if_neg c22] at H
                        have c22b0 : decide ((Int.tmod t124 536870912) < 0) = false := decide_eq_false c22
                        clear c22
                        by_cases c43 : (Int.tmod t125 536870912) > 0
                        · rw [if_pos c43] at H
                          have c43b0 : decide (0 < (Int.tmod t125 536870912)) = true := decide_eq_true c43
                          clear c43
                          by_cases c44 : t126 > 16384
                          · rw [if_pos c44] at H
                            have c44b0 : decide (16384 < t126) = true := decide_eq_true c44
                            clear c44
                            by_cases c45 : t126 < 49152
                            · rw [if_pos c45] at H
                              have c45b0 : decide (t126 < 49152) = true := decide_eq_true c45
                              clear c45
                              have H' := Aside0.mk H
                              clear H
                              go_wp2
                              go_meet
                              case rel => exact ⟨_, (true), (by first | rfl | (simp; done) | (simp [*]; done)), H', ⟨by have := HJ5.out; have := HJ14.out; first | omega | exact Nat.le_refl _⟩, ⟨by repeat (first | (with_reducible first | exact HB.out | apply below_alloc | apply pw_below_drewN | apply below_drew1) | exact HB.out)⟩⟩
                            · rw [if_neg c45] at H
                              have c45b0 : decide (t126 < 49152) = false := decide_eq_false c45
                              clear c45
                              by_cases c46 : (Int.tmod t125 536870912) < 0
                              · rw [if_pos c46] at H
                                have c46b0 : decide ((Int.tmod t125 536870912) < 0) = true := decide_eq_true c46
                                clear c46
                                by_cases c47 : t126 < 16384
                                · rw [if_pos c47] at H
                                  have c47b0 : decide (t126 < 16384) = true := decide_eq_true c47
                                  clear c47
                                  have H' := Aside0.mk H
                                  clear H
                                  go_wp2
                                  go_meet
                                  case rel => exact ⟨_, (true), (by first | rfl | (simp; done) | (simp [*]; done)), H', ⟨by have := HJ5.out; have := HJ14.out; first | omega | exact Nat.le_refl _⟩, ⟨by repeat (first | (with_reducible first | exact HB.out | apply below_alloc | apply pw_below_drewN | apply below_drew1) | exact HB.out)⟩⟩
                                · rw [if_neg c47] at H
                                  have c47b0 : decide (t126 < 16384) = false := decide_eq_false c47
                                  clear c47
                                  have H' := Aside0.mk H
                                  clear H
                                  go_wp2
                                  go_meet
                                  case rel => exact ⟨_, (decide (t126 > 49152)), (by first | rfl | (simp; done) | (simp [*]; done)), H', ⟨by have := HJ5.out; have := HJ14.out; first | omega | exact Nat.le_refl _⟩, ⟨by repeat (first | (with_reducible first | exact HB.out | apply below_alloc | apply pw_below_drewN | apply below_drew1) | exact HB.out)⟩⟩
                              · rw [if_neg c46] at H
                                have c46b0 : decide ((Int.tmod t125 536870912) < 0) = false := decide_eq_false c46
                                clear c46
                                have H' := Aside0.mk H
                                clear H
                                go_wp2
                                go_meet
                                case rel => exact ⟨_, (false), (by first | rfl | (simp; done) | (simp [*]; done)), H', ⟨by have := HJ5.out; have := HJ14.out; first | omega | exact Nat.le_refl _⟩, ⟨by repeat (first | (with_reducible first | exact HB.out | apply below_alloc | apply pw_below_drewN | apply below_drew1) | exact HB.out)⟩⟩
                          · rw [if_neg c44] at H
                            have c44b0 : decide (16384 < t126) = false := decide_eq_false c44
                            clear c44
                            by_cases c48 : (Int.tmod t125 536870912) < 0
                            · rw [if_pos c48] at H
                              have c48b0 : decide ((Int.tmod t125 536870912) < 0) = true := decide_eq_true c48
                              clear c48
                              by_cases c49 : t126 < 16384
                              · rw [if_pos c49] at H
                                have c49b0 : decide (t126 < 16384) = true := decide_eq_true c49
                                clear c49
                                have H' := Aside0.mk H
                                clear H
                                go_wp2
                                go_meet
                                case rel => exact ⟨_, (true), (by first | rfl | (simp; done) | (simp [*]; done)), H', ⟨by have := HJ5.out; have := HJ14.out; first | omega | exact Nat.le_refl _⟩, ⟨by repeat (first | (with_reducible first | exact HB.out | apply below_alloc | apply pw_below_drewN | apply below_drew1) | exact HB.out)⟩⟩
                              · rw [if_neg c49] at H
                                have c49b0 : decide (t126 < 16384) = false := decide_eq_false c49
                                clear c49
                                have H' := Aside0.mk H
                                clear H
                                go_wp2
                                go_meet
                                case rel => exact ⟨_, (decide (t126 > 49152)), (by first | rfl | (simp; done) | (simp [*]; done)), H', ⟨by have := HJ5.out; have := HJ14.out; first | omega | exact Nat.le_refl _⟩, ⟨by repeat (first | (with_reducible first | exact HB.out | apply below_alloc | apply pw_below_drewN | apply below_drew1) | exact HB.out)⟩⟩
                            · rw [if_neg c48] at H
                              have c48b0 : decide ((Int.tmod t125 536870912) < 0) = false := decide_eq_false c48
                              clear c48
                              have H' := Aside0.mk H
                              clear H
                              go_wp2
                              go_meet
                              case rel => exact ⟨_, (false), (by first | rfl | (simp; done) | (simp [*]; done)), H', ⟨by have := HJ5.out; have := HJ14.out; first | omega | exact Nat.le_refl _⟩, ⟨by repeat (first | (with_reducible first | exact HB.out | apply below_alloc | apply pw_below_drewN | apply below_drew1) | exact HB.out)⟩⟩
                        · rw [if_neg c43] at H
                          have c43b0 : decide (0 < (Int.tmod t125 536870912)) = false := decide_eq_false c43
                          clear c43
                          by_cases c50 : (Int.tmod t125 536870912) < 0
                          · rw [if_pos c50] at H
                            have c50b0 : decide ((Int.tmod t125 536870912) < 0) = true := decide_eq_true c50
                            clear c50
                            by_cases c51 : t126 < 16384
                            · rw [if_pos c51] at H
                              have c51b0 : decide (t126 < 16384) = true := decide_eq_true c51
                              clear c51
                              have H' := Aside0.mk H
                              clear H
                              go_wp2
                              go_meet
                              case rel => exact ⟨_, (true), (by first | rfl | (simp; done) | (simp [*]; done)), H', ⟨by have := HJ5.out; have := HJ14.out; first | omega | exact Nat.le_refl _⟩, ⟨by repeat (first | (with_reducible first | exact HB.out | apply below_alloc | apply pw_below_drewN | apply below_drew1) | exact HB.out)⟩⟩
                            · rw [if_neg c51] at H
                              have c51b0 : decide (t126 < 16384) = false := decide_eq_false c51
                              clear c51
                              have H' := Aside0.mk H
                              clear H
                              go_wp2
                              go_meet
                              case rel => exact ⟨_, (decide (t126 > 49152)), (by first | rfl | (simp; done) | (simp [*]; done)), H', ⟨by have := HJ5.out; have := HJ14.out; first | omega | exact Nat.le_refl _⟩, ⟨by repeat (first | (with_reducible first | exact HB.out | apply below_alloc | apply pw_below_drewN | apply below_drew1) | exact HB.out)⟩⟩
                          · rw [if_neg c50] at H
                            have c50b0 : decide ((Int.tmod t125 536870912) < 0) = false := decide_eq_false c50
                            clear c50
                            have H' := Aside0.mk H
                            clear H
                            go_wp2
                            go_meet
                            case rel => exact ⟨_, (false), (by first | rfl | (simp; done) | (simp [*]; done)), H', ⟨by have := HJ5.out; have := HJ14.out; first | omega | exact Nat.le_refl _⟩, ⟨by repeat (first | (with_reducible first | exact HB.out | apply below_alloc | apply pw_below_drewN | apply below_drew1) | exact HB.out)⟩⟩
                · rw [if_neg c19] at H
                  have c19b0 : decide (0 < (Int.tmod t124 536870912)) = false := decide_eq_false c19
                  clear c19
                  (first | rw [c19b0] | (simp only [i64_w, i32_w]; rw [c19b0]) | skip)
                  by_cases c52 : (Int.tmod t124 536870912) < 0
                  · rw [if_pos c52] at H
                    have c52b0 : decide ((Int.tmod t124 536870912) < 0) = true := decide_eq_true c52
                    clear c52
                    by_cases c53 : t126 > 0
                    · rw [if_pos c53] at H
                      have c53b0 : decide (0 < t126) = true := decide_eq_true c53
                      clear c53
                      by_cases c54 : t126 < 32768
                      · rw [if_pos c54] at H
                        have c54b0 : decide (t126 < 32768) = true := decide_eq_true c54
                        clear c54
                        have H' := Aside0.mk H
                        clear H
                        go_wp2
                        go_meet
                        case rel => exact ⟨_, (true), (by first | rfl | (simp; done) | (simp [*]; done)), H', ⟨by have := HJ5.out; have := HJ14.out; first | omega | exact Nat.le_refl _⟩, ⟨by repeat (first | (with_reducible first | exact HB.out | apply below_alloc | apply pw_below_drewN | apply below_drew1) | exact HB.out)⟩⟩
                      · rw [if_neg c54] at H
                        have c54b0 : decide (t126 < 32768) = false := decide_eq_false c54
                        clear c54
                        by_cases c55 : (Int.tmod t125 536870912) > 0
                        · rw [if_pos c55] at H
                          have c55b0 : decide (0 < (Int.tmod t125 536870912)) = true := decide_eq_true c55
                          clear c55
                          by_cases c56 : t126 > 16384
                          · rw [if_pos c56] at H
                            have c56b0 : decide (16384 < t126) = true := decide_eq_true c56
                            clear c56
                            by_cases c57 : t126 < 49152
                            · rw [if_pos c57] at H
                              have c57b0 : decide (t126 < 49152) = true := decide_eq_true c57
                              clear c57
                              have H' := Aside0.mk H
                              clear H
                              go_wp2
                              go_meet
                              case rel => exact ⟨_, (true), (by first | rfl | (simp; done) | (simp [*]; done)), H', ⟨by have := HJ5.out; have := HJ14.out; first | omega | exact Nat.le_refl _⟩, ⟨by repeat (first | (with_reducible first | exact HB.out | apply below_alloc | apply pw_below_drewN | apply below_drew1) | exact HB.out)⟩⟩
                            · rw [if_neg c57] at H
                              have c57b0 : decide (t126 < 49152) = false := decide_eq_false c57
                              clear c57
                              by_cases c58 : (Int.tmod t125 536870912) < 0
                              · rw [if_pos c58] at H
                                have c58b0 : decide ((Int.tmod t125 536870912) < 0) = true := decide_eq_true c58
                                clear c58
                                by_cases c59 : t126 < 16384
                                · rw [if_pos c59] at H
                                  have c59b0 : decide (t126 < 16384) = true := decide_eq_true c59
                                  clear c59
                                  have H' := Aside0.mk H
                                  clear H
                                  go_wp2
                                  go_meet
                                  case rel => exact ⟨_, (true), (by first | rfl | (simp; done) | (simp [*]; done)), H', ⟨by have := HJ5.out; have := HJ14.out; first | omega | exact Nat.le_refl _⟩, ⟨by repeat (first | (with_reducible first | exact HB.out | apply below_alloc | apply pw_below_drewN | apply below_drew1) | exact HB.out)⟩⟩
                                · rw [if_neg c59] at H
                                  have c59b0 : decide (t126 < 16384) = false := decide_eq_false c59
                                  clear c59
                                  have H' := Aside0.mk H
                                  clear H
                                  go_wp2
                                  go_meet
                                  case rel => exact ⟨_, (decide (t126 > 49152)), (by first | rfl | (simp; done) | (simp [*]; done)), H', ⟨by have := HJ5.out; have := HJ14.out; first | omega | exact Nat.le_refl _⟩, ⟨by repeat (first | (with_reducible first | exact HB.out | apply below_alloc | apply pw_below_drewN | apply below_drew1) | exact HB.out)⟩⟩
                              · rw [if_neg c58] at H
                                have c58b0 : decide ((Int.tmod t125 536870912) < 0) = false := decide_eq_false c58
                                clear c58
                                have H' := Aside0.mk H
                                clear H
                                go_wp2
                                go_meet
                                case rel => exact ⟨_, (false), (by first | rfl | (simp; done) | (simp [*]; done)), H', ⟨by have := HJ5.out; have := HJ14.out; first | omega | exact Nat.le_refl _⟩, ⟨by repeat (first | (with_reducible first | exact HB.out | apply below_alloc | apply pw_below_drewN | apply below_drew1) | exact HB.out)⟩⟩
                          · rw [if_neg c56] at H
                            have c56b0 : decide (16384 < t126) = false := decide_eq_false c56
                            clear c56
                            by_cases c60 : (Int.tmod t125 536870912) < 0
                            · rw [if_pos c60] at H
                              have c60b0 : decide ((Int.tmod t125 536870912) < 0) = true := decide_eq_true c60
                              clear c60
                              by_cases c61 : t126 < 16384
                              · rw [if_pos c61] at H
                                have c61b0 : decide (t126 < 16384) = true := decide_eq_true c61
                                clear c61
                                have H' := Aside0.mk H
                                clear H
                                go_wp2
                                go_meet
                                case rel => exact ⟨_, (true), (by first | rfl | (simp; done) | (simp [*]; done)), H', ⟨by have := HJ5.out; have := HJ14.out; first | omega | exact Nat.le_refl _⟩, ⟨by repeat (first | (with_reducible first | exact HB.out | apply below_alloc | apply pw_below_drewN | apply below_drew1) | exact HB.out)⟩⟩
                              · rw [if_neg c61] at H
                                have c61b0 : decide (t126 < 16384) = false := decide_eq_false c61
                                clear c61
                                have H' := Aside0.mk H
                                clear H
                                go_wp2
                                go_meet
                                case rel => exact ⟨_, (decide (t126 > 49152)), (by first | rfl | (simp; done) | (simp [*]; done)), H', ⟨by have := HJ5.out; have := HJ14.out; first | omega | exact Nat.le_refl _⟩, ⟨by repeat (first | (with_reducible first | exact HB.out | apply below_alloc | apply pw_below_drewN | apply below_drew1) | exact HB.out)⟩⟩
                            · rw [if_neg c60] at H
                              have c60b0 : decide ((Int.tmod t125 536870912) < 0) = false := decide_eq_false c60
                              clear c60
                              have H' := Aside0.mk H
                              clear H
                              go_wp2
                              go_meet
                              case rel => exact ⟨_, (false), (by first | rfl | (simp; done) | (simp [*]; done)), H', ⟨by have := HJ5.out; have := HJ14.out; first | omega | exact Nat.le_refl _⟩, ⟨by repeat (first | (with_reducible first | exact HB.out | apply below_alloc | apply pw_below_drewN | apply below_drew1) | exact HB.out)⟩⟩
                        · rw [if_neg c55] at H
                          have c55b0 : decide (0 < (Int.tmod t125 536870912)) = false := decide_eq_false c55
                          clear c55
                          by_cases c62 : (Int.tmod t125 536870912) < 0
                          · rw [if_pos c62] at H
                            have c62b0 : decide ((Int.tmod t125 536870912) < 0) = true := decide_eq_true c62
                            clear c62
                            by_cases c63 : t126 < 16384
                            · rw [if_pos c63] at H
                              have c63b0 : decide (t126 < 16384) = true := decide_eq_true c63
                              clear c63
                              have H' := Aside0.mk H
                              clear H
                              go_wp2
                              go_meet
                              case rel => exact ⟨_, (true), (by first | rfl | (simp; done) | (simp [*]; done)), H', ⟨by have := HJ5.out; have := HJ14.out; first | omega | exact Nat.le_refl _⟩, ⟨by repeat (first | (with_reducible first | exact HB.out | apply below_alloc | apply pw_below_drewN | apply below_drew1) | exact HB.out)⟩⟩
                            · rw [if_neg c63] at H
                              have c63b0 : decide (t126 < 16384) = false := decide_eq_false c63
                              clear c63
                              have H' := Aside0.mk H
                              clear H
                              go_wp2
                              go_meet
                              case rel => exact ⟨_, (decide (t126 > 49152)), (by first | rfl | (simp; done) | (simp [*]; done)), H', ⟨by have := HJ5.out; have := HJ14.out; first | omega | exact Nat.le_refl _⟩, ⟨by repeat (first | (with_reducible first | exact HB.out | apply below_alloc | apply pw_below_drewN | apply below_drew1) | exact HB.out)⟩⟩
                          · rw [if_neg c62] at H
                            have c62b0 : decide ((Int.tmod t125 536870912) < 0) = false := decide_eq_false c62
                            clear c62
                            have H' := Aside0.mk H
                            clear H
                            go_wp2
                            go_meet
                            case rel => exact ⟨_, (false), (by first | rfl | (simp; done) | (simp [*]; done)), H', ⟨by have := HJ5.out; have := HJ14.out; first | omega | exact Nat.le_refl _⟩, ⟨by repeat (first | (with_reducible first | exact HB.out | apply below_alloc | apply pw_below_drewN | apply below_drew1) | exact HB.out)⟩⟩
                    · rw [if_neg c53] at H
                      have c53b0 : decide (0 < t126) = false := decide_eq_false c53
                      clear c53
                      by_cases c64 : (Int.tmod t125 536870912) > 0
                      · rw [if_pos c64] at H
                        have c64b0 : decide (0 < (Int.tmod t125 536870912)) = true := decide_eq_true c64
                        clear c64
                        by_cases c65 : t126 > 16384
                        · rw [if_pos c65] at H
                          have c65b0 : decide (16384 < t126) = true := decide_eq_true c65
                          clear c65
                          by_cases c66 : t126 < 49152
                          · rw [if_pos c66] at H
                            have c66b0 : decide (t126 < 49152) = true := decide_eq_true c66
                            clear c66
                            have H' := Aside0.mk H
                            clear H
                            go_wp2
                            go_meet
                            case rel => exact ⟨_, (true), (by first | rfl | (simp; done) | (simp [*]; done)), H', ⟨by have := HJ5.out; have := HJ14.out; first | omega | exact Nat.le_refl _⟩, ⟨by repeat (first | (with_reducible first | exact HB.out | apply below_alloc | apply pw_below_drewN | apply below_drew1) | exact HB.out)⟩⟩
                          · rw [if_neg c66] at H
                            have c66b0 : decide (t126 < 49152) = false := decide_eq_false c66
                            clear c66
                            by_cases c67 : (Int.tmod t125 536870912) < 0
                            · rw [if_pos c67] at H
                              have c67b0 : decide ((Int.tmod t125 536870912) < 0) = true := decide_eq_true c67
                              clear c67
                              by_cases c68 : t126 < 16384
                              · rw [if_pos c68] at H
                                have c68b0 : decide (t126 < 16384) = true := decide_eq_true c68
                                clear c68
                                have H' := Aside0.mk H
                                clear H
                                go_wp2
                                go_meet
                                case rel => exact ⟨_, (true), (by first | rfl | (simp; done) | (simp [*]; done)), H', ⟨by have := HJ5.out; have := HJ14.out; first | omega | exact Nat.le_refl _⟩, ⟨by repeat (first | (with_reducible first | exact HB.out | apply below_alloc | apply pw_below_drewN | apply below_drew1) | exact HB.out)⟩⟩
                              · rw [if_neg c68] at H
                                have c68b0 : decide (t126 < 16384) = false := decide_eq_false c68
                                clear c68
                                have H' := Aside0.mk H
                                clear H
                                go_wp2
                                go_meet
                                case rel => exact ⟨_, (decide (t126 > 49152)), (by first | rfl | (simp; done) | (simp [*]; done)), H', ⟨by have := HJ5.out; have := HJ14.out; first | omega | exact Nat.le_refl _⟩, ⟨by repeat (first | (with_reducible first | exact HB.out | apply below_alloc | apply pw_below_drewN | apply below_drew1) | exact HB.out)⟩⟩
                            · rw [if_neg c67] at H
                              have c67b0 : decide ((Int.tmod t125 536870912) < 0) = false := decide_eq_false c67
                              clear c67
                              have H' := Aside0.mk H
                              clear H
                              go_wp2
                              go_meet
                              case rel => exact ⟨_, (false), (by first | rfl | (simp; done) | (simp [*]; done)), H', ⟨by have := HJ5.out; have := HJ14.out; first | omega | exact Nat.le_refl _⟩, ⟨by repeat (first | (with_reducible first | exact HB.out | apply below_alloc | apply pw_below_drewN | apply below_drew1) | exact HB.out)⟩⟩
                        · rw [if_neg c65] at H
                          have c65b0 : decide (16384 < t126) = false := decide_eq_false c65
                          clear c65
                          by_cases c69 : (Int.tmod t125 536870912) < 0
                          · rw [if_pos c69] at H
                            have c69b0 : decide ((Int.tmod t125 536870912) < 0) = true := decide_eq_true c69
                            clear c69
                            by_cases c70 : t126 < 16384
                            · rw [if_pos c70] at H
                              have c70b0 : decide (t126 < 16384) = true := decide_eq_true c70
                              clear c70
                              have H' := Aside0.mk H
                              clear H
                              go_wp2
                              go_meet
                              case rel => exact ⟨_, (true), (by first | rfl | (simp; done) | (simp [*]; done)), H', ⟨by have := HJ5.out; have := HJ14.out; first | omega | exact Nat.le_refl _⟩, ⟨by repeat (first | (with_reducible first | exact HB.out | apply below_alloc | apply pw_below_drewN | apply below_drew1) | exact HB.out)⟩⟩
                            · rw [if_neg c70] at H
                              have c70b0 : decide (t126 < 16384) = false := decide_eq_false c70
                              clear c70
                              have H' := Aside0.mk H
                              clear H
                              go_wp2
                              go_meet
                              case rel => exact ⟨_, (decide (t126 > 49152)), (by first | rfl | (simp; done) | (simp [*]; done)), H', ⟨by have := HJ5.out; have := HJ14.out; first | omega | exact Nat.le_refl _⟩, ⟨by repeat (first | (with_reducible first | exact HB.out | apply below_alloc | apply pw_below_drewN | apply below_drew1) | exact HB.out)⟩⟩
                          · rw [if_neg c69] at H
                            have c69b0 : decide ((Int.tmod t125 536870912) < 0) = false := decide_eq_false c69
                            clear c69
                            have H' := Aside0.mk H
                            clear H
                            go_wp2
                            go_meet
                            case rel => exact ⟨_, (false), (by first | rfl | (simp; done) | (simp [*]; done)), H', ⟨by have := HJ5.out; have := HJ14.out; first | omega | exact Nat.le_refl _⟩, ⟨by repeat (first | (with_reducible first | exact HB.out | apply below_alloc | apply pw_below_drewN | apply below_drew1) | exact HB.out)⟩⟩
                      · rw [if_neg c64] at H
                        have c64b0 : decide (0 < (Int.tmod t125 536870912)) = false := decide_eq_false c64
                        clear c64
                        by_cases c71 : (Int.tmod t125 536870912) < 0
                        · rw [if_pos c71] at H
                          have c71b0 : decide ((Int.tmod t125 536870912) < 0) = true := decide_eq_true c71
                          clear c71
                          by_cases c72 : t126 < 16384
                          · rw [if_pos c72] at H
                            have c72b0 : decide (t126 < 16384) = true := decide_eq_true c72
                            clear c72
                            have H' := Aside0.mk H
                            clear H
                            go_wp2
                            go_meet
                            case rel => exact ⟨_, (true), (by first | rfl | (simp; done) | (simp [*]; done)), H', ⟨by have := HJ5.out; have := HJ14.out; first | omega | exact Nat.le_refl _⟩, ⟨by repeat (first | (with_reducible first | exact HB.out | apply below_alloc | apply pw_below_drewN | apply below_drew1) | exact HB.out)⟩⟩
                          · rw [if_neg c72] at H
                            have c72b0 : decide (t126 < 16384) = false := decide_eq_false c72
                            clear c72
                            have H' := Aside0.mk H
                            clear H
                            go_wp2
                            go_meet
                            case rel => exact ⟨_, (decide (t126 > 49152)), (by first | rfl | (simp; done) | (simp [*]; done)), H', ⟨by have := HJ5.out; have := HJ14.out; first | omega | exact Nat.le_refl _⟩, ⟨by repeat (first | (with_reducible first | exact HB.out | apply below_alloc | apply pw_below_drewN | apply below_drew1) | exact HB.out)⟩⟩
                        · rw [if_neg c71] at H
                          have c71b0 : decide ((Int.tmod t125 536870912) < 0) = false := decide_eq_false c71
                          clear c71
                          have H' := Aside0.mk H
                          clear H
                          go_wp2
                          go_meet
                          case rel => exact ⟨_, (false), (by first | rfl | (simp; done) | (simp [*]; done)), H', ⟨by have := HJ5.out; have := HJ14.out; first | omega | exact Nat.le_refl _⟩, ⟨by repeat (first | (with_reducible first | exact HB.out | apply below_alloc | apply pw_below_drewN | apply below_drew1) | exact HB.out)⟩⟩
                  · rw [if_neg c52] at H
                    have c52b0 : decide ((Int.tmod t124 536870912) < 0) = false := decide_eq_false c52
                    clear c52
                    by_cases c73 : (Int.tmod t125 536870912) > 0
                    · rw [if_pos c73] at H
                      have c73b0 : decide (0 < (Int.tmod t125 536870912)) = true := decide_eq_true c73
                      clear c73
                      by_cases c74 : t126 > 16384
                      · rw [if_pos c74] at H
                        have c74b0 : decide (16384 < t126) = true := decide_eq_true c74
                        clear c74
                        by_cases c75 : t126 < 49152
                        · rw [if_pos c75] at H
                          have c75b0 : decide (t126 < 49152) = true := decide_eq_true c75
                          clear c75
                          have H' := Aside0.mk H
                          clear H
                          go_wp2
                          go_meet
                          case rel => exact ⟨_, (true), (by first | rfl | (simp; done) | (simp [*]; done)), H', ⟨by have := HJ5.out; have := HJ14.out; first | omega | exact Nat.le_refl _⟩, ⟨by repeat (first | (with_reducible first | exact HB.out | apply below_alloc | apply pw_below_drewN | apply below_drew1) | exact HB.out)⟩⟩
                        · rw [if_neg c75] at H
                          have c75b0 : decide (t126 < 49152) = false := decide_eq_false c75
                          clear c75
                          by_cases c76 : (Int.tmod t125 536870912) < 0
                          · rw [if_pos c76] at H
                            have c76b0 : decide ((Int.tmod t125 536870912) < 0) = true := decide_eq_true c76
                            clear c76
                            by_cases c77 : t126 < 16384
                            · rw [if_pos c77] at H
                              have c77b0 : decide (t126 < 16384) = true := decide_eq_true c77
                              clear c77
                              have H' := Aside0.mk H
                              clear H
                              go_wp2
                              go_meet
                              case rel => exact ⟨_, (true), (by first | rfl | (simp; done) | (simp [*]; done)), H', ⟨by have := HJ5.out; have := HJ14.out; first | omega | exact Nat.le_refl _⟩, ⟨by repeat (first | (with_reducible first | exact HB.out | apply below_alloc | apply pw_below_drewN | apply below_drew1) | exact HB.out)⟩⟩
                            · rw [if_neg c77] at H
                              have c77b0 : decide (t126 < 16384) = false := decide_eq_false c77
                              clear c77
                              have H' := Aside0.mk H
                              clear H
                              go_wp2
                              go_meet
                              case rel => exact ⟨_, (decide (t126 > 49152)), (by first | rfl | (simp; done) | (simp [*]; done)), H', ⟨by have := HJ5.out; have := HJ14.out; first | omega | exact Nat.le_refl _⟩, ⟨by repeat (first | (with_reducible first | exact HB.out | apply below_alloc | apply pw_below_drewN | apply below_drew1) | exact HB.out)⟩⟩
                          · rw [if_neg c76] at H
                            have c76b0 : decide ((Int.tmod t125 536870912) < 0) = false := decide_eq_false c76
                            clear c76
                            have H' := Aside0.mk H
                            clear H
                            go_wp2
                            go_meet
                            case rel => exact ⟨_, (false), (by first | rfl | (simp; done) | (simp [*]; done)), H', ⟨by have := HJ5.out; have := HJ14.out; first | omega | exact Nat.le_refl _⟩, ⟨by repeat (first | (with_reducible first | exact HB.out | apply below_alloc | apply pw_below_drewN | apply below_drew1) | exact HB.out)⟩⟩
                      · rw [if_neg c74] at H
                        have c74b0 : decide (16384 < t126) = false := decide_eq_false c74
                        clear c74
                        by_cases c78 : (Int.tmod t125 536870912) < 0
                        · rw [if_pos c78] at H
                          have c78b0 : decide ((Int.tmod t125 536870912) < 0) = true := decide_eq_true c78
                          clear c78
                          by_cases c79 : t126 < 16384
                          · rw [if_pos c79] at H
                            have c79b0 : decide (t126 < 16384) = true := decide_eq_true c79
                            clear c79
                            have H' := Aside0.mk H
                            clear H
                            go_wp2
                            go_meet
                            case rel => exact ⟨_, (true), (by first | rfl | (simp; done) | (simp [*]; done)), H', ⟨by have := HJ5.out; have := HJ14.out; first | omega | exact Nat.le_refl _⟩, ⟨by repeat (first | (with_reducible first | exact HB.out | apply below_alloc | apply pw_below_drewN | apply below_drew1) | exact HB.out)⟩⟩
                          · rw [if_neg c79] at H
                            have c79b0 : decide (t126 < 16384) = false := decide_eq_false c79
                            clear c79
                            have H' := Aside0.mk H
                            clear H
                            go_wp2
                            go_meet
                            case rel => exact ⟨_, (decide (t126 > 49152)), (by first | rfl | (simp; done) | (simp [*]; done)), H', ⟨by have := HJ5.out; have := HJ14.out; first | omega | exact Nat.le_refl _⟩, ⟨by repeat (first | (with_reducible first | exact HB.out | apply below_alloc | apply pw_below_drewN | apply below_drew1) | exact HB.out)⟩⟩
                        · rw [if_neg c78] at H
                          have c78b0 : decide ((Int.tmod t125 536870912) < 0) = false := decide_eq_false c78
                          clear c78
                          have H' := Aside0.mk H
                          clear H
                          go_wp2
                          go_meet
                          case rel => exact ⟨_, (false), (by first | rfl | (simp; done) | (simp [*]; done)), H', ⟨by have := HJ5.out; have := HJ14.out; first | omega | exact Nat.le_refl _⟩, ⟨by repeat (first | (with_reducible first | exact HB.out | apply below_alloc | apply pw_below_drewN | apply below_drew1) | exact HB.out)⟩⟩
                    · rw [if_neg c73] at H
                      have c73b0 : decide (0 < (Int.tmod t125 536870912)) = false := decide_eq_false c73
                      clear c73
                      by_cases c80 : (Int.tmod t125 536870912) < 0
                      · rw [if_pos c80] at H
                        have c80b0 : decide ((Int.tmod t125 536870912) < 0) = true := decide_eq_true c80
                        clear c80
                        by_cases c81 : t126 < 16384
                        · rw [if_pos c81] at H
                          have c81b0 : decide (t126 < 16384) = true := decide_eq_true c81
                          clear c81
                          have H' := Aside0.mk H
                          clear H
                          go_wp2
                          go_meet
                          case rel => exact ⟨_, (true), (by first | rfl | (simp; done) | (simp [*]; done)), H', ⟨by have := HJ5.out; have := HJ14.out; first | omega | exact Nat.le_refl _⟩, ⟨by repeat (first | (with_reducible first | exact HB.out | apply below_alloc | apply pw_below_drewN | apply below_drew1) | exact HB.out)⟩⟩
                        · rw [if_neg c81] at H
                          have c81b0 : decide (t126 < 16384) = false := decide_eq_false c81
                          clear c81
                          have H' := Aside0.mk H
                          clear H
                          go_wp2
                          go_meet
                          case rel => exact ⟨_, (decide (t126 > 49152)), (by first | rfl | (simp; done) | (simp [*]; done)), H', ⟨by have := HJ5.out; have := HJ14.out; first | omega | exact Nat.le_refl _⟩, ⟨by repeat (first | (with_reducible first | exact HB.out | apply below_alloc | apply pw_below_drewN | apply below_drew1) | exact HB.out)⟩⟩
                      · rw [if_neg c80] at H
                        have c80b0 : decide ((Int.tmod t125 536870912) < 0) = false := decide_eq_false c80
                        clear c80
                        have H' := Aside0.mk H
                        clear H
                        go_wp2
                        go_meet
                        case rel => exact ⟨_, (false), (by first | rfl | (simp; done) | (simp [*]; done)), H', ⟨by have := HJ5.out; have := HJ14.out; first | omega | exact Nat.le_refl _⟩, ⟨by repeat (first | (with_reducible first | exact HB.out | apply below_alloc | apply pw_below_drewN | apply below_drew1) | exact HB.out)⟩⟩
              case rest =>
                clear HC18
                try clear c1
                try clear c2
                try clear p2
                try clear c3
                try clear c4
                try clear c5
                try clear c6
                try clear c7
                try clear c8
                try clear c19
                try clear c19b0
                try clear c22
                try clear c22b0
                try clear c34
                try clear c34b0
                try clear c35
                try clear c35b0
                try clear c36
                try clear c36b0
                try clear c37
                try clear c37b0
                try clear c38
                try clear c38b0
                try clear c39
                try clear c39b0
                try clear c40
                try clear c40b0
                try clear c41
                try clear c41b0
                try clear c42
                try clear c42b0
                try clear c43
                try clear c43b0
                try clear c44
                try clear c44b0
                try clear c45
                try clear c45b0
                try clear c46
                try clear c46b0
                try clear c47
                try clear c47b0
                try clear c48
                try clear c48b0
                try clear c49
                try clear c49b0
                try clear c50
                try clear c50b0
                try clear c51
                try clear c51b0
                try clear c52
                try clear c52b0
                try clear c53
                try clear c53b0
                try clear c54
                try clear c54b0
                try clear c55
                try clear c55b0
                try clear c56
                try clear c56b0
                try clear c57
                try clear c57b0
                try clear c58
                try clear c58b0
                try clear c59
                try clear c59b0
                try clear c60
                try clear c60b0
                try clear c61
                try clear c61b0
                try clear c62
                try clear c62b0
                try clear c63
                try clear c63b0
                try clear c64
                try clear c64b0
                try clear c65
                try clear c65b0
                try clear c66
                try clear c66b0
                try clear c67
                try clear c67b0
                try clear c68
                try clear c68b0
                try clear c69
                try clear c69b0
                try clear c70
                try clear c70b0
                try clear c71
                try clear c71b0
                try clear c72
                try clear c72b0
                try clear c73
                try clear c73b0
                try clear c74
                try clear c74b0
                try clear c75
                try clear c75b0
                try clear c76
                try clear c76b0
                try clear c77
                try clear c77b0
                try clear c78
                try clear c78b0
                try clear c79
                try clear c79b0
                try clear c80
                try clear c80b0
                try clear c81
                try clear c81b0
                obtain ⟨kq, x78_17, rfl, HA, HJ17, HB⟩ := hcut
                cases kq with
                | zero => exact absurd HA.out (by simp [versallaw4_AngleSides.j2])
                | succ kj17 =>
                  have H := HA.out
                  clear HA
                  simp only [versallaw4_AngleSides.j2] at H
                  by_cases c82 : x78_17 = true
                  · subst c82
                    have H1 : (some false) = some r := by rw [if_pos rfl] at H; exact H
                    clear H
                    have H := H1
                    clear H1
                    obtain rfl := Option.some.inj H
                    go_wp2
                    go_ret
                    exact ⟨by first | rfl | (simp [errW_none, errW_some] <;> rfl) | (simp [*, errW_none, errW_some] <;> rfl), by repeat (first | (with_reducible first | exact HB.out | apply below_alloc | apply pw_below_drewN | apply below_drew1) | exact HB.out)⟩
                  · replace c82 := Bool.eq_false_iff.mpr c82
                    subst c82
                    have H1 : ((angle_Atan.f kj17 (wrap64 (-(Int.tmod t124 536870912))) (Int.tmod t125 536870912)).bind fun t128 => ((angle_Norm.f (wrap64 (-t126))).bind fun t129 => (if t128 = t129 then (if (Int.tmod t124 536870912) = 0 then ((angle_Atan.f kj17 (wrap64 (2 * (Int.tmod t124 536870912))) (wrap64 (2 * (Int.tmod t125 536870912)))).bind fun t130 => (some (t130 == t126))) else ((angle_Atan.f kj17 (Int.tmod t124 536870912) (wrap64 (-(Int.tmod t125 536870912)))).bind fun t131 => ((angle_Norm.f (wrap64 (32768 - t126))).bind fun t132 => (if t131 = t132 then ((angle_Atan.f kj17 (wrap64 (2 * (Int.tmod t124 536870912))) (wrap64 (2 * (Int.tmod t125 536870912)))).bind fun t133 => (some (t133 == t126))) else (some false))))) else (some false)))) = some r := by rw [if_neg (show ¬ (false = true) by decide)] at H; exact H
                    clear H
                    have H := H1
                    clear H1
                    replace H := Option.bind_eq_some_iff.mp H
                    obtain ⟨t128, A830, H⟩ := H
                    replace H : ((angle_Norm.f (wrap64 (-t126))).bind fun t129 => (if t128 = t129 then (if (Int.tmod t124 536870912) = 0 then ((angle_Atan.f kj17 (wrap64 (2 * (Int.tmod t124 536870912))) (wrap64 (2 * (Int.tmod t125 536870912)))).bind fun t130 => (some (t130 == t126))) else ((angle_Atan.f kj17 (Int.tmod t124 536870912) (wrap64 (-(Int.tmod t125 536870912)))).bind fun t131 => ((angle_Norm.f (wrap64 (32768 - t126))).bind fun t132 => (if t131 = t132 then ((angle_Atan.f kj17 (wrap64 (2 * (Int.tmod t124 536870912))) (wrap64 (2 * (Int.tmod t125 536870912)))).bind fun t133 => (some (t133 == t126))) else (some false))))) else (some false))) = some r := H
                    have A83 := Aside0.mk A830
                    clear A830
                    replace H := Option.bind_eq_some_iff.mp H
                    obtain ⟨t129, A840, H⟩ := H
                    replace H : (if t128 = t129 then (if (Int.tmod t124 536870912) = 0 then ((angle_Atan.f kj17 (wrap64 (2 * (Int.tmod t124 536870912))) (wrap64 (2 * (Int.tmod t125 536870912)))).bind fun t130 => (some (t130 == t126))) else ((angle_Atan.f kj17 (Int.tmod t124 536870912) (wrap64 (-(Int.tmod t125 536870912)))).bind fun t131 => ((angle_Norm.f (wrap64 (32768 - t126))).bind fun t132 => (if t131 = t132 then ((angle_Atan.f kj17 (wrap64 (2 * (Int.tmod t124 536870912))) (wrap64 (2 * (Int.tmod t125 536870912)))).bind fun t133 => (some (t133 == t126))) else (some false))))) else (some false)) = some r := H
                    have A84 := Aside0.mk A840
                    clear A840
                    by_cases c85 : t128 = t129
                    · rw [if_pos c85] at H
                      have c85b0 : (t128 == t129) = true := beq_iff_eq.mpr c85
                      have c85b1 : (t128 != t129) = false := bne_eq_false_iff_eq.mpr c85
                      clear c85
                      by_cases c86 : (Int.tmod t124 536870912) = 0
                      · rw [if_pos c86] at H
                        have c86b0 : ((Int.tmod t124 536870912) == 0) = true := beq_iff_eq.mpr c86
                        have c86b1 : ((Int.tmod t124 536870912) != 0) = false := bne_eq_false_iff_eq.mpr c86
                        clear c86
                        replace H := Option.bind_eq_some_iff.mp H
                        obtain ⟨t130, A870, H⟩ := H
                        replace H : (some (t130 == t126)) = some r := H
                        have A87 := Aside0.mk A870
                        clear A870
                        obtain rfl := Option.some.inj H
                        go_wp2_with (first | ((with_reducible refine gate_callee (f := 19) rfl ?_); refine goesL_ (some 82) rfl rfl Try.func19 (by kernel_rfl) rfl #[.int .i64 (wrap64 (-(Int.tmod t124 536870912))), .int .i64 (Int.tmod t125 536870912)] rfl (by (try simp only [List.map_toArray, List.map_cons, List.map_nil]); first | done | rfl | (simp only [List.length_drop, List.length_take]; rfl)) ?_; (with_reducible refine (angle_Atan.calls kj17 (wrap64 (-(Int.tmod t124 536870912))) (Int.tmod t125 536870912) t128 _ A83.out).mono ?_); rintro e w88 ⟨rfl, hb⟩; refine ⟨_, rfl, ?_⟩; have n0_ := Aside0.mk (below_step (by repeat (first | (with_reducible first | exact HB.out | apply below_alloc | apply pw_below_drewN | apply below_drew1) | exact HB.out)) hb); clear HB; have HB := n0_; clear n0_; (try clear hb); (try clear hb2); (try clear hk); (try clear hi)) | ((with_reducible refine gate_callee (f := 15) rfl ?_); refine goesL_ (some 85) rfl rfl Try.func15 (by kernel_rfl) rfl #[.int .i64 (wrap64 (-t126))] rfl (by (try simp only [List.map_toArray, List.map_cons, List.map_nil]); first | done | rfl | (simp only [List.length_drop, List.length_take]; rfl)) ?_; (with_reducible refine (angle_Norm.calls (wrap64 (-t126)) t129 _ A84.out).mono ?_); rintro e w' ⟨rfl, ⟨nd, rfl⟩⟩; refine ⟨_, rfl, ?_⟩) | (go_at_call 19; (with_reducible refine (angle_Atan.calls kj17 (wrap64 (2 * (Int.tmod t124 536870912))) (wrap64 (2 * (Int.tmod t125 536870912))) t130 _ A87.out).mono ?_); rintro e w89 ⟨rfl, hb⟩; have n0_ := Aside0.mk (below_step (by repeat (first | (with_reducible first | exact HB.out | apply below_alloc | apply pw_below_drewN | apply below_drew1) | exact HB.out)) hb); clear HB; have HB := n0_; clear n0_; (try clear hb); (try clear hb2); (try clear hk); (try clear hi)))
                        go_ret
                        exact ⟨by first | rfl | (simp [errW_none, errW_some] <;> rfl) | (simp [*, errW_none, errW_some] <;> rfl), by repeat (first | (with_reducible first | exact HB.out | apply below_alloc | apply pw_below_drewN | apply below_drew1) | exact HB.out)⟩
                      · rw [if_neg c86] at H
                        have c86b0 : ((Int.tmod t124 536870912) == 0) = false := beq_eq_false_iff_ne.mpr c86
                        have c86b1 : ((Int.tmod t124 536870912) != 0) = true := bne_iff_ne.mpr c86
                        replace H := Option.bind_eq_some_iff.mp H
                        obtain ⟨t131, A900, H⟩ := H
                        replace H : ((angle_Norm.f (wrap64 (32768 - t126))).bind fun t132 => (if t131 = t132 then ((angle_Atan.f kj17 (wrap64 (2 * (Int.tmod t124 536870912))) (wrap64 (2 * (Int.tmod t125 536870912)))).bind fun t133 => (some (t133 == t126))) else (some false))) = some r := H
                        have A90 := Aside0.mk A900
                        clear A900
                        replace H := Option.bind_eq_some_iff.mp H
                        obtain ⟨t132, A910, H⟩ := H
                        replace H : (if t131 = t132 then ((angle_Atan.f kj17 (wrap64 (2 * (Int.tmod t124 536870912))) (wrap64 (2 * (Int.tmod t125 536870912)))).bind fun t133 => (some (t133 == t126))) else (some false)) = some r := H
                        have A91 := Aside0.mk A910
                        clear A910
                        by_cases c92 : t131 = t132
                        · rw [if_pos c92] at H
                          have c92b0 : (t131 == t132) = true := beq_iff_eq.mpr c92
                          have c92b1 : (t131 != t132) = false := bne_eq_false_iff_eq.mpr c92
                          clear c92
                          replace H := Option.bind_eq_some_iff.mp H
                          obtain ⟨t133, A930, H⟩ := H
                          replace H : (some (t133 == t126)) = some r := H
                          have A93 := Aside0.mk A930
                          clear A930
                          obtain rfl := Option.some.inj H
                          go_wp2_with (first | ((with_reducible refine gate_callee (f := 19) rfl ?_); refine goesL_ (some 82) rfl rfl Try.func19 (by kernel_rfl) rfl #[.int .i64 (wrap64 (-(Int.tmod t124 536870912))), .int .i64 (Int.tmod t125 536870912)] rfl (by (try simp only [List.map_toArray, List.map_cons, List.map_nil]); first | done | rfl | (simp only [List.length_drop, List.length_take]; rfl)) ?_; (with_reducible refine (angle_Atan.calls kj17 (wrap64 (-(Int.tmod t124 536870912))) (Int.tmod t125 536870912) t128 _ A83.out).mono ?_); rintro e w94 ⟨rfl, hb⟩; refine ⟨_, rfl, ?_⟩; have n0_ := Aside0.mk (below_step (by repeat (first | (with_reducible first | exact HB.out | apply below_alloc | apply pw_below_drewN | apply below_drew1) | exact HB.out)) hb); clear HB; have HB := n0_; clear n0_; (try clear hb); (try clear hb2); (try clear hk); (try clear hi)) | ((with_reducible refine gate_callee (f := 15) rfl ?_); refine goesL_ (some 85) rfl rfl Try.func15 (by kernel_rfl) rfl #[.int .i64 (wrap64 (-t126))] rfl (by (try simp only [List.map_toArray, List.map_cons, List.map_nil]); first | done | rfl | (simp only [List.length_drop, List.length_take]; rfl)) ?_; (with_reducible refine (angle_Norm.calls (wrap64 (-t126)) t129 _ A84.out).mono ?_); rintro e w' ⟨rfl, ⟨nd, rfl⟩⟩; refine ⟨_, rfl, ?_⟩) | (go_at_call 19; (with_reducible refine (angle_Atan.calls kj17 (Int.tmod t124 536870912) (wrap64 (-(Int.tmod t125 536870912))) t131 _ A90.out).mono ?_); rintro e w95 ⟨rfl, hb⟩; have n0_ := Aside0.mk (below_step (by repeat (first | (with_reducible first | exact HB.out | apply below_alloc | apply pw_below_drewN | apply below_drew1) | exact HB.out)) hb); clear HB; have HB := n0_; clear n0_; (try clear hb); (try clear hb2); (try clear hk); (try clear hi)) | (go_at_call 15; (with_reducible refine (angle_Norm.calls (wrap64 (32768 - t126)) t132 _ A91.out).mono ?_); rintro e w' ⟨rfl, ⟨nd, rfl⟩⟩) | (go_at_call 19; (with_reducible refine (angle_Atan.calls kj17 (wrap64 (2 * (Int.tmod t124 536870912))) (wrap64 (2 * (Int.tmod t125 536870912))) t133 _ A93.out).mono ?_); rintro e w96 ⟨rfl, hb⟩; have n0_ := Aside0.mk (below_step (by repeat (first | (with_reducible first | exact HB.out | apply below_alloc | apply pw_below_drewN | apply below_drew1) | exact HB.out)) hb); clear HB; have HB := n0_; clear n0_; (try clear hb); (try clear hb2); (try clear hk); (try clear hi)))
                          go_ret
                          exact ⟨by first | rfl | (simp [errW_none, errW_some] <;> rfl) | (simp [*, errW_none, errW_some] <;> rfl), by repeat (first | (with_reducible first | exact HB.out | apply below_alloc | apply pw_below_drewN | apply below_drew1) | exact HB.out)⟩
                        · rw [if_neg c92] at H
                          have c92b0 : (t131 == t132) = false := beq_eq_false_iff_ne.mpr c92
                          have c92b1 : (t131 != t132) = true := bne_iff_ne.mpr c92
                          obtain rfl := Option.some.inj H
                          go_wp2_with (first | ((with_reducible refine gate_callee (f := 19) rfl ?_); refine goesL_ (some 82) rfl rfl Try.func19 (by kernel_rfl) rfl #[.int .i64 (wrap64 (-(Int.tmod t124 536870912))), .int .i64 (Int.tmod t125 536870912)] rfl (by (try simp only [List.map_toArray, List.map_cons, List.map_nil]); first | done | rfl | (simp only [List.length_drop, List.length_take]; rfl)) ?_; (with_reducible refine (angle_Atan.calls kj17 (wrap64 (-(Int.tmod t124 536870912))) (Int.tmod t125 536870912) t128 _ A83.out).mono ?_); rintro e w97 ⟨rfl, hb⟩; refine ⟨_, rfl, ?_⟩; have n0_ := Aside0.mk (below_step (by repeat (first | (with_reducible first | exact HB.out | apply below_alloc | apply pw_below_drewN | apply below_drew1) | exact HB.out)) hb); clear HB; have HB := n0_; clear n0_; (try clear hb); (try clear hb2); (try clear hk); (try clear hi)) | ((with_reducible refine gate_callee (f := 15) rfl ?_); refine goesL_ (some 85) rfl rfl Try.func15 (by kernel_rfl) rfl #[.int .i64 (wrap64 (-t126))] rfl (by (try simp only [List.map_toArray, List.map_cons, List.map_nil]); first | done | rfl | (simp only [List.length_drop, List.length_take]; rfl)) ?_; (with_reducible refine (angle_Norm.calls (wrap64 (-t126)) t129 _ A84.out).mono ?_); rintro e w' ⟨rfl, ⟨nd, rfl⟩⟩; refine ⟨_, rfl, ?_⟩) | (go_at_call 19; (with_reducible refine (angle_Atan.calls kj17 (Int.tmod t124 536870912) (wrap64 (-(Int.tmod t125 536870912))) t131 _ A90.out).mono ?_); rintro e w98 ⟨rfl, hb⟩; have n0_ := Aside0.mk (below_step (by repeat (first | (with_reducible first | exact HB.out | apply below_alloc | apply pw_below_drewN | apply below_drew1) | exact HB.out)) hb); clear HB; have HB := n0_; clear n0_; (try clear hb); (try clear hb2); (try clear hk); (try clear hi)) | (go_at_call 15; (with_reducible refine (angle_Norm.calls (wrap64 (32768 - t126)) t132 _ A91.out).mono ?_); rintro e w' ⟨rfl, ⟨nd, rfl⟩⟩))
                          go_ret
                          exact ⟨by first | rfl | (simp [errW_none, errW_some] <;> rfl) | (simp [*, errW_none, errW_some] <;> rfl), by repeat (first | (with_reducible first | exact HB.out | apply below_alloc | apply pw_below_drewN | apply below_drew1) | exact HB.out)⟩
                    · rw [if_neg c85] at H
                      have c85b0 : (t128 == t129) = false := beq_eq_false_iff_ne.mpr c85
                      have c85b1 : (t128 != t129) = true := bne_iff_ne.mpr c85
                      obtain rfl := Option.some.inj H
                      go_wp2_with (first | ((with_reducible refine gate_callee (f := 19) rfl ?_); refine goesL_ (some 82) rfl rfl Try.func19 (by kernel_rfl) rfl #[.int .i64 (wrap64 (-(Int.tmod t124 536870912))), .int .i64 (Int.tmod t125 536870912)] rfl (by (try simp only [List.map_toArray, List.map_cons, List.map_nil]); first | done | rfl | (simp only [List.length_drop, List.length_take]; rfl)) ?_; (with_reducible refine (angle_Atan.calls kj17 (wrap64 (-(Int.tmod t124 536870912))) (Int.tmod t125 536870912) t128 _ A83.out).mono ?_); rintro e w99 ⟨rfl, hb⟩; refine ⟨_, rfl, ?_⟩; have n0_ := Aside0.mk (below_step (by repeat (first | (with_reducible first | exact HB.out | apply below_alloc | apply pw_below_drewN | apply below_drew1) | exact HB.out)) hb); clear HB; have HB := n0_; clear n0_; (try clear hb); (try clear hb2); (try clear hk); (try clear hi)) | ((with_reducible refine gate_callee (f := 15) rfl ?_); refine goesL_ (some 85) rfl rfl Try.func15 (by kernel_rfl) rfl #[.int .i64 (wrap64 (-t126))] rfl (by (try simp only [List.map_toArray, List.map_cons, List.map_nil]); first | done | rfl | (simp only [List.length_drop, List.length_take]; rfl)) ?_; (with_reducible refine (angle_Norm.calls (wrap64 (-t126)) t129 _ A84.out).mono ?_); rintro e w' ⟨rfl, ⟨nd, rfl⟩⟩; refine ⟨_, rfl, ?_⟩))
                      go_ret
                      exact ⟨by first | rfl | (simp [errW_none, errW_some] <;> rfl) | (simp [*, errW_none, errW_some] <;> rfl), by repeat (first | (with_reducible first | exact HB.out | apply below_alloc | apply pw_below_drewN | apply below_drew1) | exact HB.out)⟩

/-- THE ONE PURE STATEMENT of versallaw4_AngleSides: yours. -/
def versallaw4_AngleSides.Pure : Prop := ∀ (a0 : Int) (a1 : Int), (Lit.int .i64 a0).wf = true → (Lit.int .i64 a1).wf = true → ∃ k, versallaw4_AngleSides.f k a0 a1 = some true
theorem versallaw4_AngleSides.walk (P : versallaw4_AngleSides.Pure) (a0 : Int) (a1 : Int) (w : World) (w0 : (Lit.int .i64 a0).wf = true) (w1 : (Lit.int .i64 a1).wf = true) :
    Calls Try.prog 4 #[.int .i64 a0, .int .i64 a1] w fun e w' => e = .returned (.bool true) ∧ Below w.heap.size w w' := by
  obtain ⟨k, h⟩ := P a0 a1 w0 w1
  refine (versallaw4_AngleSides.calls k a0 a1 true w h).mono ?_
  rintro e w' ⟨rfl, hd⟩
  exact ⟨rfl, hd⟩

end Go.Proofs.Ytaohkdieigbccaa.PAngleSides
