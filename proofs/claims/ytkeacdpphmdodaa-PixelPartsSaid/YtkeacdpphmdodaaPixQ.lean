/- What pixel.Bare's and pixel.Mix's inner functions answer. -/
import Derived.Test.YtkeacdpphmdodaaPPixelTellsx5
import Derived.Test.YtkeacdpphmdodaaMath
import Derived.StillTailTactics
namespace Go.Proofs.Ytkeacdpphmdodaa.PixQ
open Go.RowKit Go.Proofs.YtkeacdpphmdodaaW.PrintWords Go.Proofs.YtkeacdpphmdodaaW.PrintLast Go.Proofs.YtkeacdpphmdodaaW.PrintMore Go.Proofs.Ytkeacdpphmdodaa.PPixelTells Go.Proofs.Ytkeacdpphmdodaa.M
attribute [local go_sem] max2_int min2_int max_two min_two max_three min_three max_four min_four
set_option linter.unusedVariables false
set_option linter.unusedSimpArgs false

abbrev Q (f : FuncId) (args : Array Value) (w : World) (v : Value) : Prop := Calls Try.prog f args w fun e w' => e = .returned v ∧ w' = w
abbrev Ret (f : FuncId) (args : Array Value) (w : World) (v : Value) : Prop := Calls Try.prog f args w fun e w' => e = .returned v ∧ Below w.heap.size w w'
abbrev px (r g b a : Int) : Value := .agg #[.int .i64 r, .int .i64 g, .int .i64 b, .int .i64 a]
theorem bcell {W w1 : World} (hb : Below W.heap.size W w1) : (∀ b o, b < W.heap.size → w1.cell? ⟨b, o, none⟩ = W.cell? ⟨b, o, none⟩) ∧ (∀ b o, b < W.heap.size → w1.frozen? ⟨b, o, none⟩ = W.frozen? ⟨b, o, none⟩) :=
  ⟨fun b o h => hb.cell (p := ⟨b, o, none⟩) h, fun b o h => hb.frozen (p := ⟨b, o, none⟩) h⟩
theorem ret_eq {a b : Int} (e : a = b) : Ending.returned (.int .i64 a) = .returned (.int .i64 b) := by rw [e]
def bare (n a : Int) : Int := mn 255 ((n * 255 + a / 2) / a)
theorem qbare (n a : Int) (B : Nat) (w : World) (ha : w.cell? ⟨B, 3, none⟩ = some (.int .i64 a)) (n1 : 0 ≤ n) (n2 : n ≤ 255) (a1 : 1 ≤ a) (a2 : a ≤ 255) : Q 62 #[.int .i64 n, .pointer (some ⟨B, 0, none⟩)] w (.int .i64 (bare n a)) := by
  go_enter Try.func62, Try.ntmps62
  go_wp2
  all_goals (go_ret; exact ⟨ret_eq (by unfold bare mn; omega), rfl⟩)
/-- two blocks of four cells each, that lie there behind a call as before -/
theorem two_next {w w1 : World} {a0 a1 a2 a3 b0 b1 b2 b3 : Value} {t u : TypeId} (hb : Below ((w.alloc (.cells #[a0, a1, a2, a3] t)).alloc (.cells #[b0, b1, b2, b3] u)).heap.size ((w.alloc (.cells #[a0, a1, a2, a3] t)).alloc (.cells #[b0, b1, b2, b3] u)) w1) :
    (w1.cell? ⟨w.heap.size, 0, none⟩ = some a0 ∧ w1.cell? ⟨w.heap.size, 1, none⟩ = some a1 ∧ w1.cell? ⟨w.heap.size, 2, none⟩ = some a2 ∧ w1.cell? ⟨w.heap.size, 3, none⟩ = some a3) ∧
    (w1.cell? ⟨w.heap.size + 1, 0, none⟩ = some b0 ∧ w1.cell? ⟨w.heap.size + 1, 1, none⟩ = some b1 ∧ w1.cell? ⟨w.heap.size + 1, 2, none⟩ = some b2 ∧ w1.cell? ⟨w.heap.size + 1, 3, none⟩ = some b3) ∧
    (∀ o, w1.frozen? ⟨w.heap.size, o, none⟩ = false) ∧ (∀ o, w1.frozen? ⟨w.heap.size + 1, o, none⟩ = false) ∧ w.heap.size + 1 < w1.heap.size := by
  obtain ⟨hc, hf⟩ := bcell hb
  have hs := hb.size
  refine ⟨⟨?_, ?_, ?_, ?_⟩, ⟨?_, ?_, ?_, ?_⟩, ?_, ?_, ?_⟩
  all_goals first
    | (rw [hc _ _ (by simp <;> omega)]; go_simp)
    | (intro o; rw [hf _ _ (by simp <;> omega)]; go_simp)
    | (simp at hs; omega)
theorem two_set {w w1 : World} {x0 x1 x2 x3 y0 y1 y2 y3 : Value} (a0 a1 a2 a3 : Value)
    (h0 : w1.cell? ⟨w.heap.size, 0, none⟩ = some x0) (h1 : w1.cell? ⟨w.heap.size, 1, none⟩ = some x1) (h2 : w1.cell? ⟨w.heap.size, 2, none⟩ = some x2) (h3 : w1.cell? ⟨w.heap.size, 3, none⟩ = some x3)
    (k0 : w1.cell? ⟨w.heap.size + 1, 0, none⟩ = some y0) (k1 : w1.cell? ⟨w.heap.size + 1, 1, none⟩ = some y1) (k2 : w1.cell? ⟨w.heap.size + 1, 2, none⟩ = some y2) (k3 : w1.cell? ⟨w.heap.size + 1, 3, none⟩ = some y3)
    (fy : ∀ o, w1.frozen? ⟨w.heap.size + 1, o, none⟩ = false) (hB : Aside0 (Below w.heap.size w w1)) :
    ∃ wz, wz = (((w1.setCell ⟨w.heap.size, 0, none⟩ a0).setCell ⟨w.heap.size, 1, none⟩ a1).setCell ⟨w.heap.size, 2, none⟩ a2).setCell ⟨w.heap.size, 3, none⟩ a3 ∧
      (wz.cell? ⟨w.heap.size, 0, none⟩ = some a0 ∧ wz.cell? ⟨w.heap.size, 1, none⟩ = some a1 ∧ wz.cell? ⟨w.heap.size, 2, none⟩ = some a2 ∧ wz.cell? ⟨w.heap.size, 3, none⟩ = some a3) ∧
      (wz.cell? ⟨w.heap.size + 1, 0, none⟩ = some y0 ∧ wz.cell? ⟨w.heap.size + 1, 1, none⟩ = some y1 ∧ wz.cell? ⟨w.heap.size + 1, 2, none⟩ = some y2 ∧ wz.cell? ⟨w.heap.size + 1, 3, none⟩ = some y3) ∧
      (∀ o, wz.frozen? ⟨w.heap.size + 1, o, none⟩ = false) ∧ Aside0 (Below w.heap.size w wz) := by
  refine ⟨_, rfl, ⟨?_, ?_, ?_, ?_⟩, ⟨?_, ?_, ?_, ?_⟩, ?_, ⟨below_set (below_set (below_set (below_set hB.out (by omega)) (by omega)) (by omega)) (by omega)⟩⟩
  all_goals first
    | go_simp
    | (intro o; simp only [World.frozen?_setCell]; exact fy o)
set_option maxHeartbeats 4000000 in
theorem c17 (r g b a r' g' b' a' : Int) (w : World) (K : ∀ w, Ret 61 #[px r g b a] w (px r' g' b' a')) (r1 : 0 ≤ r') (r2 : r' ≤ 255) (g1 : 0 ≤ g') (g2 : g' ≤ 255) (b1 : 0 ≤ b') (b2 : b' ≤ 255) (a1 : 1 ≤ a') (a2 : a' ≤ 255) : Ret 17 #[px r g b a] w (px (bare r' a') (bare g' a') (bare b' a') a') := by
  have HB := Aside0.mk (Below.refl w.heap.size w)
  have ha0 : (a' == 0) = false := by simp; omega
  go_enter Try.func17, Try.ntmps17
  go_wp2_with (go_at_call 61; (with_reducible refine (K _).mono ?_); rintro e w1 ⟨rfl, hb⟩; obtain ⟨⟨x0, x1, x2, x3⟩, ⟨y0, y1, y2, y3⟩, fx, fy, hz⟩ := two_next hb; have n0_ := Aside0.mk (below_step (w := w) (by repeat (first | (with_reducible first | exact HB.out | apply below_alloc | apply pw_below_drewN | apply below_drew1 | (refine below_set ?_ (by omega))) | exact HB.out)) hb); clear HB; have HB := n0_; clear n0_ hb)
  obtain ⟨wz, hwz, ⟨z0, z1, z2, z3⟩, ⟨v0, v1, v2, v3⟩, fz, HZ⟩ := two_set (.int .i64 r') (.int .i64 g') (.int .i64 b') (.int .i64 a') x0 x1 x2 x3 y0 y1 y2 y3 fy HB
  rw [← hwz]
  clear hwz x0 x1 x2 x3 y0 y1 y2 y3 fx fy hz HB
  have HB := HZ
  clear HZ
  refine wp_region_still_tail 15 (by kernel_rfl) (by kernel_rfl) ?_
  simp only [List.take_succ_cons, List.take_zero, List.drop_succ_cons, List.drop_zero]
  change wpStill _ _ wz.drew _ _ _
  iterate 3 still_step
  still_call (qbare r' a' w.heap.size _ (by go_simp) r1 r2 a1 a2)
  iterate 3 still_step
  still_call (qbare g' a' w.heap.size _ (by go_simp) g1 g2 a1 a2)
  iterate 3 still_step
  still_call (qbare b' a' w.heap.size _ (by go_simp) b1 b2 a1 a2)
  iterate 3 still_step
  refine wpStill_nil ?_
  change wpList _ _ _ _ _ (World.drew wz)
  go_wp2

  exact bodyPost_ret (v := px (bare r' a') (bare g' a') (bare b' a') a') (by simp [results, Try.results17, go_sem, v0, v1, v2, v3]) rfl ⟨rfl, (by repeat (first | (with_reducible first | exact HB.out | apply below_alloc | apply pw_below_drewN | apply below_drew1 | (refine below_set ?_ (by omega))) | exact HB.out))⟩
set_option maxHeartbeats 4000000 in
theorem c17z (r g b a r' g' b' a' : Int) (w : World) (K : ∀ w, Ret 61 #[px r g b a] w (px r' g' b' a')) (hz0 : a' = 0) : Ret 17 #[px r g b a] w (px 0 0 0 0) := by
  subst hz0
  have HB := Aside0.mk (Below.refl w.heap.size w)
  go_enter Try.func17, Try.ntmps17
  go_wp2_with (go_at_call 61; (with_reducible refine (K _).mono ?_); rintro e w1 ⟨rfl, hb⟩; obtain ⟨⟨x0, x1, x2, x3⟩, ⟨y0, y1, y2, y3⟩, fx, fy, hz⟩ := two_next hb; have n0_ := Aside0.mk (below_step (w := w) (by repeat (first | (with_reducible first | exact HB.out | apply below_alloc | apply pw_below_drewN | apply below_drew1 | (refine below_set ?_ (by omega))) | exact HB.out)) hb); clear HB; have HB := n0_; clear n0_ hb)
  exact bodyPost_ret (v := px 0 0 0 0) (by simp [results, Try.results17, go_sem, y0, y1, y2, y3]) rfl ⟨rfl, (by repeat (first | (with_reducible first | exact HB.out | apply below_alloc | apply pw_below_drewN | apply below_drew1 | (refine below_set ?_ (by omega))) | exact HB.out))⟩

end Go.Proofs.Ytkeacdpphmdodaa.PixQ
