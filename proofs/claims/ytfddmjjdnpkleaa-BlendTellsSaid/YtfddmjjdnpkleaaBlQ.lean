/- What the functions of blending over three numbers answer: of, lum, sat. -/
import Derived.Test.YtfddmjjdnpkleaaBlP
import Derived.Test.YtfddmjjdnpkleaaBlm
import Derived.Test.YtfddmjjdnpkleaaReg
namespace Go.Proofs.Ytfddmjjdnpkleaa.BlQ
open Go.RowKit Go.Proofs.YtfddmjjdnpkleaaW.PrintWords Go.Proofs.YtfddmjjdnpkleaaW.PrintLast Go.Proofs.YtfddmjjdnpkleaaW.PrintMore Go.Proofs.Ytfddmjjdnpkleaa.BlP Go.Proofs.Ytfddmjjdnpkleaa.M Go.Proofs.Ytfddmjjdnpkleaa.Blm Go.Proofs.Ytfddmjjdnpkleaa.Reg
attribute [local go_sem] max2_mx min2_mn max_two min_two max_three min_three max_four min_four
set_option linter.unusedVariables false
set_option linter.unusedSimpArgs false

abbrev Q (f : FuncId) (args : Array Value) (w : World) (v : Value) : Prop := Calls Try.prog f args w fun e w' => e = .returned v ∧ w' = w
abbrev Ret (f : FuncId) (args : Array Value) (w : World) (v : Value) : Prop := Calls Try.prog f args w fun e w' => e = .returned v ∧ Below w.heap.size w w'
abbrev px (r g b a : Int) : Value := .agg #[.int .i64 r, .int .i64 g, .int .i64 b, .int .i64 a]
abbrev t3 (x y z : Int) : Value := .agg #[.int .i64 x, .int .i64 y, .int .i64 z]
theorem bcell {W w1 : World} (hb : Below W.heap.size W w1) : (∀ b o, b < W.heap.size → w1.cell? ⟨b, o, none⟩ = W.cell? ⟨b, o, none⟩) ∧ (∀ b o, b < W.heap.size → w1.frozen? ⟨b, o, none⟩ = W.frozen? ⟨b, o, none⟩) :=
  ⟨fun b o h => hb.cell (p := ⟨b, o, none⟩) h, fun b o h => hb.frozen (p := ⟨b, o, none⟩) h⟩
theorem ret_eq {a b : Int} (e : a = b) : Ending.returned (.int .i64 a) = .returned (.int .i64 b) := by rw [e]
theorem lift {f : FuncId} {args : Array Value} {w : World} {v : Value} (h : Calls Try.prog f args w fun e w' => e = .returned v ∧ Drawn0 w w') : Ret f args w v := h.mono fun _ _ ⟨a, b⟩ => ⟨a, b.below⟩
theorem ret_of {f : FuncId} {args : Array Value} {w : World} {a b : Int} (e : a = b) (h : Ret f args w (.int .i64 a)) : Ret f args w (.int .i64 b) := e ▸ h
theorem c22 (r g b a : Int) (w : World) : Ret 22 #[px r g b a] w (t3 r g b) := by
  have HB := Aside0.mk (Below.refl w.heap.size w)
  go_enter Try.func22, Try.ntmps22
  go_wp2
  exact bodyPost_ret (v := t3 r g b) (by simp [results, Try.results22, go_sem]) rfl ⟨rfl, (by repeat (first | (with_reducible first | exact HB.out | apply below_alloc | apply pw_below_drewN | apply below_drew1 | (refine below_set ?_ (by omega))) | exact HB.out))⟩
theorem floored_f {n d : Int} (hd : 0 < d) (n1 : -4611686018427387904 ≤ n) (n2 : n ≤ 4611686018427387904) : blend_floored.f n d = some (n / d) := by
  have h1 := ediv_bd (n := n) hd
  have h2 := tdiv_le (n := n) (d := d)
  unfold blend_floored.f
  rw [if_neg (by omega)]
  have e := tdiv_floor (n := n) hd
  split
  · rename_i h; rw [if_pos h] at e; rw [w64 (n := n.tdiv d) (by omega) (by omega), w64 (by omega) (by omega), e]
  · rename_i h; rw [if_neg h] at e; rw [w64 (n := n.tdiv d) (by omega) (by omega), e]
theorem c59 {n d : Int} (hd : 0 < d) (n1 : -4611686018427387904 ≤ n) (n2 : n ≤ 4611686018427387904) (w : World) : Ret 59 #[.int .i64 n, .int .i64 d] w (.int .i64 (n / d)) := by first | exact blend_floored.calls _ _ _ w (floored_f hd n1 n2) | exact lift (blend_floored.calls _ _ _ w (floored_f hd n1 n2))
set_option maxHeartbeats 1000000 in
theorem c54 (x y z : Int) (w : World) (x1 : -100000 ≤ x) (x2 : x ≤ 100000) (y1 : -100000 ≤ y) (y2 : y ≤ 100000) (z1 : -100000 ≤ z) (z2 : z ≤ 100000) : Ret 54 #[t3 x y z] w (.int .i64 (lum (x, y, z))) := by
  have HB := Aside0.mk (Below.refl w.heap.size w)
  go_enter Try.func54, Try.ntmps54
  go_wp2_with (first | (go_at_call 59; (with_reducible refine (c59 (n := 30 * x + 59 * y + 11 * z) (d := 100) (by omega) (by omega) (by omega) _).mono ?_); rintro e w1 ⟨rfl, hb⟩; have n0_ := Aside0.mk (below_step (w := w) (by repeat (first | (with_reducible first | exact HB.out | apply below_alloc | apply pw_below_drewN | apply below_drew1 | (refine below_set ?_ (by omega))) | exact HB.out)) hb); clear HB; have HB := n0_; clear n0_ hb))
  go_ret
  exact ⟨rfl, HB.out⟩
set_option maxHeartbeats 1000000 in
theorem c53 (x y z : Int) (w : World) (x1 : -100000 ≤ x) (x2 : x ≤ 100000) (y1 : -100000 ≤ y) (y2 : y ≤ 100000) (z1 : -100000 ≤ z) (z2 : z ≤ 100000) : Ret 53 #[t3 x y z] w (.int .i64 (sat (x, y, z))) := by
  have HB := Aside0.mk (Below.refl w.heap.size w)
  have m1 : -100000 ≤ mx (mx x y) z ∧ mx (mx x y) z ≤ 100000 := by unfold mx; omega
  have m2 : -100000 ≤ mn (mn x y) z ∧ mn (mn x y) z ≤ 100000 := by unfold mn; omega
  go_enter Try.func53, Try.ntmps53
  go_wp2
  go_ret
  exact ⟨rfl, (by repeat (first | (with_reducible first | exact HB.out | apply below_alloc | apply pw_below_drewN | apply below_drew1 | (refine below_set ?_ (by omega))) | exact HB.out))⟩

end Go.Proofs.Ytfddmjjdnpkleaa.BlQ
