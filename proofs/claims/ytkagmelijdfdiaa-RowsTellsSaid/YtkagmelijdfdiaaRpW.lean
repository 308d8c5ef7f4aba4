/- The reference's Passes gives the list of the law. -/
import Derived.Test.YtkagmelijdfdiaaRtA
import Derived.Test.YtkagmelijdfdiaaChp
import Derived.Test.YtkagmelijdfdiaaLpj
import Derived.Test.YtkagmelijdfdiaaRwd
import Derived.Deep.WholeRow
namespace Go.Proofs.Ytkagmelijdfdiaa.RpW
open Go.RowKit Go.Proofs.YtkagmelijdfdiaaW.PrintWords Go.Proofs.YtkagmelijdfdiaaW.PrintLast Go.Proofs.YtkagmelijdfdiaaW.PrintMore Go.Proofs.Ytkagmelijdfdiaa.PRowsTells Go.Proofs.Ytkagmelijdfdiaa.M Go.Proofs.Ytkagmelijdfdiaa.Reg Go.Proofs.Ytkagmelijdfdiaa.Chp Go.Proofs.Ytkagmelijdfdiaa.Rgw Go.Proofs.Ytkagmelijdfdiaa.Rwd Go.Proofs.Ytkagmelijdfdiaa.RtA
attribute [local go_sem] max2_mx min2_mn max_two min_two max_three min_three max_four min_four
set_option linter.unusedVariables false
set_option linter.unusedSimpArgs false

abbrev Ret (f : FuncId) (args : Array Value) (w : World) (v : Value) : Prop := Calls Try.prog f args w fun e w' => e = .returned v ∧ Below w.heap.size w w'
theorem lift {f : FuncId} {args : Array Value} {w : World} {v : Value} (h : Calls Try.prog f args w fun e w' => e = .returned v ∧ Drawn0 w w') : Ret f args w v := h.mono fun _ _ ⟨a, b⟩ => ⟨a, b.below⟩
def PostM (a0 : Act) (S : List Tmp) (sp : Int → List (Tmp × Value)) (M : Int → World → Prop) (k : Int) (a' : Act) (W' : World) : Prop := ∃ g', putF2 a0 S g' (sp (k + 1)) = a' ∧ M (k + 1) W'
theorem loop_p {P : Program} {c : Code} {Q : Exit → Act → World → Prop} {a0 : Act} {W : World} (M : Int → World → Prop) (S : List Tmp) (sp : Int → List (Tmp × Value)) (n : Int) (hn : 0 ≤ n) (h0 : putF2 a0 S (fun s => a0.tmps.getD s undef) (sp 0) = a0) (hM : M 0 W)
    (step : ∀ (k : Int) (g : Tmp → Value) (W : World), 0 ≤ k → k < n → M k W → c.wp P (Exit.then (PostM a0 S sp M k) Q) (putF2 a0 S g (sp k)) W)
    (last : ∀ (g : Tmp → Value) (W : World), M n W → c.wp P (Exit.then (fun _ _ => False) Q) (putF2 a0 S g (sp n)) W) : (Code.loop c).wp P Q a0 W := loop_m M S sp n hn h0 hM step last
theorem post_end {a0 a' : Act} {S : List Tmp} {sp : Int → List (Tmp × Value)} {M : Int → World → Prop} {k : Int} {W' : World} (p : M (k + 1) W') (h : putF2 a0 S (fun s => a'.tmps.getD s undef) (sp (k + 1)) = a') : PostM a0 S sp M k a' W' := ⟨_, h, p⟩
def PostL {α : Type} (d : Kd α) (e : Nat) (w0 : World) (a0 : Act) (S : List Tmp) (sp : Int → Value → List (Tmp × Value)) (R : Int → List α → Prop) (k : Int) (a' : Act) (W' : World) : Prop := ∃ g' v' L', putF2 a0 S g' (sp (k + 1) v') = a' ∧ R (k + 1) L' ∧ Kd.R d e W' w0.heap.size (fun _ => True) v' L' ∧ Below w0.heap.size w0 W'
theorem loop_q {P : Program} {c : Code} {Q : Exit → Act → World → Prop} {a0 : Act} {w0 W : World} {α : Type} (d : Kd α) (e : Nat) (S : List Tmp) (sp : Int → Value → List (Tmp × Value)) (n : Int) (hn : 0 ≤ n) (v0 : Value) (h0 : putF2 a0 S (fun s => a0.tmps.getD s undef) (sp 0 v0) = a0) (R : Int → List α → Prop) (hR0 : R 0 [])
    (hV : Kd.R d e W w0.heap.size (fun _ => True) v0 []) (hB : Below w0.heap.size w0 W)
    (step : ∀ (k : Int) (g : Tmp → Value) (v : Value) (L : List α) (W : World), 0 ≤ k → k < n → R k L → Kd.R d e W w0.heap.size (fun _ => True) v L → Below w0.heap.size w0 W → c.wp P (Exit.then (PostL d e w0 a0 S sp R k) Q) (putF2 a0 S g (sp k v)) W)
    (last : ∀ (g : Tmp → Value) (v : Value) (L : List α) (W : World), R n L → Kd.R d e W w0.heap.size (fun _ => True) v L → Below w0.heap.size w0 W → c.wp P (Exit.then (fun _ _ => False) Q) (putF2 a0 S g (sp n v)) W) : (Code.loop c).wp P Q a0 W := loop_l d e S sp n hn v0 h0 R hR0 hV hB step last
theorem postl_end {α : Type} {d : Kd α} {e : Nat} {w0 : World} {a0 a' : Act} {S : List Tmp} {sp : Int → Value → List (Tmp × Value)} {R : Int → List α → Prop} {k : Int} {W' : World} (v : Value) (L : List α) (p : R (k + 1) L ∧ Kd.R d e W' w0.heap.size (fun _ => True) v L ∧ Below w0.heap.size w0 W') (h : putF2 a0 S (fun s => a'.tmps.getD s undef) (sp (k + 1) v) = a') : PostL d e w0 a0 S sp R k a' W' := ⟨_, v, L, h, p⟩
theorem info50 : (Try.prog.info? 50).map (fun i => (i.zero, i.size, i.bytes)) = some (some (.agg #[(.int .i64 0), (.int .i64 0), (.int .i64 0), (.int .i64 0), (.int .i64 0), (.int .i64 0)]), 6, 48) := by kernel_rfl
theorem one_row6 {w : World} {b : Nat} {t : TypeId} {x : S41} (h : w.heap[b]? = some (.cells #[.int .i64 x.f0, .int .i64 x.f1, .int .i64 x.f2, .int .i64 x.f3, .int .i64 x.f4, .int .i64 x.f5] t (0, 0))) : ReadsRow (fun (x : S41) cs => cs = [.int .i64 x.f0, .int .i64 x.f1, .int .i64 x.f2, .int .i64 x.f3, .int .i64 x.f4, .int .i64 x.f5]) k41.sz w (some ⟨b, 0, none⟩) 1 [x] := by
  have hs := src (cs := [.int .i64 x.f0, .int .i64 x.f1, .int .i64 x.f2, .int .i64 x.f3, .int .i64 x.f4, .int .i64 x.f5]) (by simpa using h)
  refine ⟨rfl, by omega, fun _ => ⟨_, rfl, fun j p hj => ?_⟩⟩
  match j, hj with
  | 0, hj =>
    obtain rfl := Option.some.inj hj
    exact ⟨_, rfl, rfl, fun i u hu => by rw [Nat.zero_mul, Nat.zero_add]; exact hs i u hu⟩
  | j + 1, hj => cases hj
/-- the pass that is counted lies in block C; ahead of the round's world nothing has changed -/
structure RP (w0 : World) (C : Nat) (s : S41) (a b : Int) (w : World) : Prop where
  hC : w.heap[C]? = some (.cells #[.int .i64 s.f0, .int .i64 s.f1, .int .i64 s.f2, .int .i64 s.f3, .int .i64 a, .int .i64 b] 50 (0, 0))
  bel : Below w0.heap.size w0 w
  ge : w0.heap.size ≤ C
theorem RP.set4 {w0 : World} {C : Nat} {s : S41} {a b : Int} {w : World} (h : RP w0 C s a b w) (a' : Int) : RP w0 C s a' b (w.setCell ⟨C, 4, none⟩ (.int .i64 a')) :=
  ⟨by have := at_set h.hC 4 (.int .i64 a'); simpa using this, below_set h.bel h.ge, h.ge⟩
theorem RP.set5 {w0 : World} {C : Nat} {s : S41} {a b : Int} {w : World} (h : RP w0 C s a b w) (b' : Int) : RP w0 C s a b' (w.setCell ⟨C, 5, none⟩ (.int .i64 b')) :=
  ⟨by have := at_set h.hC 5 (.int .i64 b'); simpa using this, below_set h.bel h.ge, h.ge⟩
theorem idx61 : ∀ {t : Nat} {s : S41}, tbl[t]? = some s → ∀ W : World, (Instr.index 61 (.agg #[.int .i64 0, .int .i64 0, .int .i64 8, .int .i64 8, .int .i64 0, .int .i64 0, .int .i64 4, .int .i64 0, .int .i64 8, .int .i64 8, .int .i64 0, .int .i64 0, .int .i64 0, .int .i64 4, .int .i64 4, .int .i64 8, .int .i64 0, .int .i64 0, .int .i64 2, .int .i64 0, .int .i64 4, .int .i64 4, .int .i64 0, .int .i64 0, .int .i64 0, .int .i64 2, .int .i64 2, .int .i64 4, .int .i64 0, .int .i64 0, .int .i64 1, .int .i64 0, .int .i64 2, .int .i64 2, .int .i64 0, .int .i64 0, .int .i64 0, .int .i64 1, .int .i64 1, .int .i64 2, .int .i64 0, .int .i64 0]) (.int .i64 (t : Int))).run Try.prog W = .ok (.agg #[.int .i64 s.f0, .int .i64 s.f1, .int .i64 s.f2, .int .i64 s.f3, .int .i64 s.f4, .int .i64 s.f5]) W
  | 0, s, h, W => by
    obtain rfl := Option.some.inj h
    kernel_rfl
  | 1, s, h, W => by
    obtain rfl := Option.some.inj h
    kernel_rfl
  | 2, s, h, W => by
    obtain rfl := Option.some.inj h
    kernel_rfl
  | 3, s, h, W => by
    obtain rfl := Option.some.inj h
    kernel_rfl
  | 4, s, h, W => by
    obtain rfl := Option.some.inj h
    kernel_rfl
  | 5, s, h, W => by
    obtain rfl := Option.some.inj h
    kernel_rfl
  | 6, s, h, W => by
    obtain rfl := Option.some.inj h
    kernel_rfl
  | n + 7, s, h, W => by
    rw [List.getElem?_eq_none (by show 7 ≤ n + 7; omega)] at h
    cases h
set_option maxHeartbeats 64000000 in
set_option maxRecDepth 100000 in
theorem rpass (a b : Int) (w : World) (K1 : ∀ w, Ret 32 #[.int .i64 a, .int .i64 0, .int .i64 256] w (.int .i64 (cw a))) (K2 : ∀ w, Ret 32 #[.int .i64 b, .int .i64 0, .int .i64 256] w (.int .i64 (cw b))) :
    Calls Try.prog 26 #[.int .i64 a, .int .i64 b] w fun e w' => ∃ v, e = .returned v ∧ RD k41 (pk (cw a) (cw b) 7) w' v ∧ Below w.heap.size w w' := by
  have HS := St.nil w
  go_enter Try.func26, Try.ntmps26
  repeat' (first | ((with_reducible refine gate_region 0 false ?_); refine region_sq (w0 := w) 1 [] (by kernel_rfl) (by rfl) (by rfl) (by exact HS) ?_; refine s_val (v := ?_) (a' := ?_) rfl (fun _ => by rfl) (by rfl) ?_ ?_ ?_; rotate_left 2; (focus (intro l c w' hc hB; go_simp; (try go_ints); (with_reducible rfl))); (focus (intro c; simp only [u_0, u_1, u_2, u_3, Nat.reduceAdd]; rfl)); refine s_nil ?_; intro c W_ HS_; (try simp only [Exit.then]); (try dsimp only); simp only [List.map_cons, List.map_nil, Ent.end_, u_1, u_2, u_3] at HS_; clear HS; (try clear W); clear c; revert HS_; revert W_; intro W HS) | ((with_reducible refine gate_region 1 false ?_); refine region_sq (w0 := w) 3 [] (by kernel_rfl) (by rfl) (by rfl) (by exact HS) ?_; refine s_val (v := ?_) (a' := ?_) rfl (fun _ => by rfl) (by rfl) ?_ ?_ ?_; rotate_left 2; (focus (intro l c w' hc hB; go_simp; (try go_ints); (with_reducible rfl))); (focus (intro c; simp only [u_0, u_1, u_2, u_3, Nat.reduceAdd]; rfl)); refine s_call rfl (fun _ => by rfl) (by rfl) Try.func32 (by kernel_rfl) rfl ?_ rfl ?_ ?_; rotate_left 1; (focus (intro c; go_simp; (first | done | rfl))); refine ⟨_, fun w => K1 w, ?_, ?_, ?_⟩; rotate_left 1; (focus (intro c; simp only [u_0, u_1, u_2, u_3, Nat.reduceAdd]; rfl)); refine s_val (v := ?_) (a' := ?_) rfl (fun _ => by rfl) (by rfl) ?_ ?_ ?_; rotate_left 2; (focus (intro l c w' hc hB; go_simp; (try go_ints); (with_reducible rfl))); (focus (intro c; simp only [u_0, u_1, u_2, u_3, Nat.reduceAdd]; rfl)); refine s_nil ?_; intro c W_ HS_; (try simp only [Exit.then]); (try dsimp only); simp only [List.map_cons, List.map_nil, Ent.end_, u_1, u_2, u_3] at HS_; clear HS; (try clear W); clear c; revert HS_; revert W_; intro W HS) | ((with_reducible refine gate_region 2 false ?_); refine region_sq (w0 := w) 3 [] (by kernel_rfl) (by rfl) (by rfl) (by exact HS) ?_; refine s_val (v := ?_) (a' := ?_) rfl (fun _ => by rfl) (by rfl) ?_ ?_ ?_; rotate_left 2; (focus (intro l c w' hc hB; go_simp; (try go_ints); (with_reducible rfl))); (focus (intro c; simp only [u_0, u_1, u_2, u_3, Nat.reduceAdd]; rfl)); refine s_call rfl (fun _ => by rfl) (by rfl) Try.func32 (by kernel_rfl) rfl ?_ rfl ?_ ?_; rotate_left 1; (focus (intro c; go_simp; (first | done | rfl))); refine ⟨_, fun w => K2 w, ?_, ?_, ?_⟩; rotate_left 1; (focus (intro c; simp only [u_0, u_1, u_2, u_3, Nat.reduceAdd]; rfl)); refine s_val (v := ?_) (a' := ?_) rfl (fun _ => by rfl) (by rfl) ?_ ?_ ?_; rotate_left 2; (focus (intro l c w' hc hB; go_simp; (try go_ints); (with_reducible rfl))); (focus (intro c; simp only [u_0, u_1, u_2, u_3, Nat.reduceAdd]; rfl)); refine s_nil ?_; intro c W_ HS_; (try simp only [Exit.then]); (try dsimp only); simp only [List.map_cons, List.map_nil, Ent.end_, u_1, u_2, u_3] at HS_; clear HS; (try clear W); clear c; revert HS_; revert W_; intro W HS) | (with_reducible refine hold_region 3 false ?_) | (with_reducible refine hold_any ?_) | go_values | go_skip | go_guarded | go_step | go_upon | (simp only [Int.not_lt, Int.not_le] at *; go_simp) | (go_values <;> (try go_simp)) | (go_ite <;> go_prune <;> (try go_simp)))
  refine ⟨?_⟩
  go_wp2
  have hw := cw_b a
  have hh := cw_b b
  generalize hW0 : cw a = W0 at *
  generalize hH0 : cw b = H0 at *
  have hW0 := Aside0.mk hW0; have hH0 := Aside0.mk hH0
  obtain ⟨w0, w1⟩ := hw
  obtain ⟨h0, h1⟩ := hh
  have HB0 := HS.below
  clear K1 K2 HS
  refine loop_q k41 50 [7, 8, 9, 23, 24, 25, 26, 27, 28, 29, 30, 31, 32, 33, 34, 35, 36, 37, 38, 39, 40, 41, 42, 43, 44, 45, 46, 47, 48, 49, 50, 51, 52, 53, 54, 55, 56, 57, 58, 59, 60, 61, 62, 63] (fun k v => [(22, .int .i64 k), (5, v)]) 7 (by omega) (.slice none 0 0) (by simp only [putF2, List.foldl_cons, List.foldl_nil, u_1, u_2, u_3, Nat.reduceAdd]; rfl) (fun k L => ∃ t : Nat, k = (t : Int) ∧ L = pk W0 H0 t) ⟨0, rfl, rfl⟩ (Kd.R_nil _ _ _ _ _) HB0 ?_ ?_
  · clear HB0 W
    intro k g v L W k0 k1 hR HV HB
    obtain ⟨t, rfl, rfl⟩ := hR
    have ht : t < 7 := by omega
    obtain ⟨s, hs⟩ : ∃ s, tbl[t]? = some s := ⟨_, List.getElem?_eq_getElem ht⟩
    have hnext := pk_next W0 H0 hs
    have hlen := pk_len W0 H0 t
    obtain ⟨r0, r1, r2, r3, r4, r5⟩ := tbl_row hs
    have hV := Aside0.mk HV; have hBz := Aside0.mk HB; have hnx := Aside0.mk hnext; have hrw := Aside0.mk (And.intro r0 (And.intro r1 (And.intro r2 r3)))
    clear HV HB hnext r0 r1 r2 r3
    have hidx := fun W => idx61 hs W
    clear hs
    simp only [putF2, List.foldl_cons, List.foldl_nil, u_1, u_2, u_3, Nat.reduceAdd]
    rw [r4, r5] at hidx
    go_wp2
    have hP : RP W W.heap.size s 0 0 (W.alloc (.cells #[.int .i64 s.f0, .int .i64 s.f1, .int .i64 s.f2, .int .i64 s.f3, .int .i64 0, .int .i64 0] 50)) :=
      ⟨heap_alloc_new _ _, Go.Proofs.YtkagmelijdfdiaaW.PrintWords.below_alloc (Below.refl _ _) _, Nat.le_refl _⟩
    generalize W.alloc (.cells #[.int .i64 s.f0, .int .i64 s.f1, .int .i64 s.f2, .int .i64 s.f3, .int .i64 0, .int .i64 0] 50) = W1 at *
    clear hidx r4 r5
    generalize hCe : W.heap.size = C at hP ⊢
    clear hCe
    obtain ⟨r0, r1, r2, r3⟩ := hrw.out
    have r3' : s.f3 = 1 ∨ s.f3 = 2 ∨ s.f3 = 4 ∨ s.f3 = 8 := .inr r3
    have bA := cnt_b (x := s.f0) w1 (by omega) r2
    have bB := cnt_b (x := s.f1) h1 (by omega) r3'
    have pA := cnt_pos (w := W0) (x := s.f0) r2
    have pB := cnt_pos (w := H0) (x := s.f1) r3'
    have lA := Aside0.mk (fun k => cnt_lt (w := W0) (x := s.f0) (k := k) r2)
    have lB := Aside0.mk (fun k => cnt_lt (w := H0) (x := s.f1) (k := k) r3')
    have eA := Aside0.mk (cnt_end (w := W0) (x := s.f0) r2)
    have eB := Aside0.mk (cnt_end (w := H0) (x := s.f1) r3')
    have ptY := Aside0.mk (fun hw hh => pt_yes (w := W0) (h := H0) (s := s) hw hh)
    have ptN := Aside0.mk (fun hn => pt_no (w := W0) (h := H0) (s := s) hn)
    have c0 : 0 ≤ s.f0 ∧ s.f0 ≤ 4 := by omega
    have c1 : 0 ≤ s.f1 ∧ s.f1 ≤ 4 := by omega
    have c2 : 1 ≤ s.f2 ∧ s.f2 ≤ 8 := by omega
    have c3 : 1 ≤ s.f3 ∧ s.f3 ≤ 8 := by omega
    clear r0 r1 r2 r3 r3' hrw
    generalize cnt W0 s.f0 s.f2 = A at *
    generalize cnt H0 s.f1 s.f3 = B at *
    obtain ⟨bA0, bA1⟩ := bA
    obtain ⟨bB0, bB1⟩ := bB
    obtain ⟨c0, c0'⟩ := c0
    obtain ⟨c1, c1'⟩ := c1
    obtain ⟨c2, c2'⟩ := c2
    obtain ⟨c3, c3'⟩ := c3
    refine loop_p (fun k W' => RP W C s k 0 W') [27, 28, 29, 30, 31, 32, 33, 34, 35, 36, 37] (fun k => [(8, .int .i64 (s.f0 + k * s.f2))]) A (by omega) (by simp only [putF2, List.foldl_cons, List.foldl_nil, u_1, u_2, u_3, Nat.reduceAdd]; rw [show s.f0 + 0 * s.f2 = s.f0 by omega]; rfl) hP ?_ ?_
    · clear hP W1
      intro i g W' i0 i1 hP
      have k2 : W'.cell? ⟨C, 2, none⟩ = some (.int .i64 s.f2) := at_cell hP.hC 2
      have k4 : W'.cell? ⟨C, 4, none⟩ = some (.int .i64 i) := at_cell hP.hC 4
      have kf : W'.frozen? ⟨C, 4, none⟩ = false := at_free hP.hC 4
      have hE := Aside0.mk (hP.set4 (i + 1))
      have hlt := lA.out i i0 i1
      have hr := Aside0.mk (show s.f0 + i * s.f2 + s.f2 = s.f0 + (i + 1) * s.f2 by rw [Int.add_mul]; omega)
      have hge : 0 ≤ s.f0 + i * s.f2 := by have := Int.mul_nonneg i0 (show 0 ≤ s.f2 by omega); omega
      clear hP
      simp only [putF2, List.foldl_cons, List.foldl_nil, u_1, u_2, u_3, Nat.reduceAdd]
      generalize s.f0 + i * s.f2 = x at *
      go_wp2
      rw [hr.out]
      refine post_end hE.out ?_
      kernel_rfl
    · clear hP W1
      intro g W' hP
      have hend := eA.out
      have k1 : W'.cell? ⟨C, 1, none⟩ = some (.int .i64 s.f1) := at_cell hP.hC 1
      have hP_ := Aside0.mk hP
      clear hP lA
      simp only [putF2, List.foldl_cons, List.foldl_nil, u_1, u_2, u_3, Nat.reduceAdd]
      generalize s.f0 + A * s.f2 = x at *
      go_wp2
      clear hend k1
      refine loop_p (fun k W' => RP W C s A k W') [40, 41, 42, 43, 44, 45, 46, 47, 48, 49, 50] (fun k => [(9, .int .i64 (s.f1 + k * s.f3))]) B (by omega) (by simp only [putF2, List.foldl_cons, List.foldl_nil, u_1, u_2, u_3, Nat.reduceAdd]; rw [show s.f1 + 0 * s.f3 = s.f1 by omega]; rfl) hP_.out ?_ ?_
      · clear hP_ W'
        intro i g W' i0 i1 hP
        have k3 : W'.cell? ⟨C, 3, none⟩ = some (.int .i64 s.f3) := at_cell hP.hC 3
        have k5 : W'.cell? ⟨C, 5, none⟩ = some (.int .i64 i) := at_cell hP.hC 5
        have kf : W'.frozen? ⟨C, 5, none⟩ = false := at_free hP.hC 5
        have hE := Aside0.mk (hP.set5 (i + 1))
        have hlt := lB.out i i0 i1
        have hr := Aside0.mk (show s.f1 + i * s.f3 + s.f3 = s.f1 + (i + 1) * s.f3 by rw [Int.add_mul]; omega)
        have hge : 0 ≤ s.f1 + i * s.f3 := by have := Int.mul_nonneg i0 (show 0 ≤ s.f3 by omega); omega
        clear hP
        simp only [putF2, List.foldl_cons, List.foldl_nil, u_1, u_2, u_3, Nat.reduceAdd]
        generalize s.f1 + i * s.f3 = y at *
        go_wp2
        rw [hr.out]
        refine post_end hE.out ?_
        kernel_rfl
      · clear hP_ W'
        intro g W' hP
        have hend := eB.out
        have l0 : W'.cell? ⟨C, 0, none⟩ = some (.int .i64 s.f0) := at_cell hP.hC 0
        have l1 : W'.cell? ⟨C, 1, none⟩ = some (.int .i64 s.f1) := at_cell hP.hC 1
        have l2 : W'.cell? ⟨C, 2, none⟩ = some (.int .i64 s.f2) := at_cell hP.hC 2
        have l3 : W'.cell? ⟨C, 3, none⟩ = some (.int .i64 s.f3) := at_cell hP.hC 3
        have l4 : W'.cell? ⟨C, 4, none⟩ = some (.int .i64 A) := at_cell hP.hC 4
        have l5 : W'.cell? ⟨C, 5, none⟩ = some (.int .i64 B) := at_cell hP.hC 5
        have hV2 := Aside0.mk (Kd.R_below hV.out hP.bel)
        have hB2 := Aside0.mk (Go.Proofs.YtkagmelijdfdiaaW.PrintWords.below_step hBz.out hP.bel)
        clear hP hV hBz lB eA eB
        simp only [putF2, List.foldl_cons, List.foldl_nil, u_1, u_2, u_3, Nat.reduceAdd]
        generalize s.f1 + B * s.f3 = y at *
        by_cases hA : 0 < A
        · by_cases hB : 0 < B
          · have hpt := Aside0.mk (ptY.out (pA.1 hA) (pB.1 hB))
            clear ptY ptN pA pB
            go_wp2_with (first | ((with_reducible refine gate_builtin (b := .append) (xs := #[.tmp 59, .tmp 61]) rfl ?_); at_builtin; refine Kd.R_append k41 (w0 := w) w.heap.size rfl (.tmp 59) (.tmp 61) 48 50 (.agg #[(.int .i64 0), (.int .i64 0), (.int .i64 0), (.int .i64 0), (.int .i64 0), (.int .i64 0)]) 48 rfl Try.underlying48 info50 rfl (by decide) (by omega) v (pk W0 H0 t) (⟨s.f0, s.f1, s.f2, s.f3, A, B⟩ : S41) [.int .i64 s.f0, .int .i64 s.f1, .int .i64 s.f2, .int .i64 s.f3, .int .i64 A, .int .i64 B] (fun _ => True) (fun _ => False) rfl (by first | (go_simp; done) | (go_simp; rfl)) ?aP (fun _ hk => hk.elim) ?aF ?aO ?aB ?aS ?aL ?_; (case aP => exact k41_mkM _ _ _ (⟨s.f0, s.f1, s.f2, s.f3, A, B⟩ : S41)); (case aF => exact fun _ _ => trivial); (case aO => exact hV2.out); (case aB => exact hB2.out); (case aS => exact hB2.out.size); (case aL => omega); intro v107 w25 ho hb hg hat; have ho_ := Aside0.mk ho; have hb_ := Aside0.mk hb; clear ho hb hg hat hV2 hB2))
            refine postl_end v107 (pk W0 H0 (t + 1)) ⟨⟨t + 1, by omega, rfl⟩, by rw [hnx.out, hpt.out]; exact ho_.out, hb_.out⟩ ?_
            kernel_rfl
          · have hpt := Aside0.mk (ptN.out (fun hc => hB (pB.2 hc.2)))
            clear ptY ptN pA pB
            go_wp2
            refine postl_end v (pk W0 H0 (t + 1)) ⟨⟨t + 1, by omega, rfl⟩, by rw [hnx.out, hpt.out, List.append_nil]; exact hV2.out, hB2.out⟩ ?_
            kernel_rfl
        · have hpt := Aside0.mk (ptN.out (fun hc => hA (pA.2 hc.1)))
          clear ptY ptN pA pB
          go_wp2
          refine postl_end v (pk W0 H0 (t + 1)) ⟨⟨t + 1, by omega, rfl⟩, by rw [hnx.out, hpt.out, List.append_nil]; exact hV2.out, hB2.out⟩ ?_
          kernel_rfl
  · clear HB0 W
    intro g v L W hR HV HB
    obtain ⟨t, ht, rfl⟩ := hR
    obtain rfl : t = 7 := by omega
    have hE := Aside0.mk (And.intro (RD.of_R HV) HB)
    clear HV HB ht
    simp only [putF2, List.foldl_cons, List.foldl_nil, u_1, u_2, u_3, Nat.reduceAdd]
    go_wp2
    go_ret
    exact ⟨v, rfl, by rw [hW0.out, hH0.out]; exact hE.out.1, hE.out.2⟩

end Go.Proofs.Ytkagmelijdfdiaa.RpW
