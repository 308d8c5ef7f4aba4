/- LazyNests returns true at every input. -/
import Derived.Test.YthnkmadipbfmaaaPLazyNestsx1
import Derived.Test.YthnkmadipbfmaaaLzL
import Derived.Test.YthnkmadipbfmaaaLzN
import Derived.Test.YthnkmadipbfmaaaArr
namespace Go.Proofs.Ythnkmadipbfmaaa.WalkLazyNests
open Go.RowKit Go.Proofs.YthnkmadipbfmaaaW.PrintWords Go.Proofs.YthnkmadipbfmaaaW.PrintLast Go.Proofs.YthnkmadipbfmaaaW.PrintMore Go.Proofs.Ythnkmadipbfmaaa.M Go.Proofs.Ythnkmadipbfmaaa.Reg Go.Proofs.Ythnkmadipbfmaaa.Rgw Go.Proofs.Ythnkmadipbfmaaa.Rwd Go.Proofs.Ythnkmadipbfmaaa.Chp Go.Proofs.Ythnkmadipbfmaaa.PLazyNests Go.Proofs.Ythnkmadipbfmaaa.LzA Go.Proofs.Ythnkmadipbfmaaa.LzB Go.Proofs.Ythnkmadipbfmaaa.LzC Go.Proofs.Ythnkmadipbfmaaa.LzD Go.Proofs.Ythnkmadipbfmaaa.LzE Go.Proofs.Ythnkmadipbfmaaa.LzF Go.Proofs.Ythnkmadipbfmaaa.LzG Go.Proofs.Ythnkmadipbfmaaa.LzJ Go.Proofs.Ythnkmadipbfmaaa.LzK Go.Proofs.Ythnkmadipbfmaaa.LzL Go.Proofs.Ythnkmadipbfmaaa.LzN
attribute [local go_sem] max2_mx min2_mn max_two min_two max_three min_three max_four min_four
set_option linter.unusedVariables false
set_option linter.unusedSimpArgs false

theorem pick_f {n m : Int} (h1 : 0 < m) (h2 : m ≤ 9223372036854775807) : versalhand_Pick.f n m = some (n % m) := by
  have ha := Int.lt_tmod_of_pos n h1
  have hb := Int.tmod_lt_of_pos n h1
  rw [← tmod_pick h1]
  unfold versalhand_Pick.f
  rw [if_neg (by omega)]
  by_cases h : n.tmod m < 0
  · rw [if_pos h, if_pos h, w64 (by omega) (by omega)]
  · rw [if_neg h, if_neg h]

abbrev Ret (f : FuncId) (args : Array Value) (w : World) (v : Value) : Prop := Calls Try.prog f args w fun e w' => e = .returned v ∧ Below w.heap.size w w'
def Src (ans : Nat → Int) (A : Option Addr) (len : Nat) (w : World) : Prop := ∀ i, i < len → ∃ ad, A = some ad ∧ w.cell? (ad.add i) = some (.int .i64 (ans i))
/-- the making of the cells, behind j of them -/
structure LI (w0 : World) (A : Option Addr) (len cap : Nat) (B2 B6 B8 : Nat) (Ls : List Nat) (Vs : Nat → Nat) (B7 j : Nat) (w : World) : Prop where
  h2 : w.heap[B2]? = some (.cells #[.slice A len cap] 22 (0, 0))
  h6 : w.heap[B6]? = some (.cells #[.int .i64 0] 3 (0, 0))
  h8 : w.heap[B8]? = some (.cells #[.int .i64 j] 3 (0, 0))
  hV : ∀ i, i < j → w.heap[Vs i]? = some (.cells #[.int .i64 i] 3 (0, 0))
  hC : ∀ i, i < j → w.heap[Ls.getD i 0]? = some (nc (fv B2 B6 B7 Vs i))
  ge : ∀ i, i < j → w0.heap.size ≤ Ls.getD i 0
  lt8 : B8 ≠ B6
  ltV : ∀ i, i < j → Vs i ≠ B6
  ge6 : w0.heap.size ≤ B6
theorem LI.stay {w0 : World} {A : Option Addr} {len cap : Nat} {B2 B6 B8 : Nat} {Ls : List Nat} {Vs : Nat → Nat} {B7 j : Nat} {w w' : World} {S : Nat → Prop} (h : LI w0 A len cap B2 B6 B8 Ls Vs B7 j w) (hc : Ch S w w') (no : ∀ k cs t, w.heap[k]? = some (.cells cs t (0, 0)) → (t = 22 ∨ t = 3 ∨ t = 60) → ¬ S k) : LI w0 A len cap B2 B6 B8 Ls Vs B7 j w' :=
  ⟨hc.at h.h2 (no _ _ _ h.h2 (by decide)), hc.at h.h6 (no _ _ _ h.h6 (by decide)), hc.at h.h8 (no _ _ _ h.h8 (by decide)), fun i hi => hc.at (h.hV i hi) (no _ _ _ (h.hV i hi) (by decide)), fun i hi => hc.at (h.hC i hi) (no _ _ _ (h.hC i hi) (by decide)), h.ge, h.lt8, h.ltV, h.ge6⟩
theorem ty {w : World} {k : Nat} {cs cs' : Array Value} {t t' : TypeId} (h : w.heap[k]? = some (.cells cs t (0, 0))) (h' : w.heap[k]? = some (.cells cs' t' (0, 0))) : t = t' := by
  rw [h] at h'; injection h' with h'; injection h' with _ h'
theorem LI.st26 (w0 : World) (A : Option Addr) (len cap : Nat) (B2 B6 B8 : Nat) (Ls : List Nat) (Vs : Nat → Nat) (B7 j : Nat) : St26 (LI w0 A len cap B2 B6 B8 Ls Vs B7 j) := fun w w' hc h => h.stay hc (fun k cs t hk ht ⟨cs', e⟩ => by have := ty hk e; subst this; revert ht; decide)
set_option maxHeartbeats 64000000 in
set_option maxRecDepth 100000 in
theorem walk_ (A : Option Addr) (len cap : Nat) (ans : Nat → Int) (times : Int) (w : World) (hlen : len ≤ 9223372036854775807) (n : Nat) (hn : mn (len : Int) 12 = (n : Int)) (hnl : n ≤ len) (hn12 : n ≤ 12) (hs : Src ans A len w) (K7 : ∀ w, Ret 7 #[] w (.bool true)) (KP : ∀ w, Ret 10 #[.int .i64 times, .int .i64 5] w (.int .i64 (times % 5))) :
    Ret 4 #[.slice A len cap, .int .i64 times] w (.bool true) := by
  have HS := St.nil w
  go_enter Try.func4, Try.ntmps4
  repeat' (first | ((with_reducible refine gate_region 0 false ?_); refine region_sq (w0 := w) 2 [.mk 0 ?_] (by kernel_rfl) (by rfl) (by rfl) (by exact HS) ?_; rotate_left 1; refine s_box (a' := ?_) [] [] rfl (by rfl) (by rfl) rfl (fun _ => by rfl) ?_ ?_ ?_; rotate_left 1; (focus (intro c w'; go_simp; rfl)); (focus (intro c; simp only [u_0, u_1, u_2, u_3, Nat.reduceAdd]; rfl)); refine s_val (v := ?_) (a' := ?_) rfl (fun _ => by rfl) (by rfl) ?_ ?_ ?_; rotate_left 2; (focus (intro l c w' hc hB; go_simp; (try go_ints); (with_reducible rfl))); (focus (intro c; simp only [u_0, u_1, u_2, u_3, Nat.reduceAdd]; rfl)); refine s_nil ?_; intro c W_ HS_; (try simp only [Exit.then]); (try dsimp only); simp only [List.map_cons, List.map_nil, Ent.end_, u_1, u_2, u_3] at HS_; clear HS; (try clear W); generalize c 0 = B2 at HS_ ⊢; clear c; revert HS_; revert W_; intro W HS) | ((with_reducible refine gate_region 1 false ?_); refine region_sq (w0 := w) 2 [.fix B2 _] (by kernel_rfl) (by rfl) (by rfl) (by exact HS) ?_; refine s_call rfl (fun _ => by rfl) (by rfl) Try.func7 (by kernel_rfl) rfl ?_ rfl ?_ ?_; rotate_left 1; (focus (intro c; go_simp; (first | done | rfl))); refine ⟨_, fun w => K7 w, ?_, ?_, ?_⟩; rotate_left 1; (focus (intro c; simp only [u_0, u_1, u_2, u_3, Nat.reduceAdd]; rfl)); refine s_val (v := ?_) (a' := ?_) rfl (fun _ => by rfl) (by rfl) ?_ ?_ ?_; rotate_left 2; (focus (intro l c w' hc hB; go_simp; (try go_ints); (with_reducible rfl))); (focus (intro c; simp only [u_0, u_1, u_2, u_3, Nat.reduceAdd]; rfl)); refine s_nil ?_; intro c W_ HS_; (try simp only [Exit.then]); (try dsimp only); simp only [List.map_cons, List.map_nil, Ent.end_, u_1, u_2, u_3] at HS_; clear HS; (try clear W); clear c; revert HS_; revert W_; intro W HS) | ((with_reducible refine gate_region 3 false ?_); refine region_sq (w0 := w) 4 [.fix B2 _] (by kernel_rfl) (by rfl) (by rfl) (by exact HS) ?_; refine s_val (v := ?_) (a' := ?_) rfl (fun _ => by rfl) (by rfl) ?_ ?_ ?_; rotate_left 2; (focus (intro l c w' hc hB; obtain ⟨c0_, f0_, z0_⟩ := hB.fix_cells (.head _); go_simp; (try go_ints); (with_reducible rfl))); (focus (intro c; simp only [u_0, u_1, u_2, u_3, Nat.reduceAdd]; rfl)); (iterate 3 (refine s_val (v := ?_) (a' := ?_) rfl (fun _ => by rfl) (by rfl) ?_ ?_ ?_; rotate_left 2; (focus (intro l c w' hc hB; go_simp; (try go_ints); (with_reducible rfl))); (focus (intro c; simp only [u_0, u_1, u_2, u_3, Nat.reduceAdd]; rfl)))); refine s_nil ?_; intro c W_ HS_; (try simp only [Exit.then]); (try dsimp only); simp only [List.map_cons, List.map_nil, Ent.end_, u_1, u_2, u_3] at HS_; clear HS; (try clear W); clear c; revert HS_; revert W_; intro W HS) | ((with_reducible refine gate_region 4 false ?_); refine region_sq (w0 := w) 2 [.fix B2 _, .var 0 1 ?_ ?_] (by kernel_rfl) (by rfl) (by rfl) (by exact HS) ?_; rotate_left 2; refine s_alloc (a' := ?_) 1 _ _ [_] [] rfl (by rfl) (by rfl) (by decide) (by kernel_rfl) rfl (fun _ => by rfl) ?_ ?_ ?_; rotate_left 1; (focus (intro c w'; go_simp; rfl)); (focus (intro c; simp only [u_0, u_1, u_2, u_3, Nat.reduceAdd]; rfl)); refine s_init 0 _ _ [_] [] rfl (by rfl) (by rfl) (by decide) (by kernel_rfl) rfl (fun _ => by rfl) ?_ ?_ ?_ ?_; rotate_left 1; (focus (intro c w' hz; have c_ := blk_cell hz; have f_ := blk_frozen hz; go_simp; rfl)); (focus (intro c w' hz; exact (Turn.set hz _ _))); refine s_nil ?_; intro c W_ HS_; (try simp only [Exit.then]); (try dsimp only); simp only [List.map_cons, List.map_nil, Ent.end_, u_1, u_2, u_3] at HS_; clear HS; (try clear W); generalize c 0 = B6 at HS_ ⊢; clear c; revert HS_; revert W_; intro W HS) | ((with_reducible refine gate_region 5 false ?_); refine region_sq (w0 := w) 1 [.fix B2 _, .fix B6 _, .mk 0 ?_] (by kernel_rfl) (by rfl) (by rfl) (by exact HS) ?_; rotate_left 1; refine s_box (a' := ?_) [_, _] [] rfl (by rfl) (by rfl) rfl (fun _ => by rfl) ?_ ?_ ?_; rotate_left 1; (focus (intro c w'; go_simp; rfl)); (focus (intro c; simp only [u_0, u_1, u_2, u_3, Nat.reduceAdd]; rfl)); refine s_nil ?_; intro c W_ HS_; (try simp only [Exit.then]); (try dsimp only); simp only [List.map_cons, List.map_nil, Ent.end_, u_1, u_2, u_3] at HS_; clear HS; (try clear W); generalize c 0 = B7 at HS_ ⊢; clear c; revert HS_; revert W_; intro W HS) | ((with_reducible refine gate_region 6 false ?_); refine region_sq (w0 := w) 2 [.fix B2 _, .fix B6 _, .fix B7 _, .var 0 1 ?_ ?_] (by kernel_rfl) (by rfl) (by rfl) (by exact HS) ?_; rotate_left 2; refine s_alloc (a' := ?_) 1 _ _ [_, _, _] [] rfl (by rfl) (by rfl) (by decide) (by kernel_rfl) rfl (fun _ => by rfl) ?_ ?_ ?_; rotate_left 1; (focus (intro c w'; go_simp; rfl)); (focus (intro c; simp only [u_0, u_1, u_2, u_3, Nat.reduceAdd]; rfl)); refine s_init 0 _ _ [_, _, _] [] rfl (by rfl) (by rfl) (by decide) (by kernel_rfl) rfl (fun _ => by rfl) ?_ ?_ ?_ ?_; rotate_left 1; (focus (intro c w' hz; have c_ := blk_cell hz; have f_ := blk_frozen hz; go_simp; rfl)); (focus (intro c w' hz; exact (Turn.set hz _ _))); refine s_nil ?_; intro c W_ HS_; (try simp only [Exit.then]); (try dsimp only); simp only [List.map_cons, List.map_nil, Ent.end_, u_1, u_2, u_3] at HS_; clear HS; (try clear W); generalize c 0 = B8 at HS_ ⊢; clear c; revert HS_; revert W_; intro W HS) | (with_reducible refine hold_loop ?_) | (with_reducible refine hold_any ?_) | go_values | go_skip | go_guarded | go_step | go_upon | (simp only [Int.not_lt, Int.not_le] at *; go_simp) | (go_values <;> (try go_simp)) | (go_ite <;> go_prune <;> (try go_simp)))
  refine ⟨?_⟩
  refine loop_b (Y := Nat) (fun ji B8 W => ∃ (j : Nat) (Ls : List Nat) (Vs : Nat → Nat) (v : Value), ji = (j : Int) ∧ Ls.length = j ∧ LI w A len cap B2 B6 B8 Ls Vs B7 j W ∧ W.heap[B7]? = some (.cells #[v] 25 (0, 0)) ∧ SL w.heap.size W v Ls ∧ Below w.heap.size w W ∧ w.heap.size ≤ B7) [19, 20, 21, 22, 23, 24, 25, 26, 27, 28, 29] (fun _ B8 => [(8, ptr B8)]) (n : Int) (by omega) B8 (by simp only [putF2, List.foldl_cons, List.foldl_nil, u_1, u_2, u_3, Nat.reduceAdd]; rfl) ?_ ?_ ?_
  · obtain ⟨k2, -, -⟩ := HS.cells (.head _)
    have p := HS.apart
    simp only [List.pairwise_cons, List.mem_cons, List.not_mem_nil, or_false, forall_eq_or_imp, forall_eq] at p
    have h2 := (HS.holds _ (.head _))
    have h6 := (HS.holds _ (.tail _ (.head _)))
    have h7 := (HS.holds _ (.tail _ (.tail _ (.head _))))
    have h8 := (HS.holds _ (.tail _ (.tail _ (.tail _ (.head _)))))
    exact ⟨0, [], fun _ => 0, .slice none 0 0, rfl, rfl, ⟨h2.2, h6.2, h8.2, fun i hi => absurd hi (Nat.not_lt_zero _), fun i hi => absurd hi (Nat.not_lt_zero _), fun i hi => absurd hi (Nat.not_lt_zero _), fun e => p.2.1.2 e.symm, fun i hi => absurd hi (Nat.not_lt_zero _), h6.1⟩, h7.2, SL.nil _ _, HS.below, h7.1⟩
  · clear HS
    intro ji g B8 W j0 j1 hM
    obtain ⟨j, Ls, Vs, v, rfl, hlenj, hL, h7, hsl, hbel, ge7⟩ := hM
    have hjn : (j : Int) < (n : Int) := j1
    have c8 : W.cell? ⟨B8, 0, none⟩ = some (.int .i64 j) := at_cell hL.h8 0
    have hbase := hbel.size
    have st26 := LI.st26 w A len cap B2 B6 B8 Ls Vs B7 j
    have st26' : St26 (fun w1 => w1.heap[B7]? = some (.cells #[v] 25 (0, 0)) ∧ LI w A len cap B2 B6 B8 Ls Vs B7 j w1) := fun a b hc h => ⟨hc.at h.1 (fun ⟨cs, e⟩ => by rw [h.1] at e; cases e), st26 a b hc h.2⟩
    have hfv : (fv B2 B6 B7 (fun i => if i = j then B8 else Vs i) j) = .func (.func 13) #[] #[ptr B6, ptr B2, ptr B8, ptr B7] := by simp [fv]
    simp only [putF2, List.foldl_cons, List.foldl_nil, u_1, u_2, u_3, Nat.reduceAdd]
    go_wp2
    (with_reducible refine gate_region 9 true ?_)
    refine region_a4 (G0 w.heap.size W.heap.size w (fun w1 => w1.heap[B7]? = some (.cells #[v] 25 (0, 0)) ∧ LI w A len cap B2 B6 B8 Ls Vs B7 j w1) v Ls) (G1 w.heap.size W.heap.size w (fun w1 => w1.heap[B7]? = some (.cells #[v] 25 (0, 0)) ∧ LI w A len cap B2 B6 B8 Ls Vs B7 j w1) v Ls (fv B2 B6 B7 (fun i => if i = j then B8 else Vs i) j)) (G2 w.heap.size W.heap.size w (fun w1 => w1.heap[B7]? = some (.cells #[v] 25 (0, 0)) ∧ LI w A len cap B2 B6 B8 Ls Vs B7 j w1) v Ls (fv B2 B6 B7 (fun i => if i = j then B8 else Vs i) j)) (G3 w.heap.size W.heap.size w (fun w1 => w1.heap[B7]? = some (.cells #[v] 25 (0, 0)) ∧ LI w A len cap B2 B6 B8 Ls Vs B7 j w1) Ls (fv B2 B6 B7 (fun i => if i = j then B8 else Vs i) j)) (fun c4 _ w1 => ∃ C, W.heap.size ≤ C ∧ w1.heap[C]? = some (nc (fv B2 B6 B7 (fun i => if i = j then B8 else Vs i) j)) ∧ SL w.heap.size w1 c4 (Ls ++ [C]) ∧ LI w A len cap B2 B6 B8 Ls Vs B7 j w1 ∧ w1.heap[B7]? = some (.cells #[c4] 25 (0, 0)) ∧ Below w.heap.size w w1) (by kernel_rfl) (by kernel_rfl) rfl ⟨⟨at_drew h7, st26 _ _ (Ch.drew _ _) hL⟩, hsl.below (Go.Proofs.YthnkmadipbfmaaaW.PrintWords.below_drew (Below.refl _ _)), hbel.drew, Nat.le_refl _⟩ ?_
    refine a4_val (v := v) (a' := ?_) rfl (fun _ => by rfl) (by decide) ?_ ?_ ?_
    rotate_left 1
    · intro l c w' hc hB; have f_ := hB.early hc (by kernel_rfl) (by kernel_rfl) (F := fun w1 => w1.cell? ⟨B7, 0, none⟩ = some v) (fun h => at_cell h.1.1 0) (fun ⟨C, _, _, _, h⟩ => at_cell h.1.1 0) (fun ⟨C, b, _, _, _, _, h⟩ => at_cell h.1.1 0); go_simp; (first | done | rfl)
    · (intro c; simp only [u_0, u_1, u_2, u_3, Nat.reduceAdd]; rfl)
    refine a4_val (v := .func (.func 13) #[] #[ptr B6, ptr B2, ptr B8, ptr B7]) (a' := ?_) rfl (fun _ => by rfl) (by decide) ?_ ?_ ?_
    rotate_left 1
    · intro l c w' hc hB; go_simp; (first | done | rfl)
    · (intro c; simp only [u_0, u_1, u_2, u_3, Nat.reduceAdd]; rfl)
    refine a4_new (a' := ?_) rfl (fun _ => by rfl) (by kernel_rfl) 8 #[.func (.func 13) #[] #[ptr B6, ptr B2, ptr B8, ptr B7]] ?_ ?_ ?_ ?_
    rotate_left 1
    · intro c w'; go_simp; (first | done | rfl)
    · intro w' h; rw [hfv]; exact g_new (F' := 13) (caps := #[ptr B6, ptr B2, ptr B8, ptr B7]) st26' hbase w' h
    · (intro c; simp only [u_0, u_1, u_2, u_3, Nat.reduceAdd]; rfl)
    refine a4_row (a' := ?_) rfl (fun _ => by rfl) (by kernel_rfl) ?_ ?_ ?_
    rotate_left 1
    · intro c w' ⟨C, hc2, hn_, hC, h⟩; refine ⟨_, _, ?_, g_row st26' hbase hn_ hC h⟩; go_simp; (first | done | (rw [hc2]; first | done | rfl | kernel_rfl))
    · (intro c; simp only [u_0, u_1, u_2, u_3, Nat.reduceAdd]; rfl)
    refine a4_app (a' := ?_) rfl (fun _ => by rfl) (by kernel_rfl) ?_ ?_ ?_
    rotate_left 1
    · intro c w' h Q_ K_ hK_; exact g_app st26' hbase (by omega) (.tmp 24) (.tmp 27) rfl (by rfl) (by rfl) (by rfl) h Q_ K_ hK_
    · (intro c; simp only [u_0, u_1, u_2, u_3, Nat.reduceAdd]; rfl)
    refine a4_end (v := fun u => u) rfl (fun _ => by rfl) (by kernel_rfl) ?_ ?_
    · intro c w' ⟨C, hn_, hC, hS_, ⟨h7_, hL_⟩, hb_⟩; refine ⟨undef, w'.setCell ⟨B7, 0, none⟩ (c 4), .inr ⟨rfl, ?_⟩, C, hn_, ?_, ?_, ?_, at_set h7_ 0 _, hb_.setCell ge7 _⟩
      · have c_ := at_cell h7_ 0; have z_ := at_free h7_ 0; obtain ⟨A_, k_, e_⟩ := SL.slice hS_; go_simp; (first | done | rfl)
      · exact (Ch.set (S := (· = B7)) _ _ _ rfl).at hC (fun e => by rw [e] at hC; have := ty hC h7_; cases this)
      · exact hS_.ch (Ch.set (S := (· = B7)) _ _ _ rfl) (fun k hk ⟨cs, e⟩ => by subst hk; have := ty e h7_; cases this)
      · exact hL_.stay (Ch.set (S := (· = B7)) _ _ _ rfl) (fun k cs t_ hk ht e => by subst e; have := ty hk h7_; subst this; revert ht; decide)
    intro c_ W1 ⟨C, hn_, hC, hS1, hL1, h71, hb1⟩
    simp only [Exit.inBlock, Exit.then]
    (try dsimp only)
    simp only [Act.put]
    generalize c_ 2 = g2 at *
    generalize c_ 3 = g3 at *
    generalize c_ 4 = g4 at *
    clear c_ c8 hfv st26 st26' h7 hsl hL
    have c8 : W1.cell? ⟨B8, 0, none⟩ = some (.int .i64 j) := at_cell hL1.h8 0
    have hwj : wrap64 ((j : Int) + 1) = (j : Int) + 1 := w64 (by omega) (by omega)
    go_wp2
    have ka := Ch.alloc (fun _ => False) W1 (.cells #[.int .i64 ((j : Int) + 1)] 3 (0, 0))
    have ej : ((j + 1 : Nat) : Int) = (j : Int) + 1 := by omega
    have gA : ∀ i, i < j → (Ls ++ [C]).getD i 0 = Ls.getD i 0 := fun i hi => by rw [List.getD_eq_getElem?_getD, List.getElem?_append_left (by omega), ← List.getD_eq_getElem?_getD]
    have gB : (Ls ++ [C]).getD j 0 = C := by rw [List.getD_eq_getElem?_getD, List.getElem?_append_right (by omega)]; simp [hlenj]
    refine round_b W1.heap.size ⟨j + 1, Ls ++ [C], fun i => if i = j then B8 else Vs i, g4, by omega, by simp [hlenj], ⟨ka.at hL1.h2 id, ka.at hL1.h6 id, ?_, fun i hi => ?_, fun i hi => ?_, fun i hi => ?_, fun e => by have := at_lt hL1.h6; omega, fun i hi => ?_, hL1.ge6⟩, ka.at h71 id, hS1.below (Go.Proofs.YthnkmadipbfmaaaW.PrintWords.below_alloc (Below.refl _ _) _), Below.alloc hb1 hb1.size _, ge7⟩ ?_
    · rw [ej]; exact heap_alloc_new _ _
    · by_cases e : i = j
      · subst e; rw [if_pos rfl]; exact ka.at hL1.h8 id
      · rw [if_neg e]; exact ka.at (hL1.hV i (by omega)) id
    · by_cases e : i = j
      · subst e; rw [gB]; exact ka.at hC id
      · rw [gA i (by omega)]
        have := ka.at (hL1.hC i (by omega)) id
        simpa [fv, e] using this
    · by_cases e : i = j
      · subst e; rw [gB]; omega
      · rw [gA i (by omega)]; exact hL1.ge i (by omega)
    · by_cases e : i = j
      · subst e; rw [if_pos rfl]; exact hL1.lt8
      · rw [if_neg e]; exact hL1.ltV i (by omega)
    · rfl
  · clear HS
    intro g B8 W hM
    obtain ⟨j, Ls, Vs, v, hj, hlenj, hL, h7, hsl, hbel, ge7⟩ := hM
    obtain rfl : n = j := by omega
    clear hj
    have hjn : ¬ (n : Int) < (n : Int) := by omega
    have c8 : W.cell? ⟨B8, 0, none⟩ = some (.int .i64 n) := at_cell hL.h8 0
    simp only [putF2, List.foldl_cons, List.foldl_nil, u_1, u_2, u_3, Nat.reduceAdd]
    rcases Nat.eq_zero_or_pos n with h0 | h0
    · have hn0 : (n : Int) = 0 := by omega
      go_wp2
      go_ret
      exact ⟨rfl, hbel⟩
    obtain ⟨A7, k7, rfl⟩ := hsl.slice
    rw [hlenj] at h7 hsl
    have hN : NS w n A len cap ans B2 B6 B7 A7 k7 Ls Vs n (fun _ => false) (cntd (fun _ => false) n) W := by
      have e0 : ∀ k, cntd (fun _ => false) k = 0 := fun k => by induction k with
        | zero => rfl
        | succ k ih => rw [cntd, ih]; rfl
      rw [e0]
      exact ⟨hbel, hL.h2, hL.h6, h7, hsl, hL.hV, fun i hi => by have := hL.hC i hi; simpa [cl, nc, dn] using this⟩
    have Y : Lay w n A len ans B2 B6 B7 A7 k7 Ls Vs := by
      refine ⟨hlenj, fun i j hi hj e => ?_, fun i hi e => ?_, fun i hi e => ?_, fun i hi e => ?_, fun i j hi hj e => ?_, fun e => ?_, fun e => ?_, hL.ltV, fun k hk => ⟨fun e => ?_, fun i hi e => ?_⟩, hL.ge, hL.ge6, fun i hi => hs i (by omega), hnl, hn12⟩
      · have h1 := hL.hC i hi
        rw [e, hL.hC j hj] at h1
        have h2 : Vs j = Vs i := by
          simp [nc, fv, ptr, cel] at h1; exact h1
        have h3 := hL.hV i hi
        rw [← h2, hL.hV j hj] at h3
        simp at h3
        omega
      · have := hL.hC i hi; rw [e] at this; have := ty this hL.h2; cases this
      · have := hL.hC i hi; rw [e] at this; have := ty this hL.h6; cases this
      · have := hL.hC i hi; rw [e] at this; have := ty this h7; cases this
      · have := hL.hC i hi; rw [e] at this; have := ty this (hL.hV j hj); cases this
      · have := hL.h2; rw [e] at this; have := ty this hL.h6; cases this
      · have := h7; rw [e] at this; have := ty this hL.h6; cases this
      · obtain ⟨cs, hcs⟩ := hsl.own hk; rw [e] at hcs; have := ty hcs hL.h6; cases this
      · obtain ⟨cs, hcs⟩ := hsl.own hk; rw [e] at hcs; have := ty hcs (hL.hC i hi); cases this
    obtain ⟨ad7, rfl⟩ : ∃ ad7, A7 = some ad7 := by
      obtain ⟨ad, k, e, _⟩ := hsl.get (i := 0) (by omega)
      injection e with e1; exact ⟨ad, e1⟩
    clear hL h7 hsl hbel hs
    have hn0 : ¬ (n : Int) = 0 := by omega
    have hmn' : n - 1 < n := by omega
    have c7 : W.cell? ⟨B7, 0, none⟩ = some (.slice (some ad7) n k7) := at_cell hN.h7 0
    obtain ⟨Cm, hCm⟩ : ∃ c, Ls.getD (n - 1) 0 = c := ⟨_, rfl⟩
    have hcell : ∀ {r : Nat} {done : Nat → Bool} {cnt : Int} {W : World}, NS w n A len cap ans B2 B6 B7 (some ad7) k7 Ls Vs r done cnt W → W.cell? (ad7.add (n - 1)) = some (ptr Cm) := fun h => by rw [← hCm]; exact NS.cellAt h hlenj hmn'
    obtain ⟨tl, htl⟩ : ∃ c, tell ans (n - 1) = c := ⟨_, rfl⟩
    have hask : ∀ {done : Nat → Bool} {W : World}, NS w n A len cap ans B2 B6 B7 (some ad7) k7 Ls Vs n done (cntd done n) W → Calls Try.prog 14 #[ptr Cm] W (fun e w' => e = .returned (.int .i64 tl) ∧ ∃ done', NS w n A len cap ans B2 B6 B7 (some ad7) k7 Ls Vs n done' (cntd done' n) w') := fun h => by
      rw [← hCm, ← htl]
      refine (ask_all Y hmn' h).mono ?_
      rintro e w' ⟨he, _, d', h1, _, _⟩
      exact ⟨he, d', h1⟩
    have cS := hcell hN
    clear hCm
    go_wp2_with (go_at_call 14; refine Calls.mono (hask hN) ?_; rintro e W1 ⟨rfl, done, hN1⟩)
    (try clear hc1); (try clear hm1); (try clear c7 cS); (try clear hN)
    refine loop_m (fun _ W => ∃ done, NS w n A len cap ans B2 B6 B7 (some ad7) k7 Ls Vs n done (cntd done n) W) [38, 39, 40, 41, 42, 43, 44, 45, 46, 47, 48, 49, 50, 51] (fun k => [(10, .int .i64 k)]) (times % 5) (by omega) (by simp only [putF2, List.foldl_cons, List.foldl_nil, u_1, u_2, u_3, Nat.reduceAdd]; rfl) ⟨done, hN1⟩ ?_ ?_
    · (try clear hN1); (try clear hd1); (try clear hn0)
      intro k g W j0 j1 hM
      obtain ⟨done, hN⟩ := hM
      have c7 : W.cell? ⟨B7, 0, none⟩ = some (.slice (some ad7) n k7) := at_cell hN.h7 0
      have cS := hcell hN
      have hwk : wrap64 (k + 1) = k + 1 := w64 (by omega) (by omega)
      simp only [putF2, List.foldl_cons, List.foldl_nil, u_1, u_2, u_3, Nat.reduceAdd]
      go_wp2_with (first | (go_at_call 10; refine Calls.mono (KP _) ?_; rintro e Wp ⟨rfl, hbp⟩; have hN_ := hN.step hbp; clear hN hbp c7 cS; have hN := hN_; clear hN_; have c7 : Wp.cell? ⟨B7, 0, none⟩ = some (.slice (some ad7) n k7) := at_cell hN.h7 0; have cS := hcell hN) | (go_at_call 14; refine Calls.mono (hask hN) ?_; rintro e W2 ⟨rfl, done2, hN2⟩))
      refine round_end' ⟨_, hN2⟩ ?_
      rfl
    · (try clear hN1); (try clear hd1)
      intro g W hM
      obtain ⟨done, hN⟩ := hM
      have hqq : ¬ times % 5 < times % 5 := by omega
      have hmk := fun W => make_ints n (by omega) W
      simp only [putF2, List.foldl_cons, List.foldl_nil, u_1, u_2, u_3, Nat.reduceAdd]
      go_wp2_with (first | (go_at_call 10; refine Calls.mono (KP _) ?_; rintro e Wp ⟨rfl, hbp⟩; have hN_ := hN.step hbp; clear hN hbp; have hN := hN_; clear hN_))
      clear hmk hqq
      have LTn := NS.lt hN
      have hBW0 : w.heap.size ≤ Wp.heap.size := hN.bel.size
      have hN1 := hN.step (Go.Proofs.YthnkmadipbfmaaaW.PrintWords.below_alloc (Below.refl _ _) (.cells (ar .i64 (fun _ => 0) n) 3 (0, 0)))
      have hW1 : (Wp.alloc (.cells (ar .i64 (fun _ => 0) n) 3 (0, 0))).heap[Wp.heap.size]? = some (.cells (ar .i64 (fun _ => 0) n) 3 (0, 0)) := heap_alloc_new _ _
      clear hN
      generalize Wp.alloc (.cells (ar .i64 (fun _ => 0) n) 3 (0, 0)) = W2 at *
      generalize Wp.heap.size = BW at *
      have hadd : ∀ i, (⟨BW, 0, none⟩ : Addr).add i = ⟨BW, i, none⟩ := fun i => by unfold Addr.add; split <;> simp_all
      refine loop_m (fun k W => ∃ done, NS w n A len cap ans B2 B6 B7 (some ad7) k7 Ls Vs n done (cntd done n) W ∧ (∀ j : Nat, (j : Int) < k → done j = true) ∧ W.heap[BW]? = some (.cells (ar .i64 (fun j => if (j : Int) < k then tell ans j else 0) n) 3 (0, 0))) [13, 54, 55, 56, 57, 58, 59, 60, 61, 62, 63, 64, 65, 66, 67, 68, 69, 70, 71, 72, 73, 74, 75, 76, 77, 78, 79, 80, 81, 82, 83, 84, 85, 86, 87, 88, 89, 90, 91, 92, 93, 94, 95, 96, 97, 98, 99, 100, 101] (fun k => [(12, .int .i64 k)]) (n : Int) (by omega) (by simp only [putF2, List.foldl_cons, List.foldl_nil, u_1, u_2, u_3, Nat.reduceAdd]; rfl) ⟨done, hN1, fun j hj => by omega, ?_⟩ ?_ ?_
      · rw [hW1]
        have : (fun j : Nat => if (j : Int) < 0 then tell ans j else 0) = fun _ => 0 := funext fun j => if_neg (by omega)
        rw [this]
      · clear hN1 hW1
        intro ki g W j0 j1 hM
        obtain ⟨done, hN, hdone, hW⟩ := hM
        obtain ⟨i, rfl⟩ := Int.eq_ofNat_of_zero_le j0
        have hin : i < n := by omega
        obtain ⟨ad, hA, hsrc⟩ := Y.src i hin
        subst hA
        have c2 : W.cell? ⟨B2, 0, none⟩ = some (.slice (some ad) len cap) := at_cell hN.h2 0
        have cS : W.cell? (ad.add i) = some (.int .i64 (ans i)) := (hN.bel.cell (World.block_lt_of_cell? w _ hsrc)).trans hsrc
        have cW : W.cell? ⟨BW, i, none⟩ = some (.int .i64 0) := by rw [at_cell hW i, ar_get _ _ hin]; simp
        have zW : W.frozen? ⟨BW, i, none⟩ = false := at_free hW i
        have hil : (i : Int) < (len : Int) := by omega
        clear hsrc
        simp only [putF2, List.foldl_cons, List.foldl_nil, u_1, u_2, u_3, Nat.reduceAdd]
        go_wp2
        have hN1 := NS.far LTn hBW0 (Nat.le_refl _) hN (Ch.set (S := (· = BW)) W ⟨BW, i, none⟩ (.int .i64 ((ans i).tmod 1099511627776)) rfl)
        have hW1 := at_set hW i (.int .i64 ((ans i).tmod 1099511627776))
        rw [ar_set _ _ hin, zf_start] at hW1
        clear hN hW c2 cS cW zW hil
        generalize W.setCell ⟨BW, i, none⟩ (.int .i64 ((ans i).tmod 1099511627776)) = W3 at *
        have bx := tm (ans i)
        generalize hx : (ans i).tmod 1099511627776 = x at *
        have htell : (x + sm ans i).tmod 1099511627776 = tell ans i := by rw [← hx]; rfl
        clear hx
        refine loop_m (fun k W => NS w n (some ad) len cap ans B2 B6 B7 (some ad7) k7 Ls Vs n done (cntd done n) W ∧ W.heap[BW]? = some (.cells (ar .i64 (zf ans i (x + sm ans k.toNat)) n) 3 (0, 0))) [67, 68, 69, 70, 71, 72, 73, 74, 75, 76, 77, 78, 79, 80, 81, 82, 83] (fun k => [(13, .int .i64 k)]) (i : Int) (by omega) (by simp only [putF2, List.foldl_cons, List.foldl_nil, u_1, u_2, u_3, Nat.reduceAdd]; rfl) ⟨hN1, by simpa [sm] using hW1⟩ ?_ ?_
        · clear hN1 hW1
          intro ki g W k0 k1 hM
          obtain ⟨hN, hW⟩ := hM
          obtain ⟨k, rfl⟩ := Int.eq_ofNat_of_zero_le k0
          rw [Int.toNat_natCast] at hW
          have hki : k < i := by omega
          have hkn : (k : Int) < (n : Int) := by omega
          have hkn' : k < n := by omega
          have hto : ((k : Int) + 1).toNat = k + 1 := by omega
          have hsm : x + sm ans k + tell ans k = x + sm ans (k + 1) := by
            show _ = x + (sm ans k + tell ans k)
            omega
          have b2 := sm_b ans k
          have b3 := tell_b ans k
          have hk12 : (k : Int) ≤ 12 := by omega
          simp only [putF2, List.foldl_cons, List.foldl_nil, u_1, u_2, u_3, Nat.reduceAdd]
          go_wp2
          (with_reducible refine gate_region 28 true ?_)
          refine region_p 12 12 (fun w1 => NS w n (some ad) len cap ans B2 B6 B7 (some ad7) k7 Ls Vs n done (cntd done n) w1 ∧ w1.heap[BW]? = some (.cells (ar .i64 (zf ans i (x + sm ans k)) n) 3 (0, 0))) (fun _ => True) (fun w1 => NS w n (some ad) len cap ans B2 B6 B7 (some ad7) k7 Ls Vs n done (cntd done n) w1 ∧ w1.heap[BW]? = some (.cells (ar .i64 (zf ans i (x + sm ans k + tell ans k)) n) 3 (0, 0))) _ (fun _ _ => False) (by kernel_rfl) (by kernel_rfl) rfl (fun _ _ _ h _ => h.elim) (by simp) (⟨NS.step hN (Go.Proofs.YthnkmadipbfmaaaW.PrintWords.below_drew (Below.refl _ _)), at_drew hW⟩) ?_
          refine p_val (v := ?_) (a' := ?_) rfl (fun _ => by rfl) (by rfl) ?_ ?_ ?_
          rotate_left 2
          · intro l c w' hc hB; go_simp; (try go_ints); (with_reducible rfl)
          · intro c; simp only [u_0, u_1, u_2, u_3, Nat.reduceAdd]; rfl
          refine p_val (v := ?_) (a' := ?_) rfl (fun _ => by rfl) (by rfl) ?_ ?_ ?_
          rotate_left 2
          · intro l c w' hc hB; go_simp; (try go_ints); (with_reducible rfl)
          · intro c; simp only [u_0, u_1, u_2, u_3, Nat.reduceAdd]; rfl
          refine p_val (v := ?_) (a' := ?_) rfl (fun _ => by rfl) (by rfl) ?_ ?_ ?_
          rotate_left 2
          · intro l c w' hc hB; go_simp; (try go_ints); (with_reducible rfl)
          · intro c; simp only [u_0, u_1, u_2, u_3, Nat.reduceAdd]; rfl
          refine p_val (v := ?_) (a' := ?_) rfl (fun _ => by rfl) (by rfl) ?_ ?_ ?_
          rotate_left 2
          · intro l c w' hc hB; go_simp; (try go_ints); (with_reducible rfl)
          · intro c; simp only [u_0, u_1, u_2, u_3, Nat.reduceAdd]; rfl
          refine p_val (v := ?_) (a' := ?_) rfl (fun _ => by rfl) (by rfl) ?_ ?_ ?_
          rotate_left 2
          · intro l c w' hc hB; go_simp; (try go_ints); (with_reducible rfl)
          · intro c; simp only [u_0, u_1, u_2, u_3, Nat.reduceAdd]; rfl
          refine p_val (v := ?_) (a' := ?_) rfl (fun _ => by rfl) (by rfl) ?_ ?_ ?_
          rotate_left 2
          · intro l c w' hc hB; have h9_ := hB.pre hc (by kernel_rfl) (by kernel_rfl); have ci_ : w'.cell? ⟨BW, i, none⟩ = some (.int .i64 (x + sm ans k)) := (by rw [at_cell h9_.2 i, ar_get _ _ hin, zf_at]); have ck_ : w'.cell? ⟨BW, k, none⟩ = some (.int .i64 (tell ans k)) := (by rw [at_cell h9_.2 k, ar_get _ _ hkn', zf_lt _ _ hki]); go_simp; (try go_ints); (with_reducible rfl)
          · intro c; simp only [u_0, u_1, u_2, u_3, Nat.reduceAdd]; rfl
          refine p_val (v := ?_) (a' := ?_) rfl (fun _ => by rfl) (by rfl) ?_ ?_ ?_
          rotate_left 2
          · intro l c w' hc hB; go_simp; (try go_ints); (with_reducible rfl)
          · intro c; simp only [u_0, u_1, u_2, u_3, Nat.reduceAdd]; rfl
          refine p_val (v := ?_) (a' := ?_) rfl (fun _ => by rfl) (by rfl) ?_ ?_ ?_
          rotate_left 2
          · intro l c w' hc hB; go_simp; (try go_ints); (with_reducible rfl)
          · intro c; simp only [u_0, u_1, u_2, u_3, Nat.reduceAdd]; rfl
          refine p_val (v := ?_) (a' := ?_) rfl (fun _ => by rfl) (by rfl) ?_ ?_ ?_
          rotate_left 2
          · intro l c w' hc hB; go_simp; (try go_ints); (with_reducible rfl)
          · intro c; simp only [u_0, u_1, u_2, u_3, Nat.reduceAdd]; rfl
          refine p_val (v := ?_) (a' := ?_) rfl (fun _ => by rfl) (by rfl) ?_ ?_ ?_
          rotate_left 2
          · intro l c w' hc hB; have h9_ := hB.pre hc (by kernel_rfl) (by kernel_rfl); have ci_ : w'.cell? ⟨BW, i, none⟩ = some (.int .i64 (x + sm ans k)) := (by rw [at_cell h9_.2 i, ar_get _ _ hin, zf_at]); have ck_ : w'.cell? ⟨BW, k, none⟩ = some (.int .i64 (tell ans k)) := (by rw [at_cell h9_.2 k, ar_get _ _ hkn', zf_lt _ _ hki]); go_simp; (try go_ints); (with_reducible rfl)
          · intro c; simp only [u_0, u_1, u_2, u_3, Nat.reduceAdd]; rfl
          refine p_val (v := ?_) (a' := ?_) rfl (fun _ => by rfl) (by rfl) ?_ ?_ ?_
          rotate_left 2
          · intro l c w' hc hB; go_simp; (try go_ints); (with_reducible rfl)
          · intro c; simp only [u_0, u_1, u_2, u_3, Nat.reduceAdd]; rfl
          refine p_val (v := ?_) (a' := ?_) rfl (fun _ => by rfl) (by rfl) ?_ ?_ ?_
          rotate_left 2
          · intro l c w' hc hB; go_simp; (try go_ints); (with_reducible rfl)
          · intro c; simp only [u_0, u_1, u_2, u_3, Nat.reduceAdd]; rfl
          refine p_store1 rfl (fun _ => by rfl) ?_ ?_
          · intro l c w' hc h1_; have ci_ : w'.cell? ⟨BW, i, none⟩ = some (.int .i64 (x + sm ans k)) := (by rw [at_cell h1_.2 i, ar_get _ _ hin, zf_at]); have zi_ := at_free h1_.2 i; refine ⟨w'.setCell ⟨BW, i, none⟩ (.int .i64 (x + sm ans k + tell ans k)), ?_, NS.far LTn hBW0 (Nat.le_refl _) h1_.1 (Ch.set (S := (· = BW)) _ _ _ rfl), ?_⟩; (focus (go_simp; (first | done | rfl))); (have h_ := at_set h1_.2 i (.int .i64 (x + sm ans k + tell ans k)); rw [ar_set _ _ hin, zf_set] at h_; exact h_)
          refine p_nil ?_
          intro c_ W_ HP_
          (try simp only [Exit.then])
          (try dsimp only)
          clear c_
          clear hN hW
          have hwk : wrap64 ((k : Int) + 1) = (k : Int) + 1 := w64 (by omega) (by omega)
          clear b2 b3 hk12
          rw [hsm] at HP_
          clear hsm
          go_wp2
          (try rw [hwk])
          refine round_end' ⟨HP_.1, by rw [hto]; exact HP_.2⟩ ?_
          rfl
        · clear hN1 hW1
          intro g W hM
          obtain ⟨hN, hW⟩ := hM
          rw [Int.toNat_natCast] at hW
          have hii : ¬ (i : Int) < (i : Int) := by omega
          have cW : W.cell? ⟨BW, i, none⟩ = some (.int .i64 (x + sm ans i)) := by rw [at_cell hW i, ar_get _ _ hin, zf_at]
          have zW : W.frozen? ⟨BW, i, none⟩ = false := at_free hW i
          simp only [putF2, List.foldl_cons, List.foldl_nil, u_1, u_2, u_3, Nat.reduceAdd]
          go_wp2
          have hN1 := NS.far LTn hBW0 (Nat.le_refl _) hN (Ch.set (S := (· = BW)) W ⟨BW, i, none⟩ (.int .i64 (tell ans i)) rfl)
          have hW1 := at_set hW i (.int .i64 (tell ans i))
          rw [ar_set _ _ hin, zf_set] at hW1
          clear hN hW cW zW htell
          generalize W.setCell ⟨BW, i, none⟩ (.int .i64 (tell ans i)) = W4 at *
          obtain ⟨Ci, hCi⟩ : ∃ c, Ls.getD i 0 = c := ⟨_, rfl⟩
          (with_reducible refine gate_region 30 true ?_)
          refine region_p 4 4 (fun w1 => NS w n (some ad) len cap ans B2 B6 B7 (some ad7) k7 Ls Vs n done (cntd done n) w1 ∧ w1.heap[BW]? = some (.cells (ar .i64 (zf ans i (tell ans i)) n) 3 (0, 0))) (fun w1 => (∃ d', NS w n (some ad) len cap ans B2 B6 B7 (some ad7) k7 Ls Vs n d' (cntd d' n) w1 ∧ ∀ j : Nat, (j : Int) < (i : Int) + 1 → d' j = true) ∧ w1.heap[BW]? = some (.cells (ar .i64 (zf ans i (tell ans i)) n) 3 (0, 0))) (fun w1 => (∃ d', NS w n (some ad) len cap ans B2 B6 B7 (some ad7) k7 Ls Vs n d' (cntd d' n) w1 ∧ ∀ j : Nat, (j : Int) < (i : Int) + 1 → d' j = true) ∧ w1.heap[BW]? = some (.cells (ar .i64 (zf ans i (tell ans i)) n) 3 (0, 0))) _ (fun _ _ => False) (by kernel_rfl) (by kernel_rfl) rfl (fun _ _ _ h _ => h.elim) (by simp) (⟨NS.step hN1 (Go.Proofs.YthnkmadipbfmaaaW.PrintWords.below_drew (Below.refl _ _)), at_drew hW1⟩) ?_
          refine p_val (v := ?_) (a' := ?_) rfl (fun _ => by rfl) (by rfl) ?_ ?_ ?_
          rotate_left 2
          · intro l c w' hc hB; have h9_ := hB.pre hc (by kernel_rfl) (by kernel_rfl); have c7_ : w'.cell? ⟨B7, 0, none⟩ = some (.slice (some ad7) n k7) := at_cell h9_.1.h7 0; go_simp; (try go_ints); (with_reducible rfl)
          · intro c; simp only [u_0, u_1, u_2, u_3, Nat.reduceAdd]; rfl
          refine p_val (v := ?_) (a' := ?_) rfl (fun _ => by rfl) (by rfl) ?_ ?_ ?_
          rotate_left 2
          · intro l c w' hc hB; go_simp; (try go_ints); (with_reducible rfl)
          · intro c; simp only [u_0, u_1, u_2, u_3, Nat.reduceAdd]; rfl
          refine p_val (v := ?_) (a' := ?_) rfl (fun _ => by rfl) (by rfl) ?_ ?_ ?_
          rotate_left 2
          · intro l c w' hc hB; go_simp; (try go_ints); (with_reducible rfl)
          · intro c; simp only [u_0, u_1, u_2, u_3, Nat.reduceAdd]; rfl
          refine p_val (v := ?_) (a' := ?_) rfl (fun _ => by rfl) (by rfl) ?_ ?_ ?_
          rotate_left 2
          · intro l c w' hc hB; have h9_ := hB.pre hc (by kernel_rfl) (by kernel_rfl); have cS_ : w'.cell? (ad7.add i) = some (ptr Ci) := (by rw [← hCi]; exact NS.cellAt h9_.1 hlenj hin); go_simp; (try go_ints); (with_reducible rfl)
          · intro c; simp only [u_0, u_1, u_2, u_3, Nat.reduceAdd]; rfl
          refine p_call1 (v := (.int .i64 (tell ans i))) (a' := ?_) rfl (fun _ => by rfl)  (14) (#[ptr Ci]) ?_ ?_ ?_ ?_
          rotate_left 1
          · intro l c w' hc h0_; go_simp; (first | done | rfl)
          · intro w' h0_; have q_ := ask_all Y hin h0_.1; rw [hCi] at q_; refine q_.mono ?_; rintro e w2 ⟨rfl, hc_, d', hn_, hm_, hd_⟩; exact .inl ⟨rfl, ⟨d', hn_, fun j hj => by by_cases e : j = i; exact e ▸ hd_; exact hm_ j (hdone j (by omega))⟩, hc_.at h0_.2 (SB.far LTn hin)⟩
          · intro c; simp only [u_0, u_1, u_2, u_3, Nat.reduceAdd]; rfl
          refine p_val (v := ?_) (a' := ?_) rfl (fun _ => by rfl) (by rfl) ?_ ?_ ?_
          rotate_left 2
          · intro l c w' hc hB; go_simp; (try go_ints); (with_reducible rfl)
          · intro c; simp only [u_0, u_1, u_2, u_3, Nat.reduceAdd]; rfl
          refine p_val (v := ?_) (a' := ?_) rfl (fun _ => by rfl) (by rfl) ?_ ?_ ?_
          rotate_left 2
          · intro l c w' hc hB; go_simp; (try go_ints); (with_reducible rfl)
          · intro c; simp only [u_0, u_1, u_2, u_3, Nat.reduceAdd]; rfl
          refine p_val (v := ?_) (a' := ?_) rfl (fun _ => by rfl) (by rfl) ?_ ?_ ?_
          rotate_left 2
          · intro l c w' hc hB; go_simp; (try go_ints); (with_reducible rfl)
          · intro c; simp only [u_0, u_1, u_2, u_3, Nat.reduceAdd]; rfl
          refine p_val (v := ?_) (a' := ?_) rfl (fun _ => by rfl) (by rfl) ?_ ?_ ?_
          rotate_left 2
          · intro l c w' hc hB; have h_ := hB.any (F := fun w1 => w1.heap[BW]? = some (.cells (ar .i64 (zf ans i (tell ans i)) n) 3 (0, 0))) (fun h => h.2) (fun h => h.2) (fun h => h.2); have cb_ : w'.cell? ⟨BW, i, none⟩ = some (.int .i64 (tell ans i)) := (by rw [at_cell h_ i, ar_get _ _ hin, zf_at]); go_simp; (try go_ints); (with_reducible rfl)
          · intro c; simp only [u_0, u_1, u_2, u_3, Nat.reduceAdd]; rfl
          refine p_val (v := .bool false) (a' := ?_) rfl (fun _ => by rfl) (by rfl) ?_ ?_ ?_
          rotate_left 1
          · intro l c w' hc hB; go_simp; (first | done | simp)
          · intro c; simp only [u_0, u_1, u_2, u_3, Nat.reduceAdd]; rfl
          refine p_nil ?_
          intro c_ W_ HP_
          (try simp only [Exit.then])
          (try dsimp only)
          clear c_
          clear hN1 hW1
          have hwi : wrap64 ((i : Int) + 1) = (i : Int) + 1 := w64 (by omega) (by omega)
          go_wp2
          (try rw [hwi])
          obtain ⟨⟨d', hd1, hd2⟩, hd3⟩ := HP_
          refine round_end' ⟨d', hd1, hd2, by rw [← zf_end]; exact hd3⟩ ?_
          rfl
      · clear hN1 hW1
        intro g W hM
        obtain ⟨done, hN, hdone, hW⟩ := hM
        have hnn : ¬ (n : Int) < (n : Int) := by omega
        have cL : W.cell? ⟨BW, n - 1, none⟩ = some (.int .i64 tl) := by rw [at_cell hW (n - 1), ar_get _ _ hmn', if_pos (by omega), htl]
        have c6 : W.cell? ⟨B6, 0, none⟩ = some (.int .i64 (n : Int)) := by have h_ := hN.h6; rw [cntd_all (fun j hj => hdone j (by omega))] at h_; exact at_cell h_ 0
        simp only [putF2, List.foldl_cons, List.foldl_nil, u_1, u_2, u_3, Nat.reduceAdd]
        go_wp2
        go_ret
        exact ⟨rfl, hN.bel⟩
theorem lift {f : FuncId} {args : Array Value} {w : World} {v : Value} (h : Calls Try.prog f args w fun e w' => e = .returned v ∧ Drawn0 w w') : Ret f args w v := h.mono fun _ _ ⟨a, b⟩ => ⟨a, b.below⟩
theorem walk (a : Option Addr) (len cap : Nat) (z : List Int) (times : Int) (w : World) (w0 : Arr.IsRow .i64 w a len cap z) (y0 : len * 8 ≤ 140737488351232) (_ : (Lit.int .i64 times).wf = true) : Ret 4 #[.slice a len cap, .int .i64 times] w (.bool true) := by
  refine walk_ a len cap (fun i => z.getD i 0) times w (by omega) (min len 12) (by unfold mn; omega) (by omega) (by omega) (fun i hi => ?_) known_ (fun w => by first | exact versalhand_Pick.calls _ _ _ w (pick_f (by decide) (by decide)) | exact lift (versalhand_Pick.calls _ _ _ w (pick_f (by decide) (by decide))))
  rcases w0 with ⟨_, h, _, _⟩ | ⟨ad, rfl, h1, _, h3, h4, _⟩
  · omega
  · exact ⟨ad, rfl, h4 i (by omega)⟩

end Go.Proofs.Ythnkmadipbfmaaa.WalkLazyNests
