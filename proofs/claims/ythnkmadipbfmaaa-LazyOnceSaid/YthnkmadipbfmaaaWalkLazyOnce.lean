/- LazyOnce returns true at every input. -/
import Derived.Test.YthnkmadipbfmaaaPLazyOncex1
import Derived.Test.YthnkmadipbfmaaaLzO
import Derived.Test.YthnkmadipbfmaaaLzI
import Derived.Test.YthnkmadipbfmaaaArr
namespace Go.Proofs.Ythnkmadipbfmaaa.WalkLazyOnce
open Go.RowKit Go.Proofs.YthnkmadipbfmaaaW.PrintWords Go.Proofs.YthnkmadipbfmaaaW.PrintLast Go.Proofs.YthnkmadipbfmaaaW.PrintMore Go.Proofs.Ythnkmadipbfmaaa.M Go.Proofs.Ythnkmadipbfmaaa.Reg Go.Proofs.Ythnkmadipbfmaaa.Rgw Go.Proofs.Ythnkmadipbfmaaa.Rwd Go.Proofs.Ythnkmadipbfmaaa.Chp Go.Proofs.Ythnkmadipbfmaaa.PLazyOnce Go.Proofs.Ythnkmadipbfmaaa.LzA Go.Proofs.Ythnkmadipbfmaaa.LzB Go.Proofs.Ythnkmadipbfmaaa.LzC Go.Proofs.Ythnkmadipbfmaaa.LzD Go.Proofs.Ythnkmadipbfmaaa.LzE Go.Proofs.Ythnkmadipbfmaaa.LzF Go.Proofs.Ythnkmadipbfmaaa.LzG Go.Proofs.Ythnkmadipbfmaaa.LzJ Go.Proofs.Ythnkmadipbfmaaa.LzK Go.Proofs.Ythnkmadipbfmaaa.LzN Go.Proofs.Ythnkmadipbfmaaa.LzO
attribute [local go_sem] max2_mx min2_mn max_two min_two max_three min_three max_four min_four
set_option linter.unusedVariables false
set_option linter.unusedSimpArgs false

theorem pick_f {n m : Int} (h1 : 0 < m) (h2 : m ≤ 9223372036854775807) : versalhand_Pick.f n m = some (n % m) := by
  have ha := Int.lt_tmod_of_pos n h1
  have hb := Int.tmod_lt_of_pos n h1
  rw [← tmod_pick h1]
  unfold versalhand_Pick.f
  rw [if_neg (by omega)]
  by_cases h : n.tmod m < 0
  · rw [if_pos h, if_pos h, w64 (by omega) (by omega)]
  · rw [if_neg h, if_neg h]

abbrev Ret (f : FuncId) (args : Array Value) (w : World) (v : Value) : Prop := Calls Try.prog f args w fun e w' => e = .returned v ∧ Below w.heap.size w w'
def Src (ans : Nat → Int) (A : Option Addr) (len : Nat) (w : World) : Prop := ∀ i, i < len → ∃ ad, A = some ad ∧ w.cell? (ad.add i) = some (.int .i64 (ans i))
def Srb (pan : Nat → Bool) (A : Option Addr) (len : Nat) (w : World) : Prop := ∀ i, i < len → ∃ ad, A = some ad ∧ w.cell? (ad.add i) = some (.bool (pan i))
def PostM (a0 : Act) (S : List Tmp) (sp : Int → List (Tmp × Value)) (M : Int → World → Prop) (k : Int) (a' : Act) (W' : World) : Prop := ∃ g', putF2 a0 S g' (sp (k + 1)) = a' ∧ M (k + 1) W'
theorem loop_p {P : Program} {c : Code} {Q : Exit → Act → World → Prop} {a0 : Act} {W : World} (M : Int → World → Prop) (S : List Tmp) (sp : Int → List (Tmp × Value)) (n : Int) (hn : 0 ≤ n) (h0 : putF2 a0 S (fun s => a0.tmps.getD s undef) (sp 0) = a0) (hM : M 0 W)
    (step : ∀ (k : Int) (g : Tmp → Value) (W : World), 0 ≤ k → k < n → M k W → c.wp P (Exit.then (PostM a0 S sp M k) Q) (putF2 a0 S g (sp k)) W)
    (last : ∀ (g : Tmp → Value) (W : World), M n W → c.wp P (Exit.then (fun _ _ => False) Q) (putF2 a0 S g (sp n)) W) : (Code.loop c).wp P Q a0 W := loop_m M S sp n hn h0 hM step last
theorem post_end {a0 a' : Act} {S : List Tmp} {sp : Int → List (Tmp × Value)} {M : Int → World → Prop} {k : Int} {W' : World} (p : M (k + 1) W') (h : putF2 a0 S (fun s => a'.tmps.getD s undef) (sp (k + 1)) = a') : PostM a0 S sp M k a' W' := ⟨_, h, p⟩
/-- a block and a value -/
structure BV where
  b : Nat
  v : Value
/-- the making of the cells, behind j of them -/
structure LI (w0 : World) (n : Nat) (A : Option Addr) (len cap : Nat) (Ap : Option Addr) (lp cp : Nat) (B3 B5 B9 BC B10 : Nat) (Ls : List Nat) (Vs : Nat → Nat) (j : Nat) (w : World) : Prop where
  h3 : w.heap[B3]? = some (.cells #[.slice A len cap] 22 (0, 0))
  h5 : w.heap[B5]? = some (.cells #[.slice Ap lp cp] 23 (0, 0))
  h9 : w.heap[B9]? = some (.cells #[.slice (some ⟨BC, 0, none⟩) n n] 22 (0, 0))
  hB : w.heap[BC]? = some (.cells (ar .i64 (fun _ => 0) n) 3 (0, 0))
  hj : w.heap[B10]? = some (.cells #[.int .i64 j] 3 (0, 0))
  hV : ∀ i, i < j → w.heap[Vs i]? = some (.cells #[.int .i64 i] 3 (0, 0))
  hC : ∀ i, i < j → w.heap[Ls.getD i 0]? = some (nc (fo B3 B5 B9 Vs i))
  ge : ∀ i, i < j → w0.heap.size ≤ Ls.getD i 0
  ltj : B10 ≠ BC
  ltV : ∀ i, i < j → Vs i ≠ BC
  geB : w0.heap.size ≤ BC
theorem LI.stay {w0 : World} {n : Nat} {A : Option Addr} {len cap : Nat} {Ap : Option Addr} {lp cp : Nat} {B3 B5 B9 BC B10 : Nat} {Ls : List Nat} {Vs : Nat → Nat} {j : Nat} {w w' : World} {S : Nat → Prop} (h : LI w0 n A len cap Ap lp cp B3 B5 B9 BC B10 Ls Vs j w) (hc : Ch S w w') (no : ∀ k cs t, w.heap[k]? = some (.cells cs t (0, 0)) → (t = 22 ∨ t = 23 ∨ t = 3 ∨ t = 60) → ¬ S k) : LI w0 n A len cap Ap lp cp B3 B5 B9 BC B10 Ls Vs j w' :=
  ⟨hc.at h.h3 (no _ _ _ h.h3 (by decide)), hc.at h.h5 (no _ _ _ h.h5 (by decide)), hc.at h.h9 (no _ _ _ h.h9 (by decide)), hc.at h.hB (no _ _ _ h.hB (by decide)), hc.at h.hj (no _ _ _ h.hj (by decide)), fun i hi => hc.at (h.hV i hi) (no _ _ _ (h.hV i hi) (by decide)), fun i hi => hc.at (h.hC i hi) (no _ _ _ (h.hC i hi) (by decide)), h.ge, h.ltj, h.ltV, h.geB⟩
theorem ty {w : World} {k : Nat} {cs cs' : Array Value} {t t' : TypeId} (h : w.heap[k]? = some (.cells cs t (0, 0))) (h' : w.heap[k]? = some (.cells cs' t' (0, 0))) : t = t' := by
  rw [h] at h'; injection h' with h'; injection h' with _ h'
theorem LI.st26 (w0 : World) (n : Nat) (A : Option Addr) (len cap : Nat) (Ap : Option Addr) (lp cp : Nat) (B3 B5 B9 BC B10 : Nat) (Ls : List Nat) (Vs : Nat → Nat) (j : Nat) : St26 (LI w0 n A len cap Ap lp cp B3 B5 B9 BC B10 Ls Vs j) := fun w w' hc h => h.stay hc (fun k cs t hk ht ⟨cs', e⟩ => by have := ty hk e; subst this; revert ht; decide)
set_option maxHeartbeats 64000000 in
set_option maxRecDepth 100000 in
theorem walk_ (A : Option Addr) (len cap : Nat) (ans : Nat → Int) (Ao : Option Addr) (lo co_ : Nat) (ord : Nat → Int) (Ap : Option Addr) (lp cp : Nat) (pan : Nat → Bool) (w : World) (hlen : len ≤ 9223372036854775807) (hlo : lo ≤ 9223372036854775807) (hlp : lp ≤ 9223372036854775807) (n : Nat) (hn : mn (len : Int) 8 = (n : Int)) (hnl : n ≤ len) (hn8 : n ≤ 8)
    (hs : Src ans A len w) (ho : Src ord Ao lo w) (hp : Srb pan Ap lp w) (K7 : ∀ w, Ret 7 #[] w (.bool true)) (KP : 0 < n → ∀ (q : Int) w, Ret 10 #[.int .i64 q, .int .i64 (n : Int)] w (.int .i64 (q % n))) :
    Ret 3 #[.slice A len cap, .slice Ao lo co_, .slice Ap lp cp] w (.bool true) := by
  have HS := St.nil w
  go_enter Try.func3, Try.ntmps3
  repeat' (first | ((with_reducible refine gate_region 0 false ?_); refine region_sq (w0 := w) 3 [.mk 0 ?_, .mk 1 ?_] (by kernel_rfl) (by rfl) (by rfl) (by exact HS) ?_; rotate_left 2; refine s_box (a' := ?_) [] [_] rfl (by rfl) (by rfl) rfl (fun _ => by rfl) ?_ ?_ ?_; rotate_left 1; (focus (intro c w'; go_simp; rfl)); (focus (intro c; simp only [u_0, u_1, u_2, u_3, Nat.reduceAdd]; rfl)); refine s_box (a' := ?_) [_] [] rfl (by rfl) (by rfl) rfl (fun _ => by rfl) ?_ ?_ ?_; rotate_left 1; (focus (intro c w'; go_simp; rfl)); (focus (intro c; simp only [u_0, u_1, u_2, u_3, Nat.reduceAdd]; rfl)); refine s_val (v := ?_) (a' := ?_) rfl (fun _ => by rfl) (by rfl) ?_ ?_ ?_; rotate_left 2; (focus (intro l c w' hc hB; go_simp; (try go_ints); (with_reducible rfl))); (focus (intro c; simp only [u_0, u_1, u_2, u_3, Nat.reduceAdd]; rfl)); refine s_nil ?_; intro c W_ HS_; (try simp only [Exit.then]); (try dsimp only); simp only [List.map_cons, List.map_nil, Ent.end_, u_1, u_2, u_3] at HS_; clear HS; (try clear W); generalize c 0 = B3 at HS_ ⊢; generalize c 1 = B5 at HS_ ⊢; clear c; revert HS_; revert W_; intro W HS) | ((with_reducible refine gate_region 1 false ?_); refine region_sq (w0 := w) 2 [.fix B3 _, .fix B5 _] (by kernel_rfl) (by rfl) (by rfl) (by exact HS) ?_; refine s_call rfl (fun _ => by rfl) (by rfl) Try.func7 (by kernel_rfl) rfl ?_ rfl ?_ ?_; rotate_left 1; (focus (intro c; go_simp; (first | done | rfl))); refine ⟨_, fun w => K7 w, ?_, ?_, ?_⟩; rotate_left 1; (focus (intro c; simp only [u_0, u_1, u_2, u_3, Nat.reduceAdd]; rfl)); refine s_val (v := ?_) (a' := ?_) rfl (fun _ => by rfl) (by rfl) ?_ ?_ ?_; rotate_left 2; (focus (intro l c w' hc hB; go_simp; (try go_ints); (with_reducible rfl))); (focus (intro c; simp only [u_0, u_1, u_2, u_3, Nat.reduceAdd]; rfl)); refine s_nil ?_; intro c W_ HS_; (try simp only [Exit.then]); (try dsimp only); simp only [List.map_cons, List.map_nil, Ent.end_, u_1, u_2, u_3] at HS_; clear HS; (try clear W); clear c; revert HS_; revert W_; intro W HS) | ((with_reducible refine gate_region 3 false ?_); refine region_sq (w0 := w) 4 [.fix B3 _, .fix B5 _] (by kernel_rfl) (by rfl) (by rfl) (by exact HS) ?_; refine s_val (v := ?_) (a' := ?_) rfl (fun _ => by rfl) (by rfl) ?_ ?_ ?_; rotate_left 2; (focus (intro l c w' hc hB; obtain ⟨c0_, f0_, z0_⟩ := hB.fix_cells (.head _); go_simp; (try go_ints); (with_reducible rfl))); (focus (intro c; simp only [u_0, u_1, u_2, u_3, Nat.reduceAdd]; rfl)); refine s_val (v := ?_) (a' := ?_) rfl (fun _ => by rfl) (by rfl) ?_ ?_ ?_; rotate_left 2; (focus (intro l c w' hc hB; go_simp; (try go_ints); (with_reducible rfl))); (focus (intro c; simp only [u_0, u_1, u_2, u_3, Nat.reduceAdd]; rfl)); refine s_val (v := .int .i64 (n : Int)) (a' := ?_) rfl (fun _ => by rfl) (by rfl) ?_ ?_ ?_; rotate_left 1; (focus (intro l c w' hc hB; go_simp; (try go_ints); (first | done | rfl | kernel_rfl))); (focus (intro c; simp only [u_0, u_1, u_2, u_3, Nat.reduceAdd]; rfl)); refine s_val (v := ?_) (a' := ?_) rfl (fun _ => by rfl) (by rfl) ?_ ?_ ?_; rotate_left 2; (focus (intro l c w' hc hB; go_simp; (try go_ints); (with_reducible rfl))); (focus (intro c; simp only [u_0, u_1, u_2, u_3, Nat.reduceAdd]; rfl)); refine s_nil ?_; intro c W_ HS_; (try simp only [Exit.then]); (try dsimp only); simp only [List.map_cons, List.map_nil, Ent.end_, u_1, u_2, u_3] at HS_; clear HS; (try clear W); clear c; revert HS_; revert W_; intro W HS) | ((with_reducible refine gate_region 4 false ?_); refine region_sq (w0 := w) 1 [.fix B3 _, .fix B5 _] (by kernel_rfl) (by rfl) (by rfl) (by exact HS) ?_; refine s_val (v := ?_) (a' := ?_) rfl (fun _ => by rfl) (by rfl) ?_ ?_ ?_; rotate_left 2; (focus (intro l c w' hc hB; go_simp; (try go_ints); (with_reducible rfl))); (focus (intro c; simp only [u_0, u_1, u_2, u_3, Nat.reduceAdd]; rfl)); refine s_nil ?_; intro c W_ HS_; (try simp only [Exit.then]); (try dsimp only); simp only [List.map_cons, List.map_nil, Ent.end_, u_1, u_2, u_3] at HS_; clear HS; (try clear W); clear c; revert HS_; revert W_; intro W HS) | (with_reducible refine hold_region 5 false ?_) | (with_reducible refine hold_any ?_) | go_values | go_skip | go_guarded | go_step | go_upon | (simp only [Int.not_lt, Int.not_le] at *; go_simp) | (go_values <;> (try go_simp)) | (go_ite <;> go_prune <;> (try go_simp)))
  refine ⟨?_⟩
  have hmk := fun W => make_ints n (by omega) W
  go_wp2
  clear hmk
  have h3 := (HS.holds _ (.head _)).2
  have h5 := (HS.holds _ (.tail _ (.head _))).2
  have hI : LI w n A len cap Ap lp cp B3 B5 (W.heap.size + 1) W.heap.size (W.heap.size + 1 + 1) [] (fun _ => 0) 0 (((W.alloc (.cells (ar .i64 (fun _ => 0) n) 3 (0, 0))).alloc (.cells #[.slice (some ⟨W.heap.size, 0, none⟩) n n] 22 (0, 0))).alloc (.cells #[.int .i64 0] 3 (0, 0))) := by
    have a1 := Ch.alloc (fun _ => False) W (.cells (ar .i64 (fun _ => 0) n) 3 (0, 0))
    have a2 := Ch.alloc (fun _ => False) (W.alloc (.cells (ar .i64 (fun _ => 0) n) 3 (0, 0))) (.cells #[.slice (some ⟨W.heap.size, 0, none⟩) n n] 22 (0, 0))
    have a3 := Ch.alloc (fun _ => False) ((W.alloc (.cells (ar .i64 (fun _ => 0) n) 3 (0, 0))).alloc (.cells #[.slice (some ⟨W.heap.size, 0, none⟩) n n] 22 (0, 0))) (.cells #[.int .i64 0] 3 (0, 0))
    refine ⟨a3.at (a2.at (a1.at h3 id) id) id, a3.at (a2.at (a1.at h5 id) id) id, a3.at ?_ id, a3.at (a2.at (heap_alloc_new _ _) id) id, ?_, fun i hi => absurd hi (Nat.not_lt_zero _), fun i hi => absurd hi (Nat.not_lt_zero _), fun i hi => absurd hi (Nat.not_lt_zero _), by omega, fun i hi => absurd hi (Nat.not_lt_zero _), HS.below.size⟩
    · have := heap_alloc_new (W.alloc (.cells (ar .i64 (fun _ => 0) n) 3 (0, 0))) (.cells #[.slice (some ⟨W.heap.size, 0, none⟩) n n] 22 (0, 0)); simpa using this
    · have := heap_alloc_new ((W.alloc (.cells (ar .i64 (fun _ => 0) n) 3 (0, 0))).alloc (.cells #[.slice (some ⟨W.heap.size, 0, none⟩) n n] 22 (0, 0))) (.cells #[.int .i64 0] 3 (0, 0)); simpa using this
  have hbel0 : Below w.heap.size w (((W.alloc (.cells (ar .i64 (fun _ => 0) n) 3 (0, 0))).alloc (.cells #[.slice (some ⟨W.heap.size, 0, none⟩) n n] 22 (0, 0))).alloc (.cells #[.int .i64 0] 3 (0, 0))) := ((HS.below.alloc HS.below.size _).alloc (by have := HS.below.size; simp; omega) _).alloc (by have := HS.below.size; simp; omega) _
  clear h3 h5 HS
  generalize (((W.alloc (.cells (ar .i64 (fun _ => 0) n) 3 (0, 0))).alloc (.cells #[.slice (some ⟨W.heap.size, 0, none⟩) n n] 22 (0, 0))).alloc (.cells #[.int .i64 0] 3 (0, 0))) = Wb at *
  generalize W.heap.size + 1 + 1 = B10 at *
  generalize W.heap.size + 1 = B9 at *
  generalize W.heap.size = BC at *
  refine loop_b (Y := BV) (fun ji y W => ∃ (j : Nat) (Ls : List Nat) (Vs : Nat → Nat), ji = (j : Int) ∧ Ls.length = j ∧ LI w n A len cap Ap lp cp B3 B5 B9 BC y.b Ls Vs j W ∧ SL w.heap.size W y.v Ls ∧ Below w.heap.size w W) [26, 27, 28, 29, 30, 31, 32, 33, 34, 35, 36] (fun _ y => [(10, ptr y.b), (8, y.v)]) (n : Int) (by omega) ⟨B10, .slice none 0 0⟩ (by simp only [putF2, List.foldl_cons, List.foldl_nil, u_1, u_2, u_3, Nat.reduceAdd]; rfl) ⟨0, [], fun _ => 0, rfl, rfl, hI, SL.nil _ _, hbel0⟩ ?_ ?_
  · clear hI hbel0 KP K7 hs ho hp hn hlen hlo hlp
    intro ji g y W j0 j1 hM
    obtain ⟨B10, v⟩ := y
    obtain ⟨j, Ls, Vs, rfl, hlenj, hL, hsl, hbel⟩ := hM
    dsimp only at hL hsl
    have hjn : (j : Int) < (n : Int) := j1
    have c8 : W.cell? ⟨B10, 0, none⟩ = some (.int .i64 j) := at_cell hL.hj 0
    have hbase := hbel.size
    have st26 := LI.st26 w n A len cap Ap lp cp B3 B5 B9 BC B10 Ls Vs j
    have hfv : (fo B3 B5 B9 (fun i => if i = j then B10 else Vs i) j) = .func (.func 9) #[] #[ptr B9, ptr B10, ptr B5, ptr B3] := by simp [fo]
    simp only [putF2, List.foldl_cons, List.foldl_nil, u_1, u_2, u_3, Nat.reduceAdd]
    repeat' (first | (with_reducible refine hold_region 9 false ?_) | go_values | go_skip | go_guarded | go_step | go_upon | (simp only [Int.not_lt, Int.not_le] at *; go_simp) | (go_values <;> (try go_simp)) | (go_ite <;> go_prune <;> (try go_simp)))
    refine ⟨?_⟩
    (with_reducible refine gate_region 9 false ?_)
    refine region_a4t (G0 w.heap.size W.heap.size w (LI w n A len cap Ap lp cp B3 B5 B9 BC B10 Ls Vs j) v Ls) (G1 w.heap.size W.heap.size w (LI w n A len cap Ap lp cp B3 B5 B9 BC B10 Ls Vs j) v Ls (fo B3 B5 B9 (fun i => if i = j then B10 else Vs i) j)) (G2 w.heap.size W.heap.size w (LI w n A len cap Ap lp cp B3 B5 B9 BC B10 Ls Vs j) v Ls (fo B3 B5 B9 (fun i => if i = j then B10 else Vs i) j)) (G3 w.heap.size W.heap.size w (LI w n A len cap Ap lp cp B3 B5 B9 BC B10 Ls Vs j) Ls (fo B3 B5 B9 (fun i => if i = j then B10 else Vs i) j)) (fun c4 u w1 => u = c4 ∧ G3 w.heap.size W.heap.size w (LI w n A len cap Ap lp cp B3 B5 B9 BC B10 Ls Vs j) Ls (fo B3 B5 B9 (fun i => if i = j then B10 else Vs i) j) c4 w1) (by kernel_rfl) rfl ⟨hL, hsl, hbel, Nat.le_refl _⟩ ?_
    refine a4_val (v := v) (a' := ?_) rfl (fun _ => by rfl) (by decide) ?_ ?_ ?_
    rotate_left 1
    · intro l c w' hc hB; go_simp; (first | done | rfl)
    · (intro c; simp only [u_0, u_1, u_2, u_3, Nat.reduceAdd]; rfl)
    refine a4_val (v := .func (.func 9) #[] #[ptr B9, ptr B10, ptr B5, ptr B3]) (a' := ?_) rfl (fun _ => by rfl) (by decide) ?_ ?_ ?_
    rotate_left 1
    · intro l c w' hc hB; go_simp; (first | done | rfl)
    · (intro c; simp only [u_0, u_1, u_2, u_3, Nat.reduceAdd]; rfl)
    refine a4_new (a' := ?_) rfl (fun _ => by rfl) (by kernel_rfl) 8 #[.func (.func 9) #[] #[ptr B9, ptr B10, ptr B5, ptr B3]] ?_ ?_ ?_ ?_
    rotate_left 1
    · intro c w'; go_simp; (first | done | rfl)
    · intro w' h; rw [hfv]; exact g_new (F' := 9) (caps := #[ptr B9, ptr B10, ptr B5, ptr B3]) st26 hbase w' h
    · (intro c; simp only [u_0, u_1, u_2, u_3, Nat.reduceAdd]; rfl)
    refine a4_row (a' := ?_) rfl (fun _ => by rfl) (by kernel_rfl) ?_ ?_ ?_
    rotate_left 1
    · intro c w' ⟨C, hc2, hn_, hC, h⟩; refine ⟨_, _, ?_, g_row st26 hbase hn_ hC h⟩; go_simp; (first | done | (rw [hc2]; first | done | rfl | kernel_rfl))
    · (intro c; simp only [u_0, u_1, u_2, u_3, Nat.reduceAdd]; rfl)
    refine a4_app (a' := ?_) rfl (fun _ => by rfl) (by kernel_rfl) ?_ ?_ ?_
    rotate_left 1
    · intro c w' h Q_ K_ hK_; exact g_app st26 hbase (by omega) (.tmp 31) (.tmp 34) rfl (by rfl) (by rfl) (by rfl) h Q_ K_ hK_
    · (intro c; simp only [u_0, u_1, u_2, u_3, Nat.reduceAdd]; rfl)
    refine a4_end (v := fun u => u) rfl (fun _ => by rfl) (by kernel_rfl) ?_ ?_
    · intro c w' h; exact ⟨c 4, w', .inl (by go_simp; (first | done | rfl)), rfl, h⟩
    intro c_ W1 ⟨hu_, C, hn_, hC, hS1, hL1, hb1⟩
    simp only [Exit.inBlock, Exit.then]
    (try dsimp only)
    simp only [Act.put, u_1, u_2, u_3, Nat.reduceAdd]
    generalize c_ 2 = g2 at *
    generalize c_ 3 = g3 at *
    generalize c_ 5 = g5 at *
    generalize c_ 4 = g4 at *
    subst hu_
    clear c_ c8 hfv st26 hsl hL
    have c8 : W1.cell? ⟨B10, 0, none⟩ = some (.int .i64 j) := at_cell hL1.hj 0
    have hwj : wrap64 ((j : Int) + 1) = (j : Int) + 1 := w64 (by omega) (by omega)
    go_wp2
    have ka := Ch.alloc (fun _ => False) W1 (.cells #[.int .i64 ((j : Int) + 1)] 3 (0, 0))
    have ej : ((j + 1 : Nat) : Int) = (j : Int) + 1 := by omega
    have gA : ∀ i, i < j → (Ls ++ [C]).getD i 0 = Ls.getD i 0 := fun i hi => by rw [List.getD_eq_getElem?_getD, List.getElem?_append_left (by omega), ← List.getD_eq_getElem?_getD]
    have gB : (Ls ++ [C]).getD j 0 = C := by rw [List.getD_eq_getElem?_getD, List.getElem?_append_right (by omega)]; simp [hlenj]
    refine round_b (⟨W1.heap.size, g5⟩ : BV) ⟨j + 1, Ls ++ [C], fun i => if i = j then B10 else Vs i, by omega, by simp [hlenj], ⟨ka.at hL1.h3 id, ka.at hL1.h5 id, ka.at hL1.h9 id, ka.at hL1.hB id, ?_, fun i hi => ?_, fun i hi => ?_, fun i hi => ?_, fun e => by have := at_lt hL1.hB; dsimp only at e; omega, fun i hi => ?_, hL1.geB⟩, hS1.below (Go.Proofs.YthnkmadipbfmaaaW.PrintWords.below_alloc (Below.refl _ _) _), Below.alloc hb1 hb1.size _⟩ ?_
    · rw [ej]; exact heap_alloc_new _ _
    · by_cases e : i = j
      · subst e; rw [if_pos rfl]; exact ka.at hL1.hj id
      · rw [if_neg e]; exact ka.at (hL1.hV i (by omega)) id
    · by_cases e : i = j
      · subst e; rw [gB]; exact ka.at hC id
      · rw [gA i (by omega)]
        have := ka.at (hL1.hC i (by omega)) id
        simpa [fo, e] using this
    · by_cases e : i = j
      · subst e; rw [gB]; omega
      · rw [gA i (by omega)]; exact hL1.ge i (by omega)
    · by_cases e : i = j
      · subst e; rw [if_pos rfl]; exact hL1.ltj
      · rw [if_neg e]; exact hL1.ltV i (by omega)
    · rfl
  · have KP_ := Aside0.mk KP
    have ho_ := Aside0.mk ho
    clear hI hbel0 KP K7 ho hn
    intro g y W hM
    obtain ⟨B10, v⟩ := y
    obtain ⟨j, Ls, Vs, hj, hlenj, hL, hsl, hbel⟩ := hM
    dsimp only at hL hsl
    obtain rfl : n = j := by omega
    clear hj
    have hjn : ¬ (n : Int) < (n : Int) := by omega
    have c8 : W.cell? ⟨B10, 0, none⟩ = some (.int .i64 n) := at_cell hL.hj 0
    obtain ⟨A7, k7, rfl⟩ := hsl.slice
    rw [hlenj] at hsl
    have hN : OS w n A len cap ans Ap lp cp pan B3 B5 B9 BC A7 k7 Ls Vs (fun _ => 0) (fun _ => false) W :=
      ⟨hbel, hL.h3, hL.h5, hL.h9, hL.hB, hsl, hL.hV, fun i hi => by have := hL.hC i hi; simpa [co, nc, dn] using this⟩
    have Y : LayO w n A len ans Ap lp pan B3 B5 B9 BC A7 k7 Ls Vs := by
      refine ⟨hlenj, fun i j hi hj e => ?_, fun i hi e => ?_, fun i hi e => ?_, fun i hi e => ?_, fun i hi e => ?_, fun i j hi hj e => ?_, fun e => ?_, fun e => ?_, fun e => ?_, hL.ltV, fun k hk => ⟨fun e => ?_, fun i hi e => ?_⟩, hL.ge, hL.geB, fun i hi => hs i (by omega), hp, ⟨hnl, hn8⟩, hlp⟩
      · have h1 := hL.hC i hi
        rw [e, hL.hC j hj] at h1
        have h2 : Vs j = Vs i := by
          simp [nc, fo, ptr, cel] at h1; exact h1
        have h3 := hL.hV i hi
        rw [← h2, hL.hV j hj] at h3
        simp at h3
        omega
      · have := hL.hC i hi; rw [e] at this; have := ty this hL.hB; cases this
      · have := hL.hC i hi; rw [e] at this; have := ty this hL.h3; cases this
      · have := hL.hC i hi; rw [e] at this; have := ty this hL.h5; cases this
      · have := hL.hC i hi; rw [e] at this; have := ty this hL.h9; cases this
      · have := hL.hC i hi; rw [e] at this; have := ty this (hL.hV j hj); cases this
      · have := hL.h3; rw [e] at this; have := ty this hL.hB; cases this
      · have := hL.h5; rw [e] at this; have := ty this hL.hB; cases this
      · have := hL.h9; rw [e] at this; have := ty this hL.hB; cases this
      · obtain ⟨cs, hcs⟩ := hsl.own hk; rw [e] at hcs; have := ty hcs hL.hB; cases this
      · obtain ⟨cs, hcs⟩ := hsl.own hk; rw [e] at hcs; have := ty hcs (hL.hC i hi); cases this
    clear hL hsl hbel hs hp
    have hmk := fun W => make_bools n (by omega) W
    simp only [putF2, List.foldl_cons, List.foldl_nil, u_1, u_2, u_3, Nat.reduceAdd]
    go_wp2
    clear hmk c8 hjn
    have LTn := OS.lt hN
    have hBA0 : w.heap.size ≤ W.heap.size := hN.bel.size
    have hA1 : OA w n A len cap ans Ap lp cp pan B3 B5 B9 BC A7 k7 Ls Vs W.heap.size (fun _ => false) (W.alloc (.cells (arb (fun _ => false) n) 4 (0, 0))) :=
      ⟨by have := hN.step (Go.Proofs.YthnkmadipbfmaaaW.PrintWords.below_alloc (Below.refl _ _) (.cells (arb (fun _ => false) n) 4 (0, 0))); simpa using this, heap_alloc_new _ _⟩
    clear hN
    generalize W.alloc (.cells (arb (fun _ => false) n) 4 (0, 0)) = W2 at *
    generalize W.heap.size = BA at *
    have hadd : ∀ i, (⟨BA, 0, none⟩ : Addr).add i = ⟨BA, i, none⟩ := fun i => by unfold Addr.add; split <;> simp_all
    have haddC : ∀ i, (⟨BC, 0, none⟩ : Addr).add i = ⟨BC, i, none⟩ := fun i => by unfold Addr.add; split <;> simp_all
    obtain ⟨r0, r1, r2, r3, r4⟩ : ∃ r0 : Nat, r0 ≤ lo ∧ r0 ≤ 40 ∧ (0 < r0 → 0 < n) ∧ (r0 = lo ∨ r0 = 40 ∨ n = 0) := by
      rcases Nat.eq_zero_or_pos n with h | h
      · exact ⟨0, by omega, by omega, fun h => by omega, .inr (.inr h)⟩
      · rcases Nat.le_total lo 40 with h' | h'
        · exact ⟨lo, Nat.le_refl _, h', fun _ => h, .inl rfl⟩
        · exact ⟨40, h', Nat.le_refl _, fun _ => h, .inr (.inl rfl)⟩
    refine loop_p (fun _ W => ∃ a, OA w n A len cap ans Ap lp cp pan B3 B5 B9 BC A7 k7 Ls Vs BA a W) [13, 14, 15, 16, 17, 18, 39, 40, 41, 42, 43, 44, 45, 46, 47, 48, 49, 50, 51, 52, 53, 54, 55, 56, 57, 58, 59, 60, 61, 62, 63, 64, 65, 66, 67, 68, 69, 70, 71, 72, 73, 74, 75, 76, 77, 78, 79, 80, 81, 82, 83, 84, 85, 86, 87, 88, 89, 90, 91, 92, 93, 94, 95, 96, 97, 98, 99, 100, 101, 102, 103, 104, 105, 106, 107, 108, 109, 110, 111, 112, 113, 114, 115, 116, 117, 118, 119, 120, 121, 122, 123, 124, 125, 126, 127, 128, 129, 130, 131, 132, 133, 134, 135, 136, 137, 138] (fun k => [(12, .int .i64 k)]) (r0 : Int) (by omega) (by simp only [putF2, List.foldl_cons, List.foldl_nil, u_1, u_2, u_3, Nat.reduceAdd]; rfl) ⟨_, hA1⟩ ?_ ?_
    · clear hA1
      intro ki g W j0 j1 hM
      obtain ⟨a, hA⟩ := hM
      obtain ⟨i, rfl⟩ := Int.eq_ofNat_of_zero_le j0
      have hn0 : 0 < n := r3 (by omega)
      obtain ⟨ad, hAo, hsrc⟩ := ho_.out i (by omega)
      subst hAo
      obtain ⟨k, hk⟩ := Int.eq_ofNat_of_zero_le (Int.emod_nonneg (ord i) (show (n : Int) ≠ 0 by omega))
      have hkn : k < n := by have := Int.emod_lt_of_pos (ord i) (show (0 : Int) < n by omega); omega
      have KPk : ∀ w, Ret 10 #[.int .i64 (ord i), .int .i64 (n : Int)] w (.int .i64 (k : Int)) := fun w => hk ▸ KP_.out hn0 (ord i) w
      obtain ⟨ad7, rfl⟩ : ∃ ad7, A7 = some ad7 := by
        obtain ⟨ad, k, e, _⟩ := hA.1.sl.get (i := 0) (by omega)
        injection e with e1; exact ⟨ad, e1⟩
      obtain ⟨ada, rfl, hsa⟩ := Y.src k hkn
      obtain ⟨Ck, hCk⟩ : ∃ c, Ls.getD k 0 = c := ⟨_, rfl⟩
      have cO : W.cell? (ad.add i) = some (.int .i64 (ord i)) := (hA.1.bel.cell (World.block_lt_of_cell? w _ hsrc)).trans hsrc
      have hio : (i : Int) < (lo : Int) := by omega
      have hi40 : (i : Int) < 40 := by omega
      have hn0' : (0 : Int) < (n : Int) := by omega
      have hkn' : (k : Int) < (n : Int) := by omega
      have hkl : (k : Int) < (len : Int) := by omega
      have hlC : Ck < BA := hCk ▸ LTn.bC k hkn
      clear hsrc hk r1 r2 r3 r4 KP_ ho_ hn0
      simp only [putF2, List.foldl_cons, List.foldl_nil, u_1, u_2, u_3, Nat.reduceAdd]
      go_wp2_with (go_at_call 10; refine Calls.mono (KPk _) ?_; rintro e Wp ⟨rfl, hbp⟩; have hA_ := hA.step hbp; clear hA hbp cO; have hA := hA_; clear hA_)
      clear KPk
      (with_reducible refine gate_region 17 true ?_)
      refine region_p 10 10 (fun w1 => OA w n (some ada) len cap ans Ap lp cp pan B3 B5 B9 BC (some ad7) k7 Ls Vs BA a w1) (fun w1 => OA w n (some ada) len cap ans Ap lp cp pan B3 B5 B9 BC (some ad7) k7 Ls Vs BA a w1) (fun w1 => OA w n (some ada) len cap ans Ap lp cp pan B3 B5 B9 BC (some ad7) k7 Ls Vs BA a w1) _ (fun _ _ => False) (by kernel_rfl) (by kernel_rfl) rfl (fun _ _ _ h _ => h.elim) (by simp) (hA.step (Go.Proofs.YthnkmadipbfmaaaW.PrintWords.below_drew (Below.refl _ _))) ?_
      refine p_val (v := ?_) (a' := ?_) rfl (fun _ => by rfl) (by rfl) ?_ ?_ ?_
      rotate_left 2
      · intro l c w' hc hB; go_simp; (try go_ints); (with_reducible rfl)
      · intro c; simp only [u_0, u_1, u_2, u_3, Nat.reduceAdd]; rfl
      refine p_val (v := ?_) (a' := ?_) rfl (fun _ => by rfl) (by rfl) ?_ ?_ ?_
      rotate_left 2
      · intro l c w' hc hB; go_simp; (try go_ints); (with_reducible rfl)
      · intro c; simp only [u_0, u_1, u_2, u_3, Nat.reduceAdd]; rfl
      refine p_val (v := ?_) (a' := ?_) rfl (fun _ => by rfl) (by rfl) ?_ ?_ ?_
      rotate_left 2
      · intro l c w' hc hB; go_simp; (try go_ints); (with_reducible rfl)
      · intro c; simp only [u_0, u_1, u_2, u_3, Nat.reduceAdd]; rfl
      refine p_val (v := ?_) (a' := ?_) rfl (fun _ => by rfl) (by rfl) ?_ ?_ ?_
      rotate_left 2
      · intro l c w' hc hB; have h9_ := hB.any (F := fun w1 => OA w n (some ada) len cap ans Ap lp cp pan B3 B5 B9 BC (some ad7) k7 Ls Vs BA a w1) (fun h => h) (fun h => h) (fun h => h); have cS_ : w'.cell? (ad7.add k) = some (ptr Ck) := (by rw [← hCk]; exact OS.cellAt h9_.1 hlenj hkn); go_simp; (try go_ints); (with_reducible rfl)
      · intro c; simp only [u_0, u_1, u_2, u_3, Nat.reduceAdd]; rfl
      refine p_val (v := ?_) (a' := ?_) rfl (fun _ => by rfl) (by rfl) ?_ ?_ ?_
      rotate_left 2
      · intro l c w' hc hB; go_simp; (try go_ints); (with_reducible rfl)
      · intro c; simp only [u_0, u_1, u_2, u_3, Nat.reduceAdd]; rfl
      refine p_val (v := ?_) (a' := ?_) rfl (fun _ => by rfl) (by rfl) ?_ ?_ ?_
      rotate_left 2
      · intro l c w' hc hB; go_simp; (try go_ints); (with_reducible rfl)
      · intro c; simp only [u_0, u_1, u_2, u_3, Nat.reduceAdd]; rfl
      refine p_val (v := ?_) (a' := ?_) rfl (fun _ => by rfl) (by rfl) ?_ ?_ ?_
      rotate_left 2
      · intro l c w' hc hB; go_simp; (try go_ints); (with_reducible rfl)
      · intro c; simp only [u_0, u_1, u_2, u_3, Nat.reduceAdd]; rfl
      refine p_val (v := ?_) (a' := ?_) rfl (fun _ => by rfl) (by rfl) ?_ ?_ ?_
      rotate_left 2
      · intro l c w' hc hB; go_simp; (try go_ints); (with_reducible rfl)
      · intro c; simp only [u_0, u_1, u_2, u_3, Nat.reduceAdd]; rfl
      refine p_val (v := ?_) (a' := ?_) rfl (fun _ => by rfl) (by rfl) ?_ ?_ ?_
      rotate_left 2
      · intro l c w' hc hB; go_simp; (try go_ints); (with_reducible rfl)
      · intro c; simp only [u_0, u_1, u_2, u_3, Nat.reduceAdd]; rfl
      refine p_val (v := ?_) (a' := ?_) rfl (fun _ => by rfl) (by rfl) ?_ ?_ ?_
      rotate_left 2
      · intro l c w' hc hB; have h9_ := hB.any (F := fun w1 => OA w n (some ada) len cap ans Ap lp cp pan B3 B5 B9 BC (some ad7) k7 Ls Vs BA a w1) (fun h => h) (fun h => h) (fun h => h); have cS_ : w'.cell? (ad7.add k) = some (ptr Ck) := (by rw [← hCk]; exact OS.cellAt h9_.1 hlenj hkn); go_simp; (try go_ints); (with_reducible rfl)
      · intro c; simp only [u_0, u_1, u_2, u_3, Nat.reduceAdd]; rfl
      refine p_call1 (v := (.bool (a k))) (a' := ?_) rfl (fun _ => by rfl)  (11) (#[ptr Ck]) ?_ ?_ ?_ ?_
      rotate_left 1
      · intro l c w' hc h0_; go_simp; (first | done | rfl)
      · intro w' h0_; have q_ := h0_.1.hC k hkn; rw [hCk] at q_; refine (done_ Ck _ _ _ _ _ _ w' q_).mono ?_; rintro e w2 ⟨rfl, rfl⟩; exact .inl ⟨by cases a k <;> simp [dn], h0_⟩
      · intro c; simp only [u_0, u_1, u_2, u_3, Nat.reduceAdd]; rfl
      refine p_val (v := ?_) (a' := ?_) rfl (fun _ => by rfl) (by rfl) ?_ ?_ ?_
      rotate_left 2
      · intro l c w' hc hB; go_simp; (try go_ints); (with_reducible rfl)
      · intro c; simp only [u_0, u_1, u_2, u_3, Nat.reduceAdd]; rfl
      refine p_val (v := ?_) (a' := ?_) rfl (fun _ => by rfl) (by rfl) ?_ ?_ ?_
      rotate_left 2
      · intro l c w' hc hB; go_simp; (try go_ints); (with_reducible rfl)
      · intro c; simp only [u_0, u_1, u_2, u_3, Nat.reduceAdd]; rfl
      refine p_val (v := ?_) (a' := ?_) rfl (fun _ => by rfl) (by rfl) ?_ ?_ ?_
      rotate_left 2
      · intro l c w' hc hB; go_simp; (try go_ints); (with_reducible rfl)
      · intro c; simp only [u_0, u_1, u_2, u_3, Nat.reduceAdd]; rfl
      refine p_val (v := ?_) (a' := ?_) rfl (fun _ => by rfl) (by rfl) ?_ ?_ ?_
      rotate_left 2
      · intro l c w' hc hB; have h9_ := hB.any (F := fun w1 => OA w n (some ada) len cap ans Ap lp cp pan B3 B5 B9 BC (some ad7) k7 Ls Vs BA a w1) (fun h => h) (fun h => h) (fun h => h); have ca_ : w'.cell? ⟨BA, k, none⟩ = some (.bool (a k)) := (by rw [at_cell h9_.2 k, arb_get _ hkn]); go_simp; (try go_ints); (with_reducible rfl)
      · intro c; simp only [u_0, u_1, u_2, u_3, Nat.reduceAdd]; rfl
      refine p_val (v := .bool false) (a' := ?_) rfl (fun _ => by rfl) (by rfl) ?_ ?_ ?_
      rotate_left 1
      · intro l c w' hc hB; go_simp; (first | done | simp)
      · intro c; simp only [u_0, u_1, u_2, u_3, Nat.reduceAdd]; rfl
      refine p_val (v := ?_) (a' := ?_) rfl (fun _ => by rfl) (by rfl) ?_ ?_ ?_
      rotate_left 2
      · intro l c w' hc hB; go_simp; (try go_ints); (with_reducible rfl)
      · intro c; simp only [u_0, u_1, u_2, u_3, Nat.reduceAdd]; rfl
      refine p_nil ?_
      intro c_ W_ HP_
      (try simp only [Exit.then])
      (try dsimp only)
      clear c_
      clear hA
      have hA := HP_
      clear HP_
      have c5 : W_.cell? ⟨B5, 0, none⟩ = some (.slice Ap lp cp) := at_cell hA.1.h5 0
      have hBA : W_.heap[BA]? = some (.cells (arb a n) 4 (0, 0)) := hA.2
      have hcS := Aside0.mk (show ∀ W : World, Below w.heap.size w W → W.cell? (ada.add k) = some (.int .i64 (ans k)) from fun W hb => (hb.cell (World.block_lt_of_cell? w _ hsa)).trans hsa)
      clear hsa
      by_cases hlpk : k < lp
      · obtain ⟨adp, hAp, hsp⟩ := Y.srp k hlpk
        subst hAp
        have cP : W_.cell? (adp.add k) = some (.bool (pan k)) := (hA.1.bel.cell (World.block_lt_of_cell? w _ hsp)).trans hsp
        have hklp : (k : Int) < (lp : Int) := by omega
        clear hsp
        cases hpk : pan k with
        | true =>
          rw [hpk] at cP
          cases hak : a k with
          | true =>
            have hg : Calls Try.prog 12 #[ptr Ck] W_ (fun e w' => e = .returned (.tuple #[.int .i64 0, .bool false]) ∧ Ch (fun x => x = BC ∨ x = Ck) W_ w' ∧ OS w n (some ada) len cap ans (some adp) lp cp pan B3 B5 B9 BC (some ad7) k7 Ls Vs (fun j => if (if j = k then true else a j) = true then 1 else 0) (fun j => if j = k then true else a j) w') := by
              have q_ := getO Y hkn hA.1 rfl
              rw [hCk] at q_
              refine q_.mono ?_
              rintro e w' ⟨rfl, hc, ho⟩
              refine ⟨by simp [vl, LzO.fl, hlpk, hak, hpk], hc, ?_⟩
              have e1 : (fun j => if j = k then (1 : Int) else if a j = true then 1 else 0) = (fun j => if (if j = k then true else a j) = true then 1 else 0) := funext fun j => by by_cases e : j = k <;> simp [e]
              rw [e1] at ho
              exact ho
            have cS : W_.cell? (ad7.add k) = some (ptr Ck) := by rw [← hCk]; exact OS.cellAt hA.1 hlenj hkn
            clear hA
            go_wp2_with (go_at_call 12; refine Calls.mono hg ?_; rintro e W2 ⟨rfl, hc2, hO2⟩; clear hg; have c3_ : W2.cell? ⟨B3, 0, none⟩ = some (.slice (some ada) len cap) := at_cell hO2.h3 0; have cA_ := hcS.out W2 hO2.bel; have hBA2 := hc2.at hBA (by rintro (x | x) <;> (have := LTn.bB; omega)); have cB_ : W2.cell? ⟨BA, k, none⟩ = some (.bool true) := (by rw [at_cell hBA2 k, arb_get _ hkn, hak]); have zB_ : W2.frozen? ⟨BA, k, none⟩ = false := at_free hBA2 k; clear hBA cS)
            have hA3 : OA w n (some ada) len cap ans (some adp) lp cp pan B3 B5 B9 BC (some ad7) k7 Ls Vs BA (fun j => if j = k then true else a j) (W2.setCell ⟨BA, k, none⟩ (.bool true)) := ⟨OS.far LTn hBA0 hO2 (Ch.set (S := (· = BA)) _ _ _ rfl), by have h_ := at_set hBA2 k (.bool true); rw [arb_set _ hkn] at h_; exact h_⟩
            clear hO2 hBA2 hc2 cB_ zB_ c3_ cA_ hcS hak
            generalize W2.setCell ⟨BA, k, none⟩ (.bool true) = W3 at *
            generalize (fun j => if j = k then true else a j) = a' at *
            refine loop_m (fun _ W => OA w n (some ada) len cap ans (some adp) lp cp pan B3 B5 B9 BC (some ad7) k7 Ls Vs BA a' W) [117, 118, 119, 120, 121, 122, 123, 124, 125, 126, 127, 128, 129, 130, 131, 132, 133, 134, 135, 136, 137, 138] (fun j => [(18, .int .i64 j)]) (n : Int) (by omega) (by simp only [putF2, List.foldl_cons, List.foldl_nil, u_1, u_2, u_3, Nat.reduceAdd]; rfl) hA3 ?_ ?_
            · clear hA3
              intro ji g W j0 j1 hA
              obtain ⟨jj, rfl⟩ := Int.eq_ofNat_of_zero_le j0
              have hjj : jj < n := by omega
              simp only [putF2, List.foldl_cons, List.foldl_nil, u_1, u_2, u_3, Nat.reduceAdd]
              go_wp2
              obtain ⟨cj, hcj⟩ : ∃ c : Int, (if a' jj = true then 1 else 0) = c := ⟨_, rfl⟩
              have HS := St.nil W
              have HF : OA w n (some ada) len cap ans (some adp) lp cp pan B3 B5 B9 BC (some ad7) k7 Ls Vs BA a' W ∧ True := ⟨hA, trivial⟩
              clear hA
              (with_reducible refine gate_region 30 true ?_)
              have hS_ : Rgw.Good ([] : List (Nat × (World → Value → Prop))) (fun x_ => OA w n (some ada) len cap ans (some adp) lp cp pan B3 B5 B9 BC (some ad7) k7 Ls Vs BA a' x_ ∧ True) := ⟨(by intro x hx; cases hx), (stays_and (by first | exact stays_C _ _ _ _ | exact stays_true | exact stays_oa _ _) stays_true)⟩
              refine region_v (w0 := W) [] (fun x_ => OA w n (some ada) len cap ans (some adp) lp cp pan B3 B5 B9 BC (some ad7) k7 Ls Vs BA a' x_ ∧ True) (by kernel_rfl) (by kernel_rfl) (by rfl) (by exact HS) (by exact HF) hS_ ?_
              refine v_val (v := ?_) (a' := ?_) rfl (fun _ => by rfl) (by rfl) hS_ ?_ ?_ ?_
              rotate_left 2
              · intro l c w' hc hB; have c9_ : w'.cell? ⟨B9, 0, none⟩ = some (.slice (some ⟨BC, 0, none⟩) n n) := at_cell (hB.2.1.1).1.h9 0; have cc_ : w'.cell? ⟨BC, jj, none⟩ = some (.int .i64 cj) := (by rw [at_cell (hB.2.1.1).1.hB jj, ar_get _ _ hjj, hcj]); have ca_ : w'.cell? ⟨BA, jj, none⟩ = some (.bool (a' jj)) := (by rw [at_cell (hB.2.1.1).2 jj, arb_get _ hjj]); go_simp; (try go_ints); (with_reducible rfl)
              · intro c; simp only [u_0, u_1, u_2, u_3, Nat.reduceAdd]; rfl
              refine v_val (v := ?_) (a' := ?_) rfl (fun _ => by rfl) (by rfl) hS_ ?_ ?_ ?_
              rotate_left 2
              · intro l c w' hc hB; go_simp; (try go_ints); (with_reducible rfl)
              · intro c; simp only [u_0, u_1, u_2, u_3, Nat.reduceAdd]; rfl
              refine v_val (v := ?_) (a' := ?_) rfl (fun _ => by rfl) (by rfl) hS_ ?_ ?_ ?_
              rotate_left 2
              · intro l c w' hc hB; go_simp; (try go_ints); (with_reducible rfl)
              · intro c; simp only [u_0, u_1, u_2, u_3, Nat.reduceAdd]; rfl
              refine v_val (v := .int .i64 cj) (a' := ?_) rfl (fun _ => by rfl) (by rfl) hS_ ?_ ?_ ?_
              rotate_left 1
              · intro l c w' hc hB; have c9_ : w'.cell? ⟨B9, 0, none⟩ = some (.slice (some ⟨BC, 0, none⟩) n n) := at_cell (hB.2.1.1).1.h9 0; have cc_ : w'.cell? ⟨BC, jj, none⟩ = some (.int .i64 cj) := (by rw [at_cell (hB.2.1.1).1.hB jj, ar_get _ _ hjj, hcj]); have ca_ : w'.cell? ⟨BA, jj, none⟩ = some (.bool (a' jj)) := (by rw [at_cell (hB.2.1.1).2 jj, arb_get _ hjj]); go_simp; (first | done | rfl)
              · intro c; simp only [u_0, u_1, u_2, u_3, Nat.reduceAdd]; rfl
              refine v_val (v := .bool (a' jj)) (a' := ?_) rfl (fun _ => by rfl) (by rfl) hS_ ?_ ?_ ?_
              rotate_left 1
              · intro l c w' hc hB; go_simp; (first | done | (rw [← hcj]; cases a' jj <;> simp))
              · intro c; simp only [u_0, u_1, u_2, u_3, Nat.reduceAdd]; rfl
              refine v_val (v := ?_) (a' := ?_) rfl (fun _ => by rfl) (by rfl) hS_ ?_ ?_ ?_
              rotate_left 2
              · intro l c w' hc hB; go_simp; (try go_ints); (with_reducible rfl)
              · intro c; simp only [u_0, u_1, u_2, u_3, Nat.reduceAdd]; rfl
              refine v_val (v := ?_) (a' := ?_) rfl (fun _ => by rfl) (by rfl) hS_ ?_ ?_ ?_
              rotate_left 2
              · intro l c w' hc hB; go_simp; (try go_ints); (with_reducible rfl)
              · intro c; simp only [u_0, u_1, u_2, u_3, Nat.reduceAdd]; rfl
              refine v_val (v := ?_) (a' := ?_) rfl (fun _ => by rfl) (by rfl) hS_ ?_ ?_ ?_
              rotate_left 2
              · intro l c w' hc hB; go_simp; (try go_ints); (with_reducible rfl)
              · intro c; simp only [u_0, u_1, u_2, u_3, Nat.reduceAdd]; rfl
              refine v_val (v := ?_) (a' := ?_) rfl (fun _ => by rfl) (by rfl) hS_ ?_ ?_ ?_
              rotate_left 2
              · intro l c w' hc hB; have c9_ : w'.cell? ⟨B9, 0, none⟩ = some (.slice (some ⟨BC, 0, none⟩) n n) := at_cell (hB.2.1.1).1.h9 0; have cc_ : w'.cell? ⟨BC, jj, none⟩ = some (.int .i64 cj) := (by rw [at_cell (hB.2.1.1).1.hB jj, ar_get _ _ hjj, hcj]); have ca_ : w'.cell? ⟨BA, jj, none⟩ = some (.bool (a' jj)) := (by rw [at_cell (hB.2.1.1).2 jj, arb_get _ hjj]); go_simp; (try go_ints); (with_reducible rfl)
              · intro c; simp only [u_0, u_1, u_2, u_3, Nat.reduceAdd]; rfl
              refine v_val (v := .bool false) (a' := ?_) rfl (fun _ => by rfl) (by rfl) hS_ ?_ ?_ ?_
              rotate_left 1
              · intro l c w' hc hB; go_simp; (first | done | simp)
              · intro c; simp only [u_0, u_1, u_2, u_3, Nat.reduceAdd]; rfl
              refine v_val (v := ?_) (a' := ?_) rfl (fun _ => by rfl) (by rfl) hS_ ?_ ?_ ?_
              rotate_left 2
              · intro l c w' hc hB; go_simp; (try go_ints); (with_reducible rfl)
              · intro c; simp only [u_0, u_1, u_2, u_3, Nat.reduceAdd]; rfl
              refine v_val (v := ?_) (a' := ?_) rfl (fun _ => by rfl) (by rfl) hS_ ?_ ?_ ?_
              rotate_left 2
              · intro l c w' hc hB; have c9_ : w'.cell? ⟨B9, 0, none⟩ = some (.slice (some ⟨BC, 0, none⟩) n n) := at_cell (hB.2.1.1).1.h9 0; have cc_ : w'.cell? ⟨BC, jj, none⟩ = some (.int .i64 cj) := (by rw [at_cell (hB.2.1.1).1.hB jj, ar_get _ _ hjj, hcj]); have ca_ : w'.cell? ⟨BA, jj, none⟩ = some (.bool (a' jj)) := (by rw [at_cell (hB.2.1.1).2 jj, arb_get _ hjj]); go_simp; (try go_ints); (with_reducible rfl)
              · intro c; simp only [u_0, u_1, u_2, u_3, Nat.reduceAdd]; rfl
              refine v_val (v := ?_) (a' := ?_) rfl (fun _ => by rfl) (by rfl) hS_ ?_ ?_ ?_
              rotate_left 2
              · intro l c w' hc hB; go_simp; (try go_ints); (with_reducible rfl)
              · intro c; simp only [u_0, u_1, u_2, u_3, Nat.reduceAdd]; rfl
              refine v_val (v := ?_) (a' := ?_) rfl (fun _ => by rfl) (by rfl) hS_ ?_ ?_ ?_
              rotate_left 2
              · intro l c w' hc hB; go_simp; (try go_ints); (with_reducible rfl)
              · intro c; simp only [u_0, u_1, u_2, u_3, Nat.reduceAdd]; rfl
              refine v_val (v := .int .i64 cj) (a' := ?_) rfl (fun _ => by rfl) (by rfl) hS_ ?_ ?_ ?_
              rotate_left 1
              · intro l c w' hc hB; have c9_ : w'.cell? ⟨B9, 0, none⟩ = some (.slice (some ⟨BC, 0, none⟩) n n) := at_cell (hB.2.1.1).1.h9 0; have cc_ : w'.cell? ⟨BC, jj, none⟩ = some (.int .i64 cj) := (by rw [at_cell (hB.2.1.1).1.hB jj, ar_get _ _ hjj, hcj]); have ca_ : w'.cell? ⟨BA, jj, none⟩ = some (.bool (a' jj)) := (by rw [at_cell (hB.2.1.1).2 jj, arb_get _ hjj]); go_simp; (first | done | rfl)
              · intro c; simp only [u_0, u_1, u_2, u_3, Nat.reduceAdd]; rfl
              refine v_val (v := .bool false) (a' := ?_) rfl (fun _ => by rfl) (by rfl) hS_ ?_ ?_ ?_
              rotate_left 1
              · intro l c w' hc hB; go_simp; (first | done | (rw [← hcj]; cases a' jj <;> simp))
              · intro c; simp only [u_0, u_1, u_2, u_3, Nat.reduceAdd]; rfl
              refine v_val (v := ?_) (a' := ?_) rfl (fun _ => by rfl) (by rfl) hS_ ?_ ?_ ?_
              rotate_left 2
              · intro l c w' hc hB; go_simp; (try go_ints); (with_reducible rfl)
              · intro c; simp only [u_0, u_1, u_2, u_3, Nat.reduceAdd]; rfl
              refine v_nil ?_
              intro c W_ HS_ HF_ HV_
              (try simp only [Exit.then])
              (try dsimp only)
              clear HV_ hS_
              (try clear c)
              clear HS
              (try clear W)
              clear HF
              have HF__ := HF_
              clear HF_
              revert HF__
              revert HS_
              revert W_
              intro W HS HF
              have hA := HF.1
              clear HF HS hcj
              have hwj : wrap64 ((jj : Int) + 1) = (jj : Int) + 1 := w64 (by omega) (by omega)
              (try clear hlen); (try clear hlo); (try clear hlp); (try clear hnl); (try clear hn8); (try clear hio); (try clear hi40); (try clear hn0'); (try clear hkn'); (try clear hkl); (try clear hlC); (try clear hlpk); (try clear hklp); (try clear hpk); (try clear cP); (try clear c5); (try clear hadd); (try clear haddC); (try clear hkn); (try clear hBA0); (try clear LTn); (try clear hjj)
              go_wp2
              (try rw [hwj])
              refine round_end' hA ?_
              rfl
            · clear hA3
              intro g W hA
              have hnn : ¬ (n : Int) < (n : Int) := by omega
              have hwi : wrap64 ((i : Int) + 1) = (i : Int) + 1 := w64 (by omega) (by omega)
              (try clear hlen); (try clear hlo); (try clear hlp); (try clear hnl); (try clear hn8); (try clear hio); (try clear hi40); (try clear hn0'); (try clear hkn'); (try clear hkl); (try clear hlC); (try clear hlpk); (try clear hklp); (try clear hpk); (try clear cP); (try clear c5); (try clear hadd); (try clear haddC); (try clear hkn); (try clear hBA0); (try clear LTn)
              have hE : ∃ a, OA w n (some ada) len cap ans (some adp) lp cp pan B3 B5 B9 BC (some ad7) k7 Ls Vs BA a W := ⟨_, hA⟩
              have hE_ := Aside0.mk hE
              have hwi_ := Aside0.mk hwi
              clear hA hE hwi
              simp only [putF2, List.foldl_cons, List.foldl_nil, u_1, u_2, u_3, Nat.reduceAdd]
              go_wp2
              (try rw [hwi_.out])
              refine post_end hE_.out ?_
              kernel_rfl
          | false =>
            have hg : Calls Try.prog 12 #[ptr Ck] W_ (fun e w' => e = .returned (.tuple #[.int .i64 0, .bool true]) ∧ Ch (fun x => x = BC ∨ x = Ck) W_ w' ∧ OS w n (some ada) len cap ans (some adp) lp cp pan B3 B5 B9 BC (some ad7) k7 Ls Vs (fun j => if (if j = k then true else a j) = true then 1 else 0) (fun j => if j = k then true else a j) w') := by
              have q_ := getO Y hkn hA.1 rfl
              rw [hCk] at q_
              refine q_.mono ?_
              rintro e w' ⟨rfl, hc, ho⟩
              refine ⟨by simp [vl, LzO.fl, hlpk, hak, hpk], hc, ?_⟩
              have e1 : (fun j => if j = k then (1 : Int) else if a j = true then 1 else 0) = (fun j => if (if j = k then true else a j) = true then 1 else 0) := funext fun j => by by_cases e : j = k <;> simp [e]
              rw [e1] at ho
              exact ho
            have cS : W_.cell? (ad7.add k) = some (ptr Ck) := by rw [← hCk]; exact OS.cellAt hA.1 hlenj hkn
            clear hA
            go_wp2_with (go_at_call 12; refine Calls.mono hg ?_; rintro e W2 ⟨rfl, hc2, hO2⟩; clear hg; have c3_ : W2.cell? ⟨B3, 0, none⟩ = some (.slice (some ada) len cap) := at_cell hO2.h3 0; have cA_ := hcS.out W2 hO2.bel; have hBA2 := hc2.at hBA (by rintro (x | x) <;> (have := LTn.bB; omega)); have cB_ : W2.cell? ⟨BA, k, none⟩ = some (.bool false) := (by rw [at_cell hBA2 k, arb_get _ hkn, hak]); have zB_ : W2.frozen? ⟨BA, k, none⟩ = false := at_free hBA2 k; clear hBA cS)
            have hA3 : OA w n (some ada) len cap ans (some adp) lp cp pan B3 B5 B9 BC (some ad7) k7 Ls Vs BA (fun j => if j = k then true else a j) (W2.setCell ⟨BA, k, none⟩ (.bool true)) := ⟨OS.far LTn hBA0 hO2 (Ch.set (S := (· = BA)) _ _ _ rfl), by have h_ := at_set hBA2 k (.bool true); rw [arb_set _ hkn] at h_; exact h_⟩
            clear hO2 hBA2 hc2 cB_ zB_ c3_ cA_ hcS hak
            generalize W2.setCell ⟨BA, k, none⟩ (.bool true) = W3 at *
            generalize (fun j => if j = k then true else a j) = a' at *
            refine loop_m (fun _ W => OA w n (some ada) len cap ans (some adp) lp cp pan B3 B5 B9 BC (some ad7) k7 Ls Vs BA a' W) [117, 118, 119, 120, 121, 122, 123, 124, 125, 126, 127, 128, 129, 130, 131, 132, 133, 134, 135, 136, 137, 138] (fun j => [(18, .int .i64 j)]) (n : Int) (by omega) (by simp only [putF2, List.foldl_cons, List.foldl_nil, u_1, u_2, u_3, Nat.reduceAdd]; rfl) hA3 ?_ ?_
            · clear hA3
              intro ji g W j0 j1 hA
              obtain ⟨jj, rfl⟩ := Int.eq_ofNat_of_zero_le j0
              have hjj : jj < n := by omega
              simp only [putF2, List.foldl_cons, List.foldl_nil, u_1, u_2, u_3, Nat.reduceAdd]
              go_wp2
              obtain ⟨cj, hcj⟩ : ∃ c : Int, (if a' jj = true then 1 else 0) = c := ⟨_, rfl⟩
              have HS := St.nil W
              have HF : OA w n (some ada) len cap ans (some adp) lp cp pan B3 B5 B9 BC (some ad7) k7 Ls Vs BA a' W ∧ True := ⟨hA, trivial⟩
              clear hA
              (with_reducible refine gate_region 30 true ?_)
              have hS_ : Rgw.Good ([] : List (Nat × (World → Value → Prop))) (fun x_ => OA w n (some ada) len cap ans (some adp) lp cp pan B3 B5 B9 BC (some ad7) k7 Ls Vs BA a' x_ ∧ True) := ⟨(by intro x hx; cases hx), (stays_and (by first | exact stays_C _ _ _ _ | exact stays_true | exact stays_oa _ _) stays_true)⟩
              refine region_v (w0 := W) [] (fun x_ => OA w n (some ada) len cap ans (some adp) lp cp pan B3 B5 B9 BC (some ad7) k7 Ls Vs BA a' x_ ∧ True) (by kernel_rfl) (by kernel_rfl) (by rfl) (by exact HS) (by exact HF) hS_ ?_
              refine v_val (v := ?_) (a' := ?_) rfl (fun _ => by rfl) (by rfl) hS_ ?_ ?_ ?_
              rotate_left 2
              · intro l c w' hc hB; have c9_ : w'.cell? ⟨B9, 0, none⟩ = some (.slice (some ⟨BC, 0, none⟩) n n) := at_cell (hB.2.1.1).1.h9 0; have cc_ : w'.cell? ⟨BC, jj, none⟩ = some (.int .i64 cj) := (by rw [at_cell (hB.2.1.1).1.hB jj, ar_get _ _ hjj, hcj]); have ca_ : w'.cell? ⟨BA, jj, none⟩ = some (.bool (a' jj)) := (by rw [at_cell (hB.2.1.1).2 jj, arb_get _ hjj]); go_simp; (try go_ints); (with_reducible rfl)
              · intro c; simp only [u_0, u_1, u_2, u_3, Nat.reduceAdd]; rfl
              refine v_val (v := ?_) (a' := ?_) rfl (fun _ => by rfl) (by rfl) hS_ ?_ ?_ ?_
              rotate_left 2
              · intro l c w' hc hB; go_simp; (try go_ints); (with_reducible rfl)
              · intro c; simp only [u_0, u_1, u_2, u_3, Nat.reduceAdd]; rfl
              refine v_val (v := ?_) (a' := ?_) rfl (fun _ => by rfl) (by rfl) hS_ ?_ ?_ ?_
              rotate_left 2
              · intro l c w' hc hB; go_simp; (try go_ints); (with_reducible rfl)
              · intro c; simp only [u_0, u_1, u_2, u_3, Nat.reduceAdd]; rfl
              refine v_val (v := .int .i64 cj) (a' := ?_) rfl (fun _ => by rfl) (by rfl) hS_ ?_ ?_ ?_
              rotate_left 1
              · intro l c w' hc hB; have c9_ : w'.cell? ⟨B9, 0, none⟩ = some (.slice (some ⟨BC, 0, none⟩) n n) := at_cell (hB.2.1.1).1.h9 0; have cc_ : w'.cell? ⟨BC, jj, none⟩ = some (.int .i64 cj) := (by rw [at_cell (hB.2.1.1).1.hB jj, ar_get _ _ hjj, hcj]); have ca_ : w'.cell? ⟨BA, jj, none⟩ = some (.bool (a' jj)) := (by rw [at_cell (hB.2.1.1).2 jj, arb_get _ hjj]); go_simp; (first | done | rfl)
              · intro c; simp only [u_0, u_1, u_2, u_3, Nat.reduceAdd]; rfl
              refine v_val (v := .bool (a' jj)) (a' := ?_) rfl (fun _ => by rfl) (by rfl) hS_ ?_ ?_ ?_
              rotate_left 1
              · intro l c w' hc hB; go_simp; (first | done | (rw [← hcj]; cases a' jj <;> simp))
              · intro c; simp only [u_0, u_1, u_2, u_3, Nat.reduceAdd]; rfl
              refine v_val (v := ?_) (a' := ?_) rfl (fun _ => by rfl) (by rfl) hS_ ?_ ?_ ?_
              rotate_left 2
              · intro l c w' hc hB; go_simp; (try go_ints); (with_reducible rfl)
              · intro c; simp only [u_0, u_1, u_2, u_3, Nat.reduceAdd]; rfl
              refine v_val (v := ?_) (a' := ?_) rfl (fun _ => by rfl) (by rfl) hS_ ?_ ?_ ?_
              rotate_left 2
              · intro l c w' hc hB; go_simp; (try go_ints); (with_reducible rfl)
              · intro c; simp only [u_0, u_1, u_2, u_3, Nat.reduceAdd]; rfl
              refine v_val (v := ?_) (a' := ?_) rfl (fun _ => by rfl) (by rfl) hS_ ?_ ?_ ?_
              rotate_left 2
              · intro l c w' hc hB; go_simp; (try go_ints); (with_reducible rfl)
              · intro c; simp only [u_0, u_1, u_2, u_3, Nat.reduceAdd]; rfl
              refine v_val (v := ?_) (a' := ?_) rfl (fun _ => by rfl) (by rfl) hS_ ?_ ?_ ?_
              rotate_left 2
              · intro l c w' hc hB; have c9_ : w'.cell? ⟨B9, 0, none⟩ = some (.slice (some ⟨BC, 0, none⟩) n n) := at_cell (hB.2.1.1).1.h9 0; have cc_ : w'.cell? ⟨BC, jj, none⟩ = some (.int .i64 cj) := (by rw [at_cell (hB.2.1.1).1.hB jj, ar_get _ _ hjj, hcj]); have ca_ : w'.cell? ⟨BA, jj, none⟩ = some (.bool (a' jj)) := (by rw [at_cell (hB.2.1.1).2 jj, arb_get _ hjj]); go_simp; (try go_ints); (with_reducible rfl)
              · intro c; simp only [u_0, u_1, u_2, u_3, Nat.reduceAdd]; rfl
              refine v_val (v := .bool false) (a' := ?_) rfl (fun _ => by rfl) (by rfl) hS_ ?_ ?_ ?_
              rotate_left 1
              · intro l c w' hc hB; go_simp; (first | done | simp)
              · intro c; simp only [u_0, u_1, u_2, u_3, Nat.reduceAdd]; rfl
              refine v_val (v := ?_) (a' := ?_) rfl (fun _ => by rfl) (by rfl) hS_ ?_ ?_ ?_
              rotate_left 2
              · intro l c w' hc hB; go_simp; (try go_ints); (with_reducible rfl)
              · intro c; simp only [u_0, u_1, u_2, u_3, Nat.reduceAdd]; rfl
              refine v_val (v := ?_) (a' := ?_) rfl (fun _ => by rfl) (by rfl) hS_ ?_ ?_ ?_
              rotate_left 2
              · intro l c w' hc hB; have c9_ : w'.cell? ⟨B9, 0, none⟩ = some (.slice (some ⟨BC, 0, none⟩) n n) := at_cell (hB.2.1.1).1.h9 0; have cc_ : w'.cell? ⟨BC, jj, none⟩ = some (.int .i64 cj) := (by rw [at_cell (hB.2.1.1).1.hB jj, ar_get _ _ hjj, hcj]); have ca_ : w'.cell? ⟨BA, jj, none⟩ = some (.bool (a' jj)) := (by rw [at_cell (hB.2.1.1).2 jj, arb_get _ hjj]); go_simp; (try go_ints); (with_reducible rfl)
              · intro c; simp only [u_0, u_1, u_2, u_3, Nat.reduceAdd]; rfl
              refine v_val (v := ?_) (a' := ?_) rfl (fun _ => by rfl) (by rfl) hS_ ?_ ?_ ?_
              rotate_left 2
              · intro l c w' hc hB; go_simp; (try go_ints); (with_reducible rfl)
              · intro c; simp only [u_0, u_1, u_2, u_3, Nat.reduceAdd]; rfl
              refine v_val (v := ?_) (a' := ?_) rfl (fun _ => by rfl) (by rfl) hS_ ?_ ?_ ?_
              rotate_left 2
              · intro l c w' hc hB; go_simp; (try go_ints); (with_reducible rfl)
              · intro c; simp only [u_0, u_1, u_2, u_3, Nat.reduceAdd]; rfl
              refine v_val (v := .int .i64 cj) (a' := ?_) rfl (fun _ => by rfl) (by rfl) hS_ ?_ ?_ ?_
              rotate_left 1
              · intro l c w' hc hB; have c9_ : w'.cell? ⟨B9, 0, none⟩ = some (.slice (some ⟨BC, 0, none⟩) n n) := at_cell (hB.2.1.1).1.h9 0; have cc_ : w'.cell? ⟨BC, jj, none⟩ = some (.int .i64 cj) := (by rw [at_cell (hB.2.1.1).1.hB jj, ar_get _ _ hjj, hcj]); have ca_ : w'.cell? ⟨BA, jj, none⟩ = some (.bool (a' jj)) := (by rw [at_cell (hB.2.1.1).2 jj, arb_get _ hjj]); go_simp; (first | done | rfl)
              · intro c; simp only [u_0, u_1, u_2, u_3, Nat.reduceAdd]; rfl
              refine v_val (v := .bool false) (a' := ?_) rfl (fun _ => by rfl) (by rfl) hS_ ?_ ?_ ?_
              rotate_left 1
              · intro l c w' hc hB; go_simp; (first | done | (rw [← hcj]; cases a' jj <;> simp))
              · intro c; simp only [u_0, u_1, u_2, u_3, Nat.reduceAdd]; rfl
              refine v_val (v := ?_) (a' := ?_) rfl (fun _ => by rfl) (by rfl) hS_ ?_ ?_ ?_
              rotate_left 2
              · intro l c w' hc hB; go_simp; (try go_ints); (with_reducible rfl)
              · intro c; simp only [u_0, u_1, u_2, u_3, Nat.reduceAdd]; rfl
              refine v_nil ?_
              intro c W_ HS_ HF_ HV_
              (try simp only [Exit.then])
              (try dsimp only)
              clear HV_ hS_
              (try clear c)
              clear HS
              (try clear W)
              clear HF
              have HF__ := HF_
              clear HF_
              revert HF__
              revert HS_
              revert W_
              intro W HS HF
              have hA := HF.1
              clear HF HS hcj
              have hwj : wrap64 ((jj : Int) + 1) = (jj : Int) + 1 := w64 (by omega) (by omega)
              (try clear hlen); (try clear hlo); (try clear hlp); (try clear hnl); (try clear hn8); (try clear hio); (try clear hi40); (try clear hn0'); (try clear hkn'); (try clear hkl); (try clear hlC); (try clear hlpk); (try clear hklp); (try clear hpk); (try clear cP); (try clear c5); (try clear hadd); (try clear haddC); (try clear hkn); (try clear hBA0); (try clear LTn); (try clear hjj)
              go_wp2
              (try rw [hwj])
              refine round_end' hA ?_
              rfl
            · clear hA3
              intro g W hA
              have hnn : ¬ (n : Int) < (n : Int) := by omega
              have hwi : wrap64 ((i : Int) + 1) = (i : Int) + 1 := w64 (by omega) (by omega)
              (try clear hlen); (try clear hlo); (try clear hlp); (try clear hnl); (try clear hn8); (try clear hio); (try clear hi40); (try clear hn0'); (try clear hkn'); (try clear hkl); (try clear hlC); (try clear hlpk); (try clear hklp); (try clear hpk); (try clear cP); (try clear c5); (try clear hadd); (try clear haddC); (try clear hkn); (try clear hBA0); (try clear LTn)
              have hE : ∃ a, OA w n (some ada) len cap ans (some adp) lp cp pan B3 B5 B9 BC (some ad7) k7 Ls Vs BA a W := ⟨_, hA⟩
              have hE_ := Aside0.mk hE
              have hwi_ := Aside0.mk hwi
              clear hA hE hwi
              simp only [putF2, List.foldl_cons, List.foldl_nil, u_1, u_2, u_3, Nat.reduceAdd]
              go_wp2
              (try rw [hwi_.out])
              refine post_end hE_.out ?_
              kernel_rfl
        | false =>
          rw [hpk] at cP
          cases hak : a k with
          | true =>
            have hg : Calls Try.prog 12 #[ptr Ck] W_ (fun e w' => e = .returned (.tuple #[.int .i64 (ans k), .bool false]) ∧ Ch (fun x => x = BC ∨ x = Ck) W_ w' ∧ OS w n (some ada) len cap ans (some adp) lp cp pan B3 B5 B9 BC (some ad7) k7 Ls Vs (fun j => if (if j = k then true else a j) = true then 1 else 0) (fun j => if j = k then true else a j) w') := by
              have q_ := getO Y hkn hA.1 rfl
              rw [hCk] at q_
              refine q_.mono ?_
              rintro e w' ⟨rfl, hc, ho⟩
              refine ⟨by simp [vl, LzO.fl, hlpk, hak, hpk], hc, ?_⟩
              have e1 : (fun j => if j = k then (1 : Int) else if a j = true then 1 else 0) = (fun j => if (if j = k then true else a j) = true then 1 else 0) := funext fun j => by by_cases e : j = k <;> simp [e]
              rw [e1] at ho
              exact ho
            have cS : W_.cell? (ad7.add k) = some (ptr Ck) := by rw [← hCk]; exact OS.cellAt hA.1 hlenj hkn
            clear hA
            go_wp2_with (go_at_call 12; refine Calls.mono hg ?_; rintro e W2 ⟨rfl, hc2, hO2⟩; clear hg; have c3_ : W2.cell? ⟨B3, 0, none⟩ = some (.slice (some ada) len cap) := at_cell hO2.h3 0; have cA_ := hcS.out W2 hO2.bel; have hBA2 := hc2.at hBA (by rintro (x | x) <;> (have := LTn.bB; omega)); have cB_ : W2.cell? ⟨BA, k, none⟩ = some (.bool true) := (by rw [at_cell hBA2 k, arb_get _ hkn, hak]); have zB_ : W2.frozen? ⟨BA, k, none⟩ = false := at_free hBA2 k; clear hBA cS)
            have hA3 : OA w n (some ada) len cap ans (some adp) lp cp pan B3 B5 B9 BC (some ad7) k7 Ls Vs BA (fun j => if j = k then true else a j) (W2.setCell ⟨BA, k, none⟩ (.bool true)) := ⟨OS.far LTn hBA0 hO2 (Ch.set (S := (· = BA)) _ _ _ rfl), by have h_ := at_set hBA2 k (.bool true); rw [arb_set _ hkn] at h_; exact h_⟩
            clear hO2 hBA2 hc2 cB_ zB_ c3_ cA_ hcS hak
            generalize W2.setCell ⟨BA, k, none⟩ (.bool true) = W3 at *
            generalize (fun j => if j = k then true else a j) = a' at *
            refine loop_m (fun _ W => OA w n (some ada) len cap ans (some adp) lp cp pan B3 B5 B9 BC (some ad7) k7 Ls Vs BA a' W) [117, 118, 119, 120, 121, 122, 123, 124, 125, 126, 127, 128, 129, 130, 131, 132, 133, 134, 135, 136, 137, 138] (fun j => [(18, .int .i64 j)]) (n : Int) (by omega) (by simp only [putF2, List.foldl_cons, List.foldl_nil, u_1, u_2, u_3, Nat.reduceAdd]; rfl) hA3 ?_ ?_
            · clear hA3
              intro ji g W j0 j1 hA
              obtain ⟨jj, rfl⟩ := Int.eq_ofNat_of_zero_le j0
              have hjj : jj < n := by omega
              simp only [putF2, List.foldl_cons, List.foldl_nil, u_1, u_2, u_3, Nat.reduceAdd]
              go_wp2
              obtain ⟨cj, hcj⟩ : ∃ c : Int, (if a' jj = true then 1 else 0) = c := ⟨_, rfl⟩
              have HS := St.nil W
              have HF : OA w n (some ada) len cap ans (some adp) lp cp pan B3 B5 B9 BC (some ad7) k7 Ls Vs BA a' W ∧ True := ⟨hA, trivial⟩
              clear hA
              (with_reducible refine gate_region 30 true ?_)
              have hS_ : Rgw.Good ([] : List (Nat × (World → Value → Prop))) (fun x_ => OA w n (some ada) len cap ans (some adp) lp cp pan B3 B5 B9 BC (some ad7) k7 Ls Vs BA a' x_ ∧ True) := ⟨(by intro x hx; cases hx), (stays_and (by first | exact stays_C _ _ _ _ | exact stays_true | exact stays_oa _ _) stays_true)⟩
              refine region_v (w0 := W) [] (fun x_ => OA w n (some ada) len cap ans (some adp) lp cp pan B3 B5 B9 BC (some ad7) k7 Ls Vs BA a' x_ ∧ True) (by kernel_rfl) (by kernel_rfl) (by rfl) (by exact HS) (by exact HF) hS_ ?_
              refine v_val (v := ?_) (a' := ?_) rfl (fun _ => by rfl) (by rfl) hS_ ?_ ?_ ?_
              rotate_left 2
              · intro l c w' hc hB; have c9_ : w'.cell? ⟨B9, 0, none⟩ = some (.slice (some ⟨BC, 0, none⟩) n n) := at_cell (hB.2.1.1).1.h9 0; have cc_ : w'.cell? ⟨BC, jj, none⟩ = some (.int .i64 cj) := (by rw [at_cell (hB.2.1.1).1.hB jj, ar_get _ _ hjj, hcj]); have ca_ : w'.cell? ⟨BA, jj, none⟩ = some (.bool (a' jj)) := (by rw [at_cell (hB.2.1.1).2 jj, arb_get _ hjj]); go_simp; (try go_ints); (with_reducible rfl)
              · intro c; simp only [u_0, u_1, u_2, u_3, Nat.reduceAdd]; rfl
              refine v_val (v := ?_) (a' := ?_) rfl (fun _ => by rfl) (by rfl) hS_ ?_ ?_ ?_
              rotate_left 2
              · intro l c w' hc hB; go_simp; (try go_ints); (with_reducible rfl)
              · intro c; simp only [u_0, u_1, u_2, u_3, Nat.reduceAdd]; rfl
              refine v_val (v := ?_) (a' := ?_) rfl (fun _ => by rfl) (by rfl) hS_ ?_ ?_ ?_
              rotate_left 2
              · intro l c w' hc hB; go_simp; (try go_ints); (with_reducible rfl)
              · intro c; simp only [u_0, u_1, u_2, u_3, Nat.reduceAdd]; rfl
              refine v_val (v := .int .i64 cj) (a' := ?_) rfl (fun _ => by rfl) (by rfl) hS_ ?_ ?_ ?_
              rotate_left 1
              · intro l c w' hc hB; have c9_ : w'.cell? ⟨B9, 0, none⟩ = some (.slice (some ⟨BC, 0, none⟩) n n) := at_cell (hB.2.1.1).1.h9 0; have cc_ : w'.cell? ⟨BC, jj, none⟩ = some (.int .i64 cj) := (by rw [at_cell (hB.2.1.1).1.hB jj, ar_get _ _ hjj, hcj]); have ca_ : w'.cell? ⟨BA, jj, none⟩ = some (.bool (a' jj)) := (by rw [at_cell (hB.2.1.1).2 jj, arb_get _ hjj]); go_simp; (first | done | rfl)
              · intro c; simp only [u_0, u_1, u_2, u_3, Nat.reduceAdd]; rfl
              refine v_val (v := .bool (a' jj)) (a' := ?_) rfl (fun _ => by rfl) (by rfl) hS_ ?_ ?_ ?_
              rotate_left 1
              · intro l c w' hc hB; go_simp; (first | done | (rw [← hcj]; cases a' jj <;> simp))
              · intro c; simp only [u_0, u_1, u_2, u_3, Nat.reduceAdd]; rfl
              refine v_val (v := ?_) (a' := ?_) rfl (fun _ => by rfl) (by rfl) hS_ ?_ ?_ ?_
              rotate_left 2
              · intro l c w' hc hB; go_simp; (try go_ints); (with_reducible rfl)
              · intro c; simp only [u_0, u_1, u_2, u_3, Nat.reduceAdd]; rfl
              refine v_val (v := ?_) (a' := ?_) rfl (fun _ => by rfl) (by rfl) hS_ ?_ ?_ ?_
              rotate_left 2
              · intro l c w' hc hB; go_simp; (try go_ints); (with_reducible rfl)
              · intro c; simp only [u_0, u_1, u_2, u_3, Nat.reduceAdd]; rfl
              refine v_val (v := ?_) (a' := ?_) rfl (fun _ => by rfl) (by rfl) hS_ ?_ ?_ ?_
              rotate_left 2
              · intro l c w' hc hB; go_simp; (try go_ints); (with_reducible rfl)
              · intro c; simp only [u_0, u_1, u_2, u_3, Nat.reduceAdd]; rfl
              refine v_val (v := ?_) (a' := ?_) rfl (fun _ => by rfl) (by rfl) hS_ ?_ ?_ ?_
              rotate_left 2
              · intro l c w' hc hB; have c9_ : w'.cell? ⟨B9, 0, none⟩ = some (.slice (some ⟨BC, 0, none⟩) n n) := at_cell (hB.2.1.1).1.h9 0; have cc_ : w'.cell? ⟨BC, jj, none⟩ = some (.int .i64 cj) := (by rw [at_cell (hB.2.1.1).1.hB jj, ar_get _ _ hjj, hcj]); have ca_ : w'.cell? ⟨BA, jj, none⟩ = some (.bool (a' jj)) := (by rw [at_cell (hB.2.1.1).2 jj, arb_get _ hjj]); go_simp; (try go_ints); (with_reducible rfl)
              · intro c; simp only [u_0, u_1, u_2, u_3, Nat.reduceAdd]; rfl
              refine v_val (v := .bool false) (a' := ?_) rfl (fun _ => by rfl) (by rfl) hS_ ?_ ?_ ?_
              rotate_left 1
              · intro l c w' hc hB; go_simp; (first | done | simp)
              · intro c; simp only [u_0, u_1, u_2, u_3, Nat.reduceAdd]; rfl
              refine v_val (v := ?_) (a' := ?_) rfl (fun _ => by rfl) (by rfl) hS_ ?_ ?_ ?_
              rotate_left 2
              · intro l c w' hc hB; go_simp; (try go_ints); (with_reducible rfl)
              · intro c; simp only [u_0, u_1, u_2, u_3, Nat.reduceAdd]; rfl
              refine v_val (v := ?_) (a' := ?_) rfl (fun _ => by rfl) (by rfl) hS_ ?_ ?_ ?_
              rotate_left 2
              · intro l c w' hc hB; have c9_ : w'.cell? ⟨B9, 0, none⟩ = some (.slice (some ⟨BC, 0, none⟩) n n) := at_cell (hB.2.1.1).1.h9 0; have cc_ : w'.cell? ⟨BC, jj, none⟩ = some (.int .i64 cj) := (by rw [at_cell (hB.2.1.1).1.hB jj, ar_get _ _ hjj, hcj]); have ca_ : w'.cell? ⟨BA, jj, none⟩ = some (.bool (a' jj)) := (by rw [at_cell (hB.2.1.1).2 jj, arb_get _ hjj]); go_simp; (try go_ints); (with_reducible rfl)
              · intro c; simp only [u_0, u_1, u_2, u_3, Nat.reduceAdd]; rfl
              refine v_val (v := ?_) (a' := ?_) rfl (fun _ => by rfl) (by rfl) hS_ ?_ ?_ ?_
              rotate_left 2
              · intro l c w' hc hB; go_simp; (try go_ints); (with_reducible rfl)
              · intro c; simp only [u_0, u_1, u_2, u_3, Nat.reduceAdd]; rfl
              refine v_val (v := ?_) (a' := ?_) rfl (fun _ => by rfl) (by rfl) hS_ ?_ ?_ ?_
              rotate_left 2
              · intro l c w' hc hB; go_simp; (try go_ints); (with_reducible rfl)
              · intro c; simp only [u_0, u_1, u_2, u_3, Nat.reduceAdd]; rfl
              refine v_val (v := .int .i64 cj) (a' := ?_) rfl (fun _ => by rfl) (by rfl) hS_ ?_ ?_ ?_
              rotate_left 1
              · intro l c w' hc hB; have c9_ : w'.cell? ⟨B9, 0, none⟩ = some (.slice (some ⟨BC, 0, none⟩) n n) := at_cell (hB.2.1.1).1.h9 0; have cc_ : w'.cell? ⟨BC, jj, none⟩ = some (.int .i64 cj) := (by rw [at_cell (hB.2.1.1).1.hB jj, ar_get _ _ hjj, hcj]); have ca_ : w'.cell? ⟨BA, jj, none⟩ = some (.bool (a' jj)) := (by rw [at_cell (hB.2.1.1).2 jj, arb_get _ hjj]); go_simp; (first | done | rfl)
              · intro c; simp only [u_0, u_1, u_2, u_3, Nat.reduceAdd]; rfl
              refine v_val (v := .bool false) (a' := ?_) rfl (fun _ => by rfl) (by rfl) hS_ ?_ ?_ ?_
              rotate_left 1
              · intro l c w' hc hB; go_simp; (first | done | (rw [← hcj]; cases a' jj <;> simp))
              · intro c; simp only [u_0, u_1, u_2, u_3, Nat.reduceAdd]; rfl
              refine v_val (v := ?_) (a' := ?_) rfl (fun _ => by rfl) (by rfl) hS_ ?_ ?_ ?_
              rotate_left 2
              · intro l c w' hc hB; go_simp; (try go_ints); (with_reducible rfl)
              · intro c; simp only [u_0, u_1, u_2, u_3, Nat.reduceAdd]; rfl
              refine v_nil ?_
              intro c W_ HS_ HF_ HV_
              (try simp only [Exit.then])
              (try dsimp only)
              clear HV_ hS_
              (try clear c)
              clear HS
              (try clear W)
              clear HF
              have HF__ := HF_
              clear HF_
              revert HF__
              revert HS_
              revert W_
              intro W HS HF
              have hA := HF.1
              clear HF HS hcj
              have hwj : wrap64 ((jj : Int) + 1) = (jj : Int) + 1 := w64 (by omega) (by omega)
              (try clear hlen); (try clear hlo); (try clear hlp); (try clear hnl); (try clear hn8); (try clear hio); (try clear hi40); (try clear hn0'); (try clear hkn'); (try clear hkl); (try clear hlC); (try clear hlpk); (try clear hklp); (try clear hpk); (try clear cP); (try clear c5); (try clear hadd); (try clear haddC); (try clear hkn); (try clear hBA0); (try clear LTn); (try clear hjj)
              go_wp2
              (try rw [hwj])
              refine round_end' hA ?_
              rfl
            · clear hA3
              intro g W hA
              have hnn : ¬ (n : Int) < (n : Int) := by omega
              have hwi : wrap64 ((i : Int) + 1) = (i : Int) + 1 := w64 (by omega) (by omega)
              (try clear hlen); (try clear hlo); (try clear hlp); (try clear hnl); (try clear hn8); (try clear hio); (try clear hi40); (try clear hn0'); (try clear hkn'); (try clear hkl); (try clear hlC); (try clear hlpk); (try clear hklp); (try clear hpk); (try clear cP); (try clear c5); (try clear hadd); (try clear haddC); (try clear hkn); (try clear hBA0); (try clear LTn)
              have hE : ∃ a, OA w n (some ada) len cap ans (some adp) lp cp pan B3 B5 B9 BC (some ad7) k7 Ls Vs BA a W := ⟨_, hA⟩
              have hE_ := Aside0.mk hE
              have hwi_ := Aside0.mk hwi
              clear hA hE hwi
              simp only [putF2, List.foldl_cons, List.foldl_nil, u_1, u_2, u_3, Nat.reduceAdd]
              go_wp2
              (try rw [hwi_.out])
              refine post_end hE_.out ?_
              kernel_rfl
          | false =>
            have hg : Calls Try.prog 12 #[ptr Ck] W_ (fun e w' => e = .returned (.tuple #[.int .i64 (ans k), .bool false]) ∧ Ch (fun x => x = BC ∨ x = Ck) W_ w' ∧ OS w n (some ada) len cap ans (some adp) lp cp pan B3 B5 B9 BC (some ad7) k7 Ls Vs (fun j => if (if j = k then true else a j) = true then 1 else 0) (fun j => if j = k then true else a j) w') := by
              have q_ := getO Y hkn hA.1 rfl
              rw [hCk] at q_
              refine q_.mono ?_
              rintro e w' ⟨rfl, hc, ho⟩
              refine ⟨by simp [vl, LzO.fl, hlpk, hak, hpk], hc, ?_⟩
              have e1 : (fun j => if j = k then (1 : Int) else if a j = true then 1 else 0) = (fun j => if (if j = k then true else a j) = true then 1 else 0) := funext fun j => by by_cases e : j = k <;> simp [e]
              rw [e1] at ho
              exact ho
            have cS : W_.cell? (ad7.add k) = some (ptr Ck) := by rw [← hCk]; exact OS.cellAt hA.1 hlenj hkn
            clear hA
            go_wp2_with (go_at_call 12; refine Calls.mono hg ?_; rintro e W2 ⟨rfl, hc2, hO2⟩; clear hg; have c3_ : W2.cell? ⟨B3, 0, none⟩ = some (.slice (some ada) len cap) := at_cell hO2.h3 0; have cA_ := hcS.out W2 hO2.bel; have hBA2 := hc2.at hBA (by rintro (x | x) <;> (have := LTn.bB; omega)); have cB_ : W2.cell? ⟨BA, k, none⟩ = some (.bool false) := (by rw [at_cell hBA2 k, arb_get _ hkn, hak]); have zB_ : W2.frozen? ⟨BA, k, none⟩ = false := at_free hBA2 k; clear hBA cS)
            have hA3 : OA w n (some ada) len cap ans (some adp) lp cp pan B3 B5 B9 BC (some ad7) k7 Ls Vs BA (fun j => if j = k then true else a j) (W2.setCell ⟨BA, k, none⟩ (.bool true)) := ⟨OS.far LTn hBA0 hO2 (Ch.set (S := (· = BA)) _ _ _ rfl), by have h_ := at_set hBA2 k (.bool true); rw [arb_set _ hkn] at h_; exact h_⟩
            clear hO2 hBA2 hc2 cB_ zB_ c3_ cA_ hcS hak
            generalize W2.setCell ⟨BA, k, none⟩ (.bool true) = W3 at *
            generalize (fun j => if j = k then true else a j) = a' at *
            refine loop_m (fun _ W => OA w n (some ada) len cap ans (some adp) lp cp pan B3 B5 B9 BC (some ad7) k7 Ls Vs BA a' W) [117, 118, 119, 120, 121, 122, 123, 124, 125, 126, 127, 128, 129, 130, 131, 132, 133, 134, 135, 136, 137, 138] (fun j => [(18, .int .i64 j)]) (n : Int) (by omega) (by simp only [putF2, List.foldl_cons, List.foldl_nil, u_1, u_2, u_3, Nat.reduceAdd]; rfl) hA3 ?_ ?_
            · clear hA3
              intro ji g W j0 j1 hA
              obtain ⟨jj, rfl⟩ := Int.eq_ofNat_of_zero_le j0
              have hjj : jj < n := by omega
              simp only [putF2, List.foldl_cons, List.foldl_nil, u_1, u_2, u_3, Nat.reduceAdd]
              go_wp2
              obtain ⟨cj, hcj⟩ : ∃ c : Int, (if a' jj = true then 1 else 0) = c := ⟨_, rfl⟩
              have HS := St.nil W
              have HF : OA w n (some ada) len cap ans (some adp) lp cp pan B3 B5 B9 BC (some ad7) k7 Ls Vs BA a' W ∧ True := ⟨hA, trivial⟩
              clear hA
              (with_reducible refine gate_region 30 true ?_)
              have hS_ : Rgw.Good ([] : List (Nat × (World → Value → Prop))) (fun x_ => OA w n (some ada) len cap ans (some adp) lp cp pan B3 B5 B9 BC (some ad7) k7 Ls Vs BA a' x_ ∧ True) := ⟨(by intro x hx; cases hx), (stays_and (by first | exact stays_C _ _ _ _ | exact stays_true | exact stays_oa _ _) stays_true)⟩
              refine region_v (w0 := W) [] (fun x_ => OA w n (some ada) len cap ans (some adp) lp cp pan B3 B5 B9 BC (some ad7) k7 Ls Vs BA a' x_ ∧ True) (by kernel_rfl) (by kernel_rfl) (by rfl) (by exact HS) (by exact HF) hS_ ?_
              refine v_val (v := ?_) (a' := ?_) rfl (fun _ => by rfl) (by rfl) hS_ ?_ ?_ ?_
              rotate_left 2
              · intro l c w' hc hB; have c9_ : w'.cell? ⟨B9, 0, none⟩ = some (.slice (some ⟨BC, 0, none⟩) n n) := at_cell (hB.2.1.1).1.h9 0; have cc_ : w'.cell? ⟨BC, jj, none⟩ = some (.int .i64 cj) := (by rw [at_cell (hB.2.1.1).1.hB jj, ar_get _ _ hjj, hcj]); have ca_ : w'.cell? ⟨BA, jj, none⟩ = some (.bool (a' jj)) := (by rw [at_cell (hB.2.1.1).2 jj, arb_get _ hjj]); go_simp; (try go_ints); (with_reducible rfl)
              · intro c; simp only [u_0, u_1, u_2, u_3, Nat.reduceAdd]; rfl
              refine v_val (v := ?_) (a' := ?_) rfl (fun _ => by rfl) (by rfl) hS_ ?_ ?_ ?_
              rotate_left 2
              · intro l c w' hc hB; go_simp; (try go_ints); (with_reducible rfl)
              · intro c; simp only [u_0, u_1, u_2, u_3, Nat.reduceAdd]; rfl
              refine v_val (v := ?_) (a' := ?_) rfl (fun _ => by rfl) (by rfl) hS_ ?_ ?_ ?_
              rotate_left 2
              · intro l c w' hc hB; go_simp; (try go_ints); (with_reducible rfl)
              · intro c; simp only [u_0, u_1, u_2, u_3, Nat.reduceAdd]; rfl
              refine v_val (v := .int .i64 cj) (a' := ?_) rfl (fun _ => by rfl) (by rfl) hS_ ?_ ?_ ?_
              rotate_left 1
              · intro l c w' hc hB; have c9_ : w'.cell? ⟨B9, 0, none⟩ = some (.slice (some ⟨BC, 0, none⟩) n n) := at_cell (hB.2.1.1).1.h9 0; have cc_ : w'.cell? ⟨BC, jj, none⟩ = some (.int .i64 cj) := (by rw [at_cell (hB.2.1.1).1.hB jj, ar_get _ _ hjj, hcj]); have ca_ : w'.cell? ⟨BA, jj, none⟩ = some (.bool (a' jj)) := (by rw [at_cell (hB.2.1.1).2 jj, arb_get _ hjj]); go_simp; (first | done | rfl)
              · intro c; simp only [u_0, u_1, u_2, u_3, Nat.reduceAdd]; rfl
              refine v_val (v := .bool (a' jj)) (a' := ?_) rfl (fun _ => by rfl) (by rfl) hS_ ?_ ?_ ?_
              rotate_left 1
              · intro l c w' hc hB; go_simp; (first | done | (rw [← hcj]; cases a' jj <;> simp))
              · intro c; simp only [u_0, u_1, u_2, u_3, Nat.reduceAdd]; rfl
              refine v_val (v := ?_) (a' := ?_) rfl (fun _ => by rfl) (by rfl) hS_ ?_ ?_ ?_
              rotate_left 2
              · intro l c w' hc hB; go_simp; (try go_ints); (with_reducible rfl)
              · intro c; simp only [u_0, u_1, u_2, u_3, Nat.reduceAdd]; rfl
              refine v_val (v := ?_) (a' := ?_) rfl (fun _ => by rfl) (by rfl) hS_ ?_ ?_ ?_
              rotate_left 2
              · intro l c w' hc hB; go_simp; (try go_ints); (with_reducible rfl)
              · intro c; simp only [u_0, u_1, u_2, u_3, Nat.reduceAdd]; rfl
              refine v_val (v := ?_) (a' := ?_) rfl (fun _ => by rfl) (by rfl) hS_ ?_ ?_ ?_
              rotate_left 2
              · intro l c w' hc hB; go_simp; (try go_ints); (with_reducible rfl)
              · intro c; simp only [u_0, u_1, u_2, u_3, Nat.reduceAdd]; rfl
              refine v_val (v := ?_) (a' := ?_) rfl (fun _ => by rfl) (by rfl) hS_ ?_ ?_ ?_
              rotate_left 2
              · intro l c w' hc hB; have c9_ : w'.cell? ⟨B9, 0, none⟩ = some (.slice (some ⟨BC, 0, none⟩) n n) := at_cell (hB.2.1.1).1.h9 0; have cc_ : w'.cell? ⟨BC, jj, none⟩ = some (.int .i64 cj) := (by rw [at_cell (hB.2.1.1).1.hB jj, ar_get _ _ hjj, hcj]); have ca_ : w'.cell? ⟨BA, jj, none⟩ = some (.bool (a' jj)) := (by rw [at_cell (hB.2.1.1).2 jj, arb_get _ hjj]); go_simp; (try go_ints); (with_reducible rfl)
              · intro c; simp only [u_0, u_1, u_2, u_3, Nat.reduceAdd]; rfl
              refine v_val (v := .bool false) (a' := ?_) rfl (fun _ => by rfl) (by rfl) hS_ ?_ ?_ ?_
              rotate_left 1
              · intro l c w' hc hB; go_simp; (first | done | simp)
              · intro c; simp only [u_0, u_1, u_2, u_3, Nat.reduceAdd]; rfl
              refine v_val (v := ?_) (a' := ?_) rfl (fun _ => by rfl) (by rfl) hS_ ?_ ?_ ?_
              rotate_left 2
              · intro l c w' hc hB; go_simp; (try go_ints); (with_reducible rfl)
              · intro c; simp only [u_0, u_1, u_2, u_3, Nat.reduceAdd]; rfl
              refine v_val (v := ?_) (a' := ?_) rfl (fun _ => by rfl) (by rfl) hS_ ?_ ?_ ?_
              rotate_left 2
              · intro l c w' hc hB; have c9_ : w'.cell? ⟨B9, 0, none⟩ = some (.slice (some ⟨BC, 0, none⟩) n n) := at_cell (hB.2.1.1).1.h9 0; have cc_ : w'.cell? ⟨BC, jj, none⟩ = some (.int .i64 cj) := (by rw [at_cell (hB.2.1.1).1.hB jj, ar_get _ _ hjj, hcj]); have ca_ : w'.cell? ⟨BA, jj, none⟩ = some (.bool (a' jj)) := (by rw [at_cell (hB.2.1.1).2 jj, arb_get _ hjj]); go_simp; (try go_ints); (with_reducible rfl)
              · intro c; simp only [u_0, u_1, u_2, u_3, Nat.reduceAdd]; rfl
              refine v_val (v := ?_) (a' := ?_) rfl (fun _ => by rfl) (by rfl) hS_ ?_ ?_ ?_
              rotate_left 2
              · intro l c w' hc hB; go_simp; (try go_ints); (with_reducible rfl)
              · intro c; simp only [u_0, u_1, u_2, u_3, Nat.reduceAdd]; rfl
              refine v_val (v := ?_) (a' := ?_) rfl (fun _ => by rfl) (by rfl) hS_ ?_ ?_ ?_
              rotate_left 2
              · intro l c w' hc hB; go_simp; (try go_ints); (with_reducible rfl)
              · intro c; simp only [u_0, u_1, u_2, u_3, Nat.reduceAdd]; rfl
              refine v_val (v := .int .i64 cj) (a' := ?_) rfl (fun _ => by rfl) (by rfl) hS_ ?_ ?_ ?_
              rotate_left 1
              · intro l c w' hc hB; have c9_ : w'.cell? ⟨B9, 0, none⟩ = some (.slice (some ⟨BC, 0, none⟩) n n) := at_cell (hB.2.1.1).1.h9 0; have cc_ : w'.cell? ⟨BC, jj, none⟩ = some (.int .i64 cj) := (by rw [at_cell (hB.2.1.1).1.hB jj, ar_get _ _ hjj, hcj]); have ca_ : w'.cell? ⟨BA, jj, none⟩ = some (.bool (a' jj)) := (by rw [at_cell (hB.2.1.1).2 jj, arb_get _ hjj]); go_simp; (first | done | rfl)
              · intro c; simp only [u_0, u_1, u_2, u_3, Nat.reduceAdd]; rfl
              refine v_val (v := .bool false) (a' := ?_) rfl (fun _ => by rfl) (by rfl) hS_ ?_ ?_ ?_
              rotate_left 1
              · intro l c w' hc hB; go_simp; (first | done | (rw [← hcj]; cases a' jj <;> simp))
              · intro c; simp only [u_0, u_1, u_2, u_3, Nat.reduceAdd]; rfl
              refine v_val (v := ?_) (a' := ?_) rfl (fun _ => by rfl) (by rfl) hS_ ?_ ?_ ?_
              rotate_left 2
              · intro l c w' hc hB; go_simp; (try go_ints); (with_reducible rfl)
              · intro c; simp only [u_0, u_1, u_2, u_3, Nat.reduceAdd]; rfl
              refine v_nil ?_
              intro c W_ HS_ HF_ HV_
              (try simp only [Exit.then])
              (try dsimp only)
              clear HV_ hS_
              (try clear c)
              clear HS
              (try clear W)
              clear HF
              have HF__ := HF_
              clear HF_
              revert HF__
              revert HS_
              revert W_
              intro W HS HF
              have hA := HF.1
              clear HF HS hcj
              have hwj : wrap64 ((jj : Int) + 1) = (jj : Int) + 1 := w64 (by omega) (by omega)
              (try clear hlen); (try clear hlo); (try clear hlp); (try clear hnl); (try clear hn8); (try clear hio); (try clear hi40); (try clear hn0'); (try clear hkn'); (try clear hkl); (try clear hlC); (try clear hlpk); (try clear hklp); (try clear hpk); (try clear cP); (try clear c5); (try clear hadd); (try clear haddC); (try clear hkn); (try clear hBA0); (try clear LTn); (try clear hjj)
              go_wp2
              (try rw [hwj])
              refine round_end' hA ?_
              rfl
            · clear hA3
              intro g W hA
              have hnn : ¬ (n : Int) < (n : Int) := by omega
              have hwi : wrap64 ((i : Int) + 1) = (i : Int) + 1 := w64 (by omega) (by omega)
              (try clear hlen); (try clear hlo); (try clear hlp); (try clear hnl); (try clear hn8); (try clear hio); (try clear hi40); (try clear hn0'); (try clear hkn'); (try clear hkl); (try clear hlC); (try clear hlpk); (try clear hklp); (try clear hpk); (try clear cP); (try clear c5); (try clear hadd); (try clear haddC); (try clear hkn); (try clear hBA0); (try clear LTn)
              have hE : ∃ a, OA w n (some ada) len cap ans (some adp) lp cp pan B3 B5 B9 BC (some ad7) k7 Ls Vs BA a W := ⟨_, hA⟩
              have hE_ := Aside0.mk hE
              have hwi_ := Aside0.mk hwi
              clear hA hE hwi
              simp only [putF2, List.foldl_cons, List.foldl_nil, u_1, u_2, u_3, Nat.reduceAdd]
              go_wp2
              (try rw [hwi_.out])
              refine post_end hE_.out ?_
              kernel_rfl
      · have hklp : ¬ (k : Int) < (lp : Int) := by omega
        cases hak : a k with
        | true =>
          have hg : Calls Try.prog 12 #[ptr Ck] W_ (fun e w' => e = .returned (.tuple #[.int .i64 (ans k), .bool false]) ∧ Ch (fun x => x = BC ∨ x = Ck) W_ w' ∧ OS w n (some ada) len cap ans Ap lp cp pan B3 B5 B9 BC (some ad7) k7 Ls Vs (fun j => if (if j = k then true else a j) = true then 1 else 0) (fun j => if j = k then true else a j) w') := by
            have q_ := getO Y hkn hA.1 rfl
            rw [hCk] at q_
            refine q_.mono ?_
            rintro e w' ⟨rfl, hc, ho⟩
            refine ⟨by simp [vl, LzO.fl, hlpk, hak], hc, ?_⟩
            have e1 : (fun j => if j = k then (1 : Int) else if a j = true then 1 else 0) = (fun j => if (if j = k then true else a j) = true then 1 else 0) := funext fun j => by by_cases e : j = k <;> simp [e]
            rw [e1] at ho
            exact ho
          have cS : W_.cell? (ad7.add k) = some (ptr Ck) := by rw [← hCk]; exact OS.cellAt hA.1 hlenj hkn
          clear hA
          go_wp2_with (go_at_call 12; refine Calls.mono hg ?_; rintro e W2 ⟨rfl, hc2, hO2⟩; clear hg; have c3_ : W2.cell? ⟨B3, 0, none⟩ = some (.slice (some ada) len cap) := at_cell hO2.h3 0; have cA_ := hcS.out W2 hO2.bel; have hBA2 := hc2.at hBA (by rintro (x | x) <;> (have := LTn.bB; omega)); have cB_ : W2.cell? ⟨BA, k, none⟩ = some (.bool true) := (by rw [at_cell hBA2 k, arb_get _ hkn, hak]); have zB_ : W2.frozen? ⟨BA, k, none⟩ = false := at_free hBA2 k; clear hBA cS)
          have hA3 : OA w n (some ada) len cap ans Ap lp cp pan B3 B5 B9 BC (some ad7) k7 Ls Vs BA (fun j => if j = k then true else a j) (W2.setCell ⟨BA, k, none⟩ (.bool true)) := ⟨OS.far LTn hBA0 hO2 (Ch.set (S := (· = BA)) _ _ _ rfl), by have h_ := at_set hBA2 k (.bool true); rw [arb_set _ hkn] at h_; exact h_⟩
          clear hO2 hBA2 hc2 cB_ zB_ c3_ cA_ hcS hak
          generalize W2.setCell ⟨BA, k, none⟩ (.bool true) = W3 at *
          generalize (fun j => if j = k then true else a j) = a' at *
          refine loop_m (fun _ W => OA w n (some ada) len cap ans Ap lp cp pan B3 B5 B9 BC (some ad7) k7 Ls Vs BA a' W) [117, 118, 119, 120, 121, 122, 123, 124, 125, 126, 127, 128, 129, 130, 131, 132, 133, 134, 135, 136, 137, 138] (fun j => [(18, .int .i64 j)]) (n : Int) (by omega) (by simp only [putF2, List.foldl_cons, List.foldl_nil, u_1, u_2, u_3, Nat.reduceAdd]; rfl) hA3 ?_ ?_
          · clear hA3
            intro ji g W j0 j1 hA
            obtain ⟨jj, rfl⟩ := Int.eq_ofNat_of_zero_le j0
            have hjj : jj < n := by omega
            simp only [putF2, List.foldl_cons, List.foldl_nil, u_1, u_2, u_3, Nat.reduceAdd]
            go_wp2
            obtain ⟨cj, hcj⟩ : ∃ c : Int, (if a' jj = true then 1 else 0) = c := ⟨_, rfl⟩
            have HS := St.nil W
            have HF : OA w n (some ada) len cap ans Ap lp cp pan B3 B5 B9 BC (some ad7) k7 Ls Vs BA a' W ∧ True := ⟨hA, trivial⟩
            clear hA
            (with_reducible refine gate_region 30 true ?_)
            have hS_ : Rgw.Good ([] : List (Nat × (World → Value → Prop))) (fun x_ => OA w n (some ada) len cap ans Ap lp cp pan B3 B5 B9 BC (some ad7) k7 Ls Vs BA a' x_ ∧ True) := ⟨(by intro x hx; cases hx), (stays_and (by first | exact stays_C _ _ _ _ | exact stays_true | exact stays_oa _ _) stays_true)⟩
            refine region_v (w0 := W) [] (fun x_ => OA w n (some ada) len cap ans Ap lp cp pan B3 B5 B9 BC (some ad7) k7 Ls Vs BA a' x_ ∧ True) (by kernel_rfl) (by kernel_rfl) (by rfl) (by exact HS) (by exact HF) hS_ ?_
            refine v_val (v := ?_) (a' := ?_) rfl (fun _ => by rfl) (by rfl) hS_ ?_ ?_ ?_
            rotate_left 2
            · intro l c w' hc hB; have c9_ : w'.cell? ⟨B9, 0, none⟩ = some (.slice (some ⟨BC, 0, none⟩) n n) := at_cell (hB.2.1.1).1.h9 0; have cc_ : w'.cell? ⟨BC, jj, none⟩ = some (.int .i64 cj) := (by rw [at_cell (hB.2.1.1).1.hB jj, ar_get _ _ hjj, hcj]); have ca_ : w'.cell? ⟨BA, jj, none⟩ = some (.bool (a' jj)) := (by rw [at_cell (hB.2.1.1).2 jj, arb_get _ hjj]); go_simp; (try go_ints); (with_reducible rfl)
            · intro c; simp only [u_0, u_1, u_2, u_3, Nat.reduceAdd]; rfl
            refine v_val (v := ?_) (a' := ?_) rfl (fun _ => by rfl) (by rfl) hS_ ?_ ?_ ?_
            rotate_left 2
            · intro l c w' hc hB; go_simp; (try go_ints); (with_reducible rfl)
            · intro c; simp only [u_0, u_1, u_2, u_3, Nat.reduceAdd]; rfl
            refine v_val (v := ?_) (a' := ?_) rfl (fun _ => by rfl) (by rfl) hS_ ?_ ?_ ?_
            rotate_left 2
            · intro l c w' hc hB; go_simp; (try go_ints); (with_reducible rfl)
            · intro c; simp only [u_0, u_1, u_2, u_3, Nat.reduceAdd]; rfl
            refine v_val (v := .int .i64 cj) (a' := ?_) rfl (fun _ => by rfl) (by rfl) hS_ ?_ ?_ ?_
            rotate_left 1
            · intro l c w' hc hB; have c9_ : w'.cell? ⟨B9, 0, none⟩ = some (.slice (some ⟨BC, 0, none⟩) n n) := at_cell (hB.2.1.1).1.h9 0; have cc_ : w'.cell? ⟨BC, jj, none⟩ = some (.int .i64 cj) := (by rw [at_cell (hB.2.1.1).1.hB jj, ar_get _ _ hjj, hcj]); have ca_ : w'.cell? ⟨BA, jj, none⟩ = some (.bool (a' jj)) := (by rw [at_cell (hB.2.1.1).2 jj, arb_get _ hjj]); go_simp; (first | done | rfl)
            · intro c; simp only [u_0, u_1, u_2, u_3, Nat.reduceAdd]; rfl
            refine v_val (v := .bool (a' jj)) (a' := ?_) rfl (fun _ => by rfl) (by rfl) hS_ ?_ ?_ ?_
            rotate_left 1
            · intro l c w' hc hB; go_simp; (first | done | (rw [← hcj]; cases a' jj <;> simp))
            · intro c; simp only [u_0, u_1, u_2, u_3, Nat.reduceAdd]; rfl
            refine v_val (v := ?_) (a' := ?_) rfl (fun _ => by rfl) (by rfl) hS_ ?_ ?_ ?_
            rotate_left 2
            · intro l c w' hc hB; go_simp; (try go_ints); (with_reducible rfl)
            · intro c; simp only [u_0, u_1, u_2, u_3, Nat.reduceAdd]; rfl
            refine v_val (v := ?_) (a' := ?_) rfl (fun _ => by rfl) (by rfl) hS_ ?_ ?_ ?_
            rotate_left 2
            · intro l c w' hc hB; go_simp; (try go_ints); (with_reducible rfl)
            · intro c; simp only [u_0, u_1, u_2, u_3, Nat.reduceAdd]; rfl
            refine v_val (v := ?_) (a' := ?_) rfl (fun _ => by rfl) (by rfl) hS_ ?_ ?_ ?_
            rotate_left 2
            · intro l c w' hc hB; go_simp; (try go_ints); (with_reducible rfl)
            · intro c; simp only [u_0, u_1, u_2, u_3, Nat.reduceAdd]; rfl
            refine v_val (v := ?_) (a' := ?_) rfl (fun _ => by rfl) (by rfl) hS_ ?_ ?_ ?_
            rotate_left 2
            · intro l c w' hc hB; have c9_ : w'.cell? ⟨B9, 0, none⟩ = some (.slice (some ⟨BC, 0, none⟩) n n) := at_cell (hB.2.1.1).1.h9 0; have cc_ : w'.cell? ⟨BC, jj, none⟩ = some (.int .i64 cj) := (by rw [at_cell (hB.2.1.1).1.hB jj, ar_get _ _ hjj, hcj]); have ca_ : w'.cell? ⟨BA, jj, none⟩ = some (.bool (a' jj)) := (by rw [at_cell (hB.2.1.1).2 jj, arb_get _ hjj]); go_simp; (try go_ints); (with_reducible rfl)
            · intro c; simp only [u_0, u_1, u_2, u_3, Nat.reduceAdd]; rfl
            refine v_val (v := .bool false) (a' := ?_) rfl (fun _ => by rfl) (by rfl) hS_ ?_ ?_ ?_
            rotate_left 1
            · intro l c w' hc hB; go_simp; (first | done | simp)
            · intro c; simp only [u_0, u_1, u_2, u_3, Nat.reduceAdd]; rfl
            refine v_val (v := ?_) (a' := ?_) rfl (fun _ => by rfl) (by rfl) hS_ ?_ ?_ ?_
            rotate_left 2
            · intro l c w' hc hB; go_simp; (try go_ints); (with_reducible rfl)
            · intro c; simp only [u_0, u_1, u_2, u_3, Nat.reduceAdd]; rfl
            refine v_val (v := ?_) (a' := ?_) rfl (fun _ => by rfl) (by rfl) hS_ ?_ ?_ ?_
            rotate_left 2
            · intro l c w' hc hB; have c9_ : w'.cell? ⟨B9, 0, none⟩ = some (.slice (some ⟨BC, 0, none⟩) n n) := at_cell (hB.2.1.1).1.h9 0; have cc_ : w'.cell? ⟨BC, jj, none⟩ = some (.int .i64 cj) := (by rw [at_cell (hB.2.1.1).1.hB jj, ar_get _ _ hjj, hcj]); have ca_ : w'.cell? ⟨BA, jj, none⟩ = some (.bool (a' jj)) := (by rw [at_cell (hB.2.1.1).2 jj, arb_get _ hjj]); go_simp; (try go_ints); (with_reducible rfl)
            · intro c; simp only [u_0, u_1, u_2, u_3, Nat.reduceAdd]; rfl
            refine v_val (v := ?_) (a' := ?_) rfl (fun _ => by rfl) (by rfl) hS_ ?_ ?_ ?_
            rotate_left 2
            · intro l c w' hc hB; go_simp; (try go_ints); (with_reducible rfl)
            · intro c; simp only [u_0, u_1, u_2, u_3, Nat.reduceAdd]; rfl
            refine v_val (v := ?_) (a' := ?_) rfl (fun _ => by rfl) (by rfl) hS_ ?_ ?_ ?_
            rotate_left 2
            · intro l c w' hc hB; go_simp; (try go_ints); (with_reducible rfl)
            · intro c; simp only [u_0, u_1, u_2, u_3, Nat.reduceAdd]; rfl
            refine v_val (v := .int .i64 cj) (a' := ?_) rfl (fun _ => by rfl) (by rfl) hS_ ?_ ?_ ?_
            rotate_left 1
            · intro l c w' hc hB; have c9_ : w'.cell? ⟨B9, 0, none⟩ = some (.slice (some ⟨BC, 0, none⟩) n n) := at_cell (hB.2.1.1).1.h9 0; have cc_ : w'.cell? ⟨BC, jj, none⟩ = some (.int .i64 cj) := (by rw [at_cell (hB.2.1.1).1.hB jj, ar_get _ _ hjj, hcj]); have ca_ : w'.cell? ⟨BA, jj, none⟩ = some (.bool (a' jj)) := (by rw [at_cell (hB.2.1.1).2 jj, arb_get _ hjj]); go_simp; (first | done | rfl)
            · intro c; simp only [u_0, u_1, u_2, u_3, Nat.reduceAdd]; rfl
            refine v_val (v := .bool false) (a' := ?_) rfl (fun _ => by rfl) (by rfl) hS_ ?_ ?_ ?_
            rotate_left 1
            · intro l c w' hc hB; go_simp; (first | done | (rw [← hcj]; cases a' jj <;> simp))
            · intro c; simp only [u_0, u_1, u_2, u_3, Nat.reduceAdd]; rfl
            refine v_val (v := ?_) (a' := ?_) rfl (fun _ => by rfl) (by rfl) hS_ ?_ ?_ ?_
            rotate_left 2
            · intro l c w' hc hB; go_simp; (try go_ints); (with_reducible rfl)
            · intro c; simp only [u_0, u_1, u_2, u_3, Nat.reduceAdd]; rfl
            refine v_nil ?_
            intro c W_ HS_ HF_ HV_
            (try simp only [Exit.then])
            (try dsimp only)
            clear HV_ hS_
            (try clear c)
            clear HS
            (try clear W)
            clear HF
            have HF__ := HF_
            clear HF_
            revert HF__
            revert HS_
            revert W_
            intro W HS HF
            have hA := HF.1
            clear HF HS hcj
            have hwj : wrap64 ((jj : Int) + 1) = (jj : Int) + 1 := w64 (by omega) (by omega)
            (try clear hlen); (try clear hlo); (try clear hlp); (try clear hnl); (try clear hn8); (try clear hio); (try clear hi40); (try clear hn0'); (try clear hkn'); (try clear hkl); (try clear hlC); (try clear hlpk); (try clear hklp); (try clear hpk); (try clear cP); (try clear c5); (try clear hadd); (try clear haddC); (try clear hkn); (try clear hBA0); (try clear LTn); (try clear hjj)
            go_wp2
            (try rw [hwj])
            refine round_end' hA ?_
            rfl
          · clear hA3
            intro g W hA
            have hnn : ¬ (n : Int) < (n : Int) := by omega
            have hwi : wrap64 ((i : Int) + 1) = (i : Int) + 1 := w64 (by omega) (by omega)
            (try clear hlen); (try clear hlo); (try clear hlp); (try clear hnl); (try clear hn8); (try clear hio); (try clear hi40); (try clear hn0'); (try clear hkn'); (try clear hkl); (try clear hlC); (try clear hlpk); (try clear hklp); (try clear hpk); (try clear cP); (try clear c5); (try clear hadd); (try clear haddC); (try clear hkn); (try clear hBA0); (try clear LTn)
            have hE : ∃ a, OA w n (some ada) len cap ans Ap lp cp pan B3 B5 B9 BC (some ad7) k7 Ls Vs BA a W := ⟨_, hA⟩
            have hE_ := Aside0.mk hE
            have hwi_ := Aside0.mk hwi
            clear hA hE hwi
            simp only [putF2, List.foldl_cons, List.foldl_nil, u_1, u_2, u_3, Nat.reduceAdd]
            go_wp2
            (try rw [hwi_.out])
            refine post_end hE_.out ?_
            kernel_rfl
        | false =>
          have hg : Calls Try.prog 12 #[ptr Ck] W_ (fun e w' => e = .returned (.tuple #[.int .i64 (ans k), .bool false]) ∧ Ch (fun x => x = BC ∨ x = Ck) W_ w' ∧ OS w n (some ada) len cap ans Ap lp cp pan B3 B5 B9 BC (some ad7) k7 Ls Vs (fun j => if (if j = k then true else a j) = true then 1 else 0) (fun j => if j = k then true else a j) w') := by
            have q_ := getO Y hkn hA.1 rfl
            rw [hCk] at q_
            refine q_.mono ?_
            rintro e w' ⟨rfl, hc, ho⟩
            refine ⟨by simp [vl, LzO.fl, hlpk, hak], hc, ?_⟩
            have e1 : (fun j => if j = k then (1 : Int) else if a j = true then 1 else 0) = (fun j => if (if j = k then true else a j) = true then 1 else 0) := funext fun j => by by_cases e : j = k <;> simp [e]
            rw [e1] at ho
            exact ho
          have cS : W_.cell? (ad7.add k) = some (ptr Ck) := by rw [← hCk]; exact OS.cellAt hA.1 hlenj hkn
          clear hA
          go_wp2_with (go_at_call 12; refine Calls.mono hg ?_; rintro e W2 ⟨rfl, hc2, hO2⟩; clear hg; have c3_ : W2.cell? ⟨B3, 0, none⟩ = some (.slice (some ada) len cap) := at_cell hO2.h3 0; have cA_ := hcS.out W2 hO2.bel; have hBA2 := hc2.at hBA (by rintro (x | x) <;> (have := LTn.bB; omega)); have cB_ : W2.cell? ⟨BA, k, none⟩ = some (.bool false) := (by rw [at_cell hBA2 k, arb_get _ hkn, hak]); have zB_ : W2.frozen? ⟨BA, k, none⟩ = false := at_free hBA2 k; clear hBA cS)
          have hA3 : OA w n (some ada) len cap ans Ap lp cp pan B3 B5 B9 BC (some ad7) k7 Ls Vs BA (fun j => if j = k then true else a j) (W2.setCell ⟨BA, k, none⟩ (.bool true)) := ⟨OS.far LTn hBA0 hO2 (Ch.set (S := (· = BA)) _ _ _ rfl), by have h_ := at_set hBA2 k (.bool true); rw [arb_set _ hkn] at h_; exact h_⟩
          clear hO2 hBA2 hc2 cB_ zB_ c3_ cA_ hcS hak
          generalize W2.setCell ⟨BA, k, none⟩ (.bool true) = W3 at *
          generalize (fun j => if j = k then true else a j) = a' at *
          refine loop_m (fun _ W => OA w n (some ada) len cap ans Ap lp cp pan B3 B5 B9 BC (some ad7) k7 Ls Vs BA a' W) [117, 118, 119, 120, 121, 122, 123, 124, 125, 126, 127, 128, 129, 130, 131, 132, 133, 134, 135, 136, 137, 138] (fun j => [(18, .int .i64 j)]) (n : Int) (by omega) (by simp only [putF2, List.foldl_cons, List.foldl_nil, u_1, u_2, u_3, Nat.reduceAdd]; rfl) hA3 ?_ ?_
          · clear hA3
            intro ji g W j0 j1 hA
            obtain ⟨jj, rfl⟩ := Int.eq_ofNat_of_zero_le j0
            have hjj : jj < n := by omega
            simp only [putF2, List.foldl_cons, List.foldl_nil, u_1, u_2, u_3, Nat.reduceAdd]
            go_wp2
            obtain ⟨cj, hcj⟩ : ∃ c : Int, (if a' jj = true then 1 else 0) = c := ⟨_, rfl⟩
            have HS := St.nil W
            have HF : OA w n (some ada) len cap ans Ap lp cp pan B3 B5 B9 BC (some ad7) k7 Ls Vs BA a' W ∧ True := ⟨hA, trivial⟩
            clear hA
            (with_reducible refine gate_region 30 true ?_)
            have hS_ : Rgw.Good ([] : List (Nat × (World → Value → Prop))) (fun x_ => OA w n (some ada) len cap ans Ap lp cp pan B3 B5 B9 BC (some ad7) k7 Ls Vs BA a' x_ ∧ True) := ⟨(by intro x hx; cases hx), (stays_and (by first | exact stays_C _ _ _ _ | exact stays_true | exact stays_oa _ _) stays_true)⟩
            refine region_v (w0 := W) [] (fun x_ => OA w n (some ada) len cap ans Ap lp cp pan B3 B5 B9 BC (some ad7) k7 Ls Vs BA a' x_ ∧ True) (by kernel_rfl) (by kernel_rfl) (by rfl) (by exact HS) (by exact HF) hS_ ?_
            refine v_val (v := ?_) (a' := ?_) rfl (fun _ => by rfl) (by rfl) hS_ ?_ ?_ ?_
            rotate_left 2
            · intro l c w' hc hB; have c9_ : w'.cell? ⟨B9, 0, none⟩ = some (.slice (some ⟨BC, 0, none⟩) n n) := at_cell (hB.2.1.1).1.h9 0; have cc_ : w'.cell? ⟨BC, jj, none⟩ = some (.int .i64 cj) := (by rw [at_cell (hB.2.1.1).1.hB jj, ar_get _ _ hjj, hcj]); have ca_ : w'.cell? ⟨BA, jj, none⟩ = some (.bool (a' jj)) := (by rw [at_cell (hB.2.1.1).2 jj, arb_get _ hjj]); go_simp; (try go_ints); (with_reducible rfl)
            · intro c; simp only [u_0, u_1, u_2, u_3, Nat.reduceAdd]; rfl
            refine v_val (v := ?_) (a' := ?_) rfl (fun _ => by rfl) (by rfl) hS_ ?_ ?_ ?_
            rotate_left 2
            · intro l c w' hc hB; go_simp; (try go_ints); (with_reducible rfl)
            · intro c; simp only [u_0, u_1, u_2, u_3, Nat.reduceAdd]; rfl
            refine v_val (v := ?_) (a' := ?_) rfl (fun _ => by rfl) (by rfl) hS_ ?_ ?_ ?_
            rotate_left 2
            · intro l c w' hc hB; go_simp; (try go_ints); (with_reducible rfl)
            · intro c; simp only [u_0, u_1, u_2, u_3, Nat.reduceAdd]; rfl
            refine v_val (v := .int .i64 cj) (a' := ?_) rfl (fun _ => by rfl) (by rfl) hS_ ?_ ?_ ?_
            rotate_left 1
            · intro l c w' hc hB; have c9_ : w'.cell? ⟨B9, 0, none⟩ = some (.slice (some ⟨BC, 0, none⟩) n n) := at_cell (hB.2.1.1).1.h9 0; have cc_ : w'.cell? ⟨BC, jj, none⟩ = some (.int .i64 cj) := (by rw [at_cell (hB.2.1.1).1.hB jj, ar_get _ _ hjj, hcj]); have ca_ : w'.cell? ⟨BA, jj, none⟩ = some (.bool (a' jj)) := (by rw [at_cell (hB.2.1.1).2 jj, arb_get _ hjj]); go_simp; (first | done | rfl)
            · intro c; simp only [u_0, u_1, u_2, u_3, Nat.reduceAdd]; rfl
            refine v_val (v := .bool (a' jj)) (a' := ?_) rfl (fun _ => by rfl) (by rfl) hS_ ?_ ?_ ?_
            rotate_left 1
            · intro l c w' hc hB; go_simp; (first | done | (rw [← hcj]; cases a' jj <;> simp))
            · intro c; simp only [u_0, u_1, u_2, u_3, Nat.reduceAdd]; rfl
            refine v_val (v := ?_) (a' := ?_) rfl (fun _ => by rfl) (by rfl) hS_ ?_ ?_ ?_
            rotate_left 2
            · intro l c w' hc hB; go_simp; (try go_ints); (with_reducible rfl)
            · intro c; simp only [u_0, u_1, u_2, u_3, Nat.reduceAdd]; rfl
            refine v_val (v := ?_) (a' := ?_) rfl (fun _ => by rfl) (by rfl) hS_ ?_ ?_ ?_
            rotate_left 2
            · intro l c w' hc hB; go_simp; (try go_ints); (with_reducible rfl)
            · intro c; simp only [u_0, u_1, u_2, u_3, Nat.reduceAdd]; rfl
            refine v_val (v := ?_) (a' := ?_) rfl (fun _ => by rfl) (by rfl) hS_ ?_ ?_ ?_
            rotate_left 2
            · intro l c w' hc hB; go_simp; (try go_ints); (with_reducible rfl)
            · intro c; simp only [u_0, u_1, u_2, u_3, Nat.reduceAdd]; rfl
            refine v_val (v := ?_) (a' := ?_) rfl (fun _ => by rfl) (by rfl) hS_ ?_ ?_ ?_
            rotate_left 2
            · intro l c w' hc hB; have c9_ : w'.cell? ⟨B9, 0, none⟩ = some (.slice (some ⟨BC, 0, none⟩) n n) := at_cell (hB.2.1.1).1.h9 0; have cc_ : w'.cell? ⟨BC, jj, none⟩ = some (.int .i64 cj) := (by rw [at_cell (hB.2.1.1).1.hB jj, ar_get _ _ hjj, hcj]); have ca_ : w'.cell? ⟨BA, jj, none⟩ = some (.bool (a' jj)) := (by rw [at_cell (hB.2.1.1).2 jj, arb_get _ hjj]); go_simp; (try go_ints); (with_reducible rfl)
            · intro c; simp only [u_0, u_1, u_2, u_3, Nat.reduceAdd]; rfl
            refine v_val (v := .bool false) (a' := ?_) rfl (fun _ => by rfl) (by rfl) hS_ ?_ ?_ ?_
            rotate_left 1
            · intro l c w' hc hB; go_simp; (first | done | simp)
            · intro c; simp only [u_0, u_1, u_2, u_3, Nat.reduceAdd]; rfl
            refine v_val (v := ?_) (a' := ?_) rfl (fun _ => by rfl) (by rfl) hS_ ?_ ?_ ?_
            rotate_left 2
            · intro l c w' hc hB; go_simp; (try go_ints); (with_reducible rfl)
            · intro c; simp only [u_0, u_1, u_2, u_3, Nat.reduceAdd]; rfl
            refine v_val (v := ?_) (a' := ?_) rfl (fun _ => by rfl) (by rfl) hS_ ?_ ?_ ?_
            rotate_left 2
            · intro l c w' hc hB; have c9_ : w'.cell? ⟨B9, 0, none⟩ = some (.slice (some ⟨BC, 0, none⟩) n n) := at_cell (hB.2.1.1).1.h9 0; have cc_ : w'.cell? ⟨BC, jj, none⟩ = some (.int .i64 cj) := (by rw [at_cell (hB.2.1.1).1.hB jj, ar_get _ _ hjj, hcj]); have ca_ : w'.cell? ⟨BA, jj, none⟩ = some (.bool (a' jj)) := (by rw [at_cell (hB.2.1.1).2 jj, arb_get _ hjj]); go_simp; (try go_ints); (with_reducible rfl)
            · intro c; simp only [u_0, u_1, u_2, u_3, Nat.reduceAdd]; rfl
            refine v_val (v := ?_) (a' := ?_) rfl (fun _ => by rfl) (by rfl) hS_ ?_ ?_ ?_
            rotate_left 2
            · intro l c w' hc hB; go_simp; (try go_ints); (with_reducible rfl)
            · intro c; simp only [u_0, u_1, u_2, u_3, Nat.reduceAdd]; rfl
            refine v_val (v := ?_) (a' := ?_) rfl (fun _ => by rfl) (by rfl) hS_ ?_ ?_ ?_
            rotate_left 2
            · intro l c w' hc hB; go_simp; (try go_ints); (with_reducible rfl)
            · intro c; simp only [u_0, u_1, u_2, u_3, Nat.reduceAdd]; rfl
            refine v_val (v := .int .i64 cj) (a' := ?_) rfl (fun _ => by rfl) (by rfl) hS_ ?_ ?_ ?_
            rotate_left 1
            · intro l c w' hc hB; have c9_ : w'.cell? ⟨B9, 0, none⟩ = some (.slice (some ⟨BC, 0, none⟩) n n) := at_cell (hB.2.1.1).1.h9 0; have cc_ : w'.cell? ⟨BC, jj, none⟩ = some (.int .i64 cj) := (by rw [at_cell (hB.2.1.1).1.hB jj, ar_get _ _ hjj, hcj]); have ca_ : w'.cell? ⟨BA, jj, none⟩ = some (.bool (a' jj)) := (by rw [at_cell (hB.2.1.1).2 jj, arb_get _ hjj]); go_simp; (first | done | rfl)
            · intro c; simp only [u_0, u_1, u_2, u_3, Nat.reduceAdd]; rfl
            refine v_val (v := .bool false) (a' := ?_) rfl (fun _ => by rfl) (by rfl) hS_ ?_ ?_ ?_
            rotate_left 1
            · intro l c w' hc hB; go_simp; (first | done | (rw [← hcj]; cases a' jj <;> simp))
            · intro c; simp only [u_0, u_1, u_2, u_3, Nat.reduceAdd]; rfl
            refine v_val (v := ?_) (a' := ?_) rfl (fun _ => by rfl) (by rfl) hS_ ?_ ?_ ?_
            rotate_left 2
            · intro l c w' hc hB; go_simp; (try go_ints); (with_reducible rfl)
            · intro c; simp only [u_0, u_1, u_2, u_3, Nat.reduceAdd]; rfl
            refine v_nil ?_
            intro c W_ HS_ HF_ HV_
            (try simp only [Exit.then])
            (try dsimp only)
            clear HV_ hS_
            (try clear c)
            clear HS
            (try clear W)
            clear HF
            have HF__ := HF_
            clear HF_
            revert HF__
            revert HS_
            revert W_
            intro W HS HF
            have hA := HF.1
            clear HF HS hcj
            have hwj : wrap64 ((jj : Int) + 1) = (jj : Int) + 1 := w64 (by omega) (by omega)
            (try clear hlen); (try clear hlo); (try clear hlp); (try clear hnl); (try clear hn8); (try clear hio); (try clear hi40); (try clear hn0'); (try clear hkn'); (try clear hkl); (try clear hlC); (try clear hlpk); (try clear hklp); (try clear hpk); (try clear cP); (try clear c5); (try clear hadd); (try clear haddC); (try clear hkn); (try clear hBA0); (try clear LTn); (try clear hjj)
            go_wp2
            (try rw [hwj])
            refine round_end' hA ?_
            rfl
          · clear hA3
            intro g W hA
            have hnn : ¬ (n : Int) < (n : Int) := by omega
            have hwi : wrap64 ((i : Int) + 1) = (i : Int) + 1 := w64 (by omega) (by omega)
            (try clear hlen); (try clear hlo); (try clear hlp); (try clear hnl); (try clear hn8); (try clear hio); (try clear hi40); (try clear hn0'); (try clear hkn'); (try clear hkl); (try clear hlC); (try clear hlpk); (try clear hklp); (try clear hpk); (try clear cP); (try clear c5); (try clear hadd); (try clear haddC); (try clear hkn); (try clear hBA0); (try clear LTn)
            have hE : ∃ a, OA w n (some ada) len cap ans Ap lp cp pan B3 B5 B9 BC (some ad7) k7 Ls Vs BA a W := ⟨_, hA⟩
            have hE_ := Aside0.mk hE
            have hwi_ := Aside0.mk hwi
            clear hA hE hwi
            simp only [putF2, List.foldl_cons, List.foldl_nil, u_1, u_2, u_3, Nat.reduceAdd]
            go_wp2
            (try rw [hwi_.out])
            refine post_end hE_.out ?_
            kernel_rfl
    · clear hA1
      intro g W hM
      obtain ⟨a, hA⟩ := hM
      have hbel := hA.1.bel
      clear hA KP_ ho_ r3
      (try clear hlen); (try clear hlo); (try clear hlp); (try clear hnl); (try clear hn8); (try clear hadd); (try clear haddC); (try clear LTn); (try clear hBA0)
      simp only [putF2, List.foldl_cons, List.foldl_nil, u_1, u_2, u_3, Nat.reduceAdd]
      rcases r4 with r4 | r4 | r4
      · subst r4
        have h1 : ¬ (r0 : Int) < (r0 : Int) := by omega
        go_wp2
        go_ret
        exact ⟨rfl, hbel⟩
      · subst r4
        have h1 : ¬ ((40 : Nat) : Int) < 40 := by omega
        have h2 : ¬ (40 : Int) < 40 := by omega
        rcases (show (40 : Int) < (lo : Int) ∨ ¬ (40 : Int) < (lo : Int) by omega) with h3 | h3
        · go_wp2
          go_ret
          exact ⟨rfl, hbel⟩
        · go_wp2
          go_ret
          exact ⟨rfl, hbel⟩
      · subst r4
        rcases (show (r0 : Int) < (lo : Int) ∨ ¬ (r0 : Int) < (lo : Int) by omega) with h3 | h3
        · rcases (show (r0 : Int) < 40 ∨ ¬ (r0 : Int) < 40 by omega) with h4 | h4
          · go_wp2
            go_ret
            exact ⟨rfl, hbel⟩
          · go_wp2
            go_ret
            exact ⟨rfl, hbel⟩
        · go_wp2
          go_ret
          exact ⟨rfl, hbel⟩
theorem lift {f : FuncId} {args : Array Value} {w : World} {v : Value} (h : Calls Try.prog f args w fun e w' => e = .returned v ∧ Drawn0 w w') : Ret f args w v := h.mono fun _ _ ⟨a, b⟩ => ⟨a, b.below⟩
theorem walk (a : Option Addr) (len cap : Nat) (z : List Int) (ao : Option Addr) (lo co : Nat) (zo : List Int) (ap : Option Addr) (lp cp : Nat) (pan : Nat → Bool) (w : World) (w0 : Arr.IsRow .i64 w a len cap z) (y0 : len * 8 ≤ 140737488351232) (w1 : Arr.IsRow .i64 w ao lo co zo) (y1 : lo * 8 ≤ 140737488351232) (w2 : Srb pan ap lp w) (y2 : lp ≤ maxLen) :
    Ret 3 #[.slice a len cap, .slice ao lo co, .slice ap lp cp] w (.bool true) := by
  refine walk_ a len cap (fun i => z.getD i 0) ao lo co (fun i => zo.getD i 0) ap lp cp pan w (by omega) (by omega) (by unfold maxLen at y2; omega) (min len 8) (by unfold mn; omega) (by omega) (by omega) (fun i hi => ?_) (fun i hi => ?_) w2 known_ (fun hn q w => by first | exact versalhand_Pick.calls _ _ _ w (pick_f (by omega) (by omega)) | exact lift (versalhand_Pick.calls _ _ _ w (pick_f (by omega) (by omega))))
  · rcases w0 with ⟨_, h, _, _⟩ | ⟨ad, rfl, h1, _, h3, h4, _⟩
    · omega
    · exact ⟨ad, rfl, h4 i (by omega)⟩
  · rcases w1 with ⟨_, h, _, _⟩ | ⟨ad, rfl, h1, _, h3, h4, _⟩
    · omega
    · exact ⟨ad, rfl, h4 i (by omega)⟩

end Go.Proofs.Ythnkmadipbfmaaa.WalkLazyOnce
