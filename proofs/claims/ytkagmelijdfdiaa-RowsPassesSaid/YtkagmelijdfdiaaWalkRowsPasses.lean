/- RowsPasses returns true at every input. -/
import Derived.Test.YtkagmelijdfdiaaPRowsPassesx2
import Derived.Test.YtkagmelijdfdiaaPsB
import Derived.Test.YtkagmelijdfdiaaChp
import Derived.Test.YtkagmelijdfdiaaLpj
import Derived.Test.YtkagmelijdfdiaaRwd
import Derived.Deep.WholeRow
namespace Go.Proofs.Ytkagmelijdfdiaa.WalkRowsPasses
open Go.RowKit Go.Proofs.YtkagmelijdfdiaaW.PrintWords Go.Proofs.YtkagmelijdfdiaaW.PrintLast Go.Proofs.YtkagmelijdfdiaaW.PrintMore Go.Proofs.Ytkagmelijdfdiaa.PRowsPasses Go.Proofs.Ytkagmelijdfdiaa.M Go.Proofs.Ytkagmelijdfdiaa.Reg Go.Proofs.Ytkagmelijdfdiaa.Chp Go.Proofs.Ytkagmelijdfdiaa.Rgw Go.Proofs.Ytkagmelijdfdiaa.Rwd Go.Proofs.Ytkagmelijdfdiaa.PsA Go.Proofs.Ytkagmelijdfdiaa.PsB
attribute [local go_sem] max2_mx min2_mn max_two min_two max_three min_three max_four min_four
set_option linter.unusedVariables false
set_option linter.unusedSimpArgs false

theorem pick_f {n m : Int} (h1 : 0 < m) (h2 : m ≤ 9223372036854775807) : versalhand_Pick.f n m = some (n % m) := by
  have ha := Int.lt_tmod_of_pos n h1
  have hb := Int.tmod_lt_of_pos n h1
  rw [← tmod_pick h1]
  unfold versalhand_Pick.f
  rw [if_neg (by omega)]
  by_cases h : n.tmod m < 0
  · rw [if_pos h, if_pos h, w64 (by omega) (by omega)]
  · rw [if_neg h, if_neg h]

abbrev Ret (f : FuncId) (args : Array Value) (w : World) (v : Value) : Prop := Calls Try.prog f args w fun e w' => e = .returned v ∧ Below w.heap.size w w'
theorem lift {f : FuncId} {args : Array Value} {w : World} {v : Value} (h : Calls Try.prog f args w fun e w' => e = .returned v ∧ Drawn0 w w') : Ret f args w v := h.mono fun _ _ ⟨a, b⟩ => ⟨a, b.below⟩
theorem zero37 (w : World) : (zeroValue 37).run Try.prog w = .ok (.agg (ab fun _ _ => false)) w := by
  have h : Value.agg (Array.replicate 1600 (.bool false)) = .agg (ab fun _ _ => false) := by kernel_rfl
  rw [← h]
  exact (Go.zero_of_info (P := Try.prog) (t := 37) (v := .agg (Array.replicate 1600 (.bool false))) (n := 1600) (by kernel_rfl)).1 w
/-- the list of passes in memory, and not in block B -/
def Sp (L : List S41) (A : Option Addr) (B : Nat) (w : World) : Prop := ∀ t s, L[t]? = some s → ∃ ad, A = some ad ∧ (ad.add (t * 6)).block ≠ B ∧ w.cell? (ad.add (t * 6)) = some (.int .i64 s.f0) ∧ w.cell? ⟨(ad.add (t * 6)).block, (ad.add (t * 6)).off + 1, none⟩ = some (.int .i64 s.f1) ∧ w.cell? ⟨(ad.add (t * 6)).block, (ad.add (t * 6)).off + 2, none⟩ = some (.int .i64 s.f2) ∧ w.cell? ⟨(ad.add (t * 6)).block, (ad.add (t * 6)).off + 3, none⟩ = some (.int .i64 s.f3) ∧ w.cell? ⟨(ad.add (t * 6)).block, (ad.add (t * 6)).off + 4, none⟩ = some (.int .i64 s.f4) ∧ w.cell? ⟨(ad.add (t * 6)).block, (ad.add (t * 6)).off + 5, none⟩ = some (.int .i64 s.f5)
theorem cell_ch {S : Nat → Prop} {w w' : World} (h : Ch S w w') {a : Addr} {v : Value} (hc : w.cell? a = some v) (hn : ¬ S a.block) : w'.cell? a = some v := by
  have hk := h.keep a.block (World.block_lt_of_cell? w _ hc) hn
  unfold World.cell? at hc ⊢
  rw [hk]; exact hc
theorem Sp.ch {L : List S41} {A : Option Addr} {B : Nat} {w w' : World} (h : Sp L A B w) (hc : Ch (· = B) w w') : Sp L A B w' := fun t s ht => by
  obtain ⟨ad, hA, hb, h0, h1, h2, h3, h4, h5⟩ := h t s ht
  exact ⟨ad, hA, hb, cell_ch hc h0 hb, cell_ch hc h1 hb, cell_ch hc h2 hb, cell_ch hc h3 hb, cell_ch hc h4 hb, cell_ch hc h5 hb⟩
theorem Sp.of_C {L : List S41} {A : Option Addr} {B : Nat} {w : World} {z : Nat → Nat → Bool} (h : Kd.C k41 w A L.length L) (hB : w.heap[B]? = some (.cells (ab z) 37 (0, 0))) : Sp L A B w := fun t s ht => by
  have htl : t < L.length := by
    rcases Nat.lt_or_ge t L.length with h1 | h1
    · exact h1
    · rw [List.getElem?_eq_none h1] at ht; cases ht
  obtain ⟨ad, hA, h0, h1, h2, h3, h4, h5⟩ := at_T41 h (t : Int) (by omega) (by omega)
  have hrd : rd_T41 L (t : Int) = s := by unfold rd_T41; rw [Int.toNat_natCast, List.getD_eq_getElem?_getD, ht]; rfl
  rw [hrd] at h0 h1 h2 h3 h4 h5
  simp only [Int.toNat_natCast] at h0 h1 h2 h3 h4 h5
  refine ⟨ad, hA, fun e => ?_, h0, h1, h2, h3, h4, h5⟩
  rw [e, at_cell hB] at h1
  simp [ab] at h1
/-- the memory of the walk: what is set, the list, and nothing of the caller's has changed -/
structure PS (w0 : World) (L : List S41) (A : Option Addr) (B : Nat) (z : Nat → Nat → Bool) (w : World) : Prop where
  hB : w.heap[B]? = some (.cells (ab z) 37 (0, 0))
  sp : Sp L A B w
  bel : Below w0.heap.size w0 w
  ge : w0.heap.size ≤ B
theorem PS.step {w0 : World} {L : List S41} {A : Option Addr} {B : Nat} {z : Nat → Nat → Bool} {w w' : World} (h : PS w0 L A B z w) (hb : Below w.heap.size w w') : PS w0 L A B z w' :=
  ⟨(hb.block B (at_lt h.hB)).trans h.hB, h.sp.ch (Ch.of_below hb (fun k h1 h2 => absurd h1 (by omega))), Go.Proofs.YtkagmelijdfdiaaW.PrintWords.below_step h.bel hb, h.ge⟩
theorem PS.set {w0 : World} {L : List S41} {A : Option Addr} {B : Nat} {z : Nat → Nat → Bool} {w : World} (h : PS w0 L A B z w) {x y : Nat} (hx : x < 40) (hy : y < 40) : PS w0 L A B (fun a b => if a = x ∧ b = y then true else z a b) (w.setCell ⟨B, x * 40 + y, none⟩ (.bool true)) := by
  have hc : Ch (· = B) w (w.setCell ⟨B, x * 40 + y, none⟩ (.bool true)) := Ch.set _ _ _ rfl
  refine ⟨?_, h.sp.ch hc, ?_, h.ge⟩
  · have := at_set h.hB (x * 40 + y) (.bool true)
    rw [ab_set z hx hy] at this
    exact this
  · exact below_set h.bel h.ge
/-- the pass that is walked lies in block C -/
def Pb (C : Nat) (s : S41) (w : World) : Prop := w.heap[C]? = some (.cells #[.int .i64 s.f0, .int .i64 s.f1, .int .i64 s.f2, .int .i64 s.f3, .int .i64 s.f4, .int .i64 s.f5] 41 (0, 0))
theorem Pb.ne {C : Nat} {s : S41} {w0 w : World} {L : List S41} {A : Option Addr} {B : Nat} {z : Nat → Nat → Bool} (h : Pb C s w) (hp : PS w0 L A B z w) : C ≠ B := fun e => by
  have := hp.hB
  rw [← e, h] at this
  injection this with this; injection this with _ this; cases this
theorem Pb.ch {C : Nat} {s : S41} {w w' : World} {B : Nat} (h : Pb C s w) (hn : C ≠ B) (hc : Ch (· = B) w w') : Pb C s w' := hc.at h hn
set_option maxHeartbeats 64000000 in
set_option maxRecDepth 100000 in
theorem passes_ (a b : Int) (w : World) (n m : Nat) (hn : n < 40) (hm : m < 40) (K1 : ∀ w, Ret 17 #[.int .i64 a, .int .i64 40] w (.int .i64 (n : Int))) (K2 : ∀ w, Ret 17 #[.int .i64 b, .int .i64 40] w (.int .i64 (m : Int)))
    (K20 : ∀ w, Calls Try.prog 20 #[.int .i64 (n : Int), .int .i64 (m : Int)] w fun e w' => ∃ r, e = .returned r ∧ RD k41 (ps n m) w' r ∧ Below w.heap.size w w') (K21 : ∀ w, Ret 21 #[] w (.bool true)) :
    Ret 8 #[.int .i64 a, .int .i64 b] w (.bool true) := by
  have HS := St.nil w
  go_enter Try.func8, Try.ntmps8
  repeat' (first | ((with_reducible refine gate_region 0 false ?_); refine region_sq (w0 := w) 1 [] (by kernel_rfl) (by rfl) (by rfl) (by exact HS) ?_; refine s_val (v := ?_) (a' := ?_) rfl (fun _ => by rfl) (by rfl) ?_ ?_ ?_; rotate_left 2; (focus (intro l c w' hc hB; go_simp; (try go_ints); (with_reducible rfl))); (focus (intro c; simp only [u_0, u_1, u_2, u_3, Nat.reduceAdd]; rfl)); refine s_nil ?_; intro c W_ HS_; (try simp only [Exit.then]); (try dsimp only); simp only [List.map_cons, List.map_nil, Ent.end_, u_1, u_2, u_3] at HS_; clear HS; (try clear W); clear c; revert HS_; revert W_; intro W HS) | ((with_reducible refine gate_region 1 false ?_); refine region_sq (w0 := w) 3 [] (by kernel_rfl) (by rfl) (by rfl) (by exact HS) ?_; refine s_val (v := ?_) (a' := ?_) rfl (fun _ => by rfl) (by rfl) ?_ ?_ ?_; rotate_left 2; (focus (intro l c w' hc hB; go_simp; (try go_ints); (with_reducible rfl))); (focus (intro c; simp only [u_0, u_1, u_2, u_3, Nat.reduceAdd]; rfl)); refine s_call rfl (fun _ => by rfl) (by rfl) Try.func17 (by kernel_rfl) rfl ?_ rfl ?_ ?_; rotate_left 1; (focus (intro c; go_simp; (first | done | rfl))); refine ⟨_, fun w => K1 w, ?_, ?_, ?_⟩; rotate_left 1; (focus (intro c; simp only [u_0, u_1, u_2, u_3, Nat.reduceAdd]; rfl)); refine s_val (v := ?_) (a' := ?_) rfl (fun _ => by rfl) (by rfl) ?_ ?_ ?_; rotate_left 2; (focus (intro l c w' hc hB; go_simp; (try go_ints); (with_reducible rfl))); (focus (intro c; simp only [u_0, u_1, u_2, u_3, Nat.reduceAdd]; rfl)); refine s_nil ?_; intro c W_ HS_; (try simp only [Exit.then]); (try dsimp only); simp only [List.map_cons, List.map_nil, Ent.end_, u_1, u_2, u_3] at HS_; clear HS; (try clear W); clear c; revert HS_; revert W_; intro W HS) | ((with_reducible refine gate_region 2 false ?_); refine region_sq (w0 := w) 3 [] (by kernel_rfl) (by rfl) (by rfl) (by exact HS) ?_; refine s_val (v := ?_) (a' := ?_) rfl (fun _ => by rfl) (by rfl) ?_ ?_ ?_; rotate_left 2; (focus (intro l c w' hc hB; go_simp; (try go_ints); (with_reducible rfl))); (focus (intro c; simp only [u_0, u_1, u_2, u_3, Nat.reduceAdd]; rfl)); refine s_call rfl (fun _ => by rfl) (by rfl) Try.func17 (by kernel_rfl) rfl ?_ rfl ?_ ?_; rotate_left 1; (focus (intro c; go_simp; (first | done | rfl))); refine ⟨_, fun w => K2 w, ?_, ?_, ?_⟩; rotate_left 1; (focus (intro c; simp only [u_0, u_1, u_2, u_3, Nat.reduceAdd]; rfl)); refine s_val (v := ?_) (a' := ?_) rfl (fun _ => by rfl) (by rfl) ?_ ?_ ?_; rotate_left 2; (focus (intro l c w' hc hB; go_simp; (try go_ints); (with_reducible rfl))); (focus (intro c; simp only [u_0, u_1, u_2, u_3, Nat.reduceAdd]; rfl)); refine s_nil ?_; intro c W_ HS_; (try simp only [Exit.then]); (try dsimp only); simp only [List.map_cons, List.map_nil, Ent.end_, u_1, u_2, u_3] at HS_; clear HS; (try clear W); clear c; revert HS_; revert W_; intro W HS) | (with_reducible refine hold_region 3 false ?_) | (with_reducible refine hold_any ?_) | go_values | go_skip | go_guarded | go_step | go_upon | (simp only [Int.not_lt, Int.not_le] at *; go_simp) | (go_values <;> (try go_simp)) | (go_ite <;> go_prune <;> (try go_simp)))
  refine ⟨?_⟩
  have h37 := fun W => zero37 W
  go_wp2_with (go_at_call 20; refine Calls.mono (K20 _) ?_; rintro e W2 ⟨r, rfl, hRD, hbp⟩; obtain ⟨A, k, rfl, hC, hk⟩ := hRD)
  have hP0 : PS w (ps n m) A W.heap.size (zA n m ((ps n m).take 0)) W2 := by
    have h1 : (W.alloc (.cells (ab fun _ _ => false) 37 (0, 0))).heap[W.heap.size]? = some (.cells (ab fun _ _ => false) 37 (0, 0)) := heap_alloc_new _ _
    have h2 : W2.heap[W.heap.size]? = some (.cells (ab (zA n m ((ps n m).take 0))) 37 (0, 0)) := by
      rw [List.take_zero, zA_0]
      exact (hbp.block _ (at_lt h1)).trans h1
    exact ⟨h2, Sp.of_C hC h2, Go.Proofs.YtkagmelijdfdiaaW.PrintWords.below_step (HS.below.alloc HS.below.size _) hbp, HS.below.size⟩
  clear h37 hbp hC hk HS
  have hlen : (ps n m).length ≤ 7 := ps_len
  have hL1 : ∀ (t : Nat) (s : S41), (ps n m)[t]? = some s → Is n m s ∧ ∀ q ∈ (ps n m).take t, Is n m q ∧ cl q ≠ cl s := fun t s hs => ⟨ps_is (List.mem_of_getElem? hs), PsB.ahead hn hm hs⟩
  have hL2 : ∀ (t : Nat) (s : S41), (ps n m)[t]? = some s → nn (ps n m) (t + 1) = nn (ps n m) t + s.f4 * s.f5 := fun t s h => nn_next h
  have hL3 := nn_bd hn hm
  have hL4 := nn_end hn hm
  have hL5 : ∀ (t : Nat) (s : S41), (ps n m)[t]? = some s → (ps n m).take (t + 1) = (ps n m).take t ++ [s] := fun t s h => take_next h
  have hL6 := nn_0 (ps n m)
  generalize ps n m = L at *
  generalize W.heap.size = B at *
  have hn' : (n : Int) < 40 := by omega
  have hm' : (m : Int) < 40 := by omega
  have hL1 := Aside0.mk hL1; have hL2 := Aside0.mk hL2; have hL3 := Aside0.mk hL3; have hL4 := Aside0.mk hL4; have hL5 := Aside0.mk hL5
  clear K1 K2 K20
  refine loop_m (fun k W => ∃ t : Nat, k = (t : Int) ∧ PS w L A B (zA n m (L.take t)) W) [8, 9, 10, 11, 12, 22, 23, 24, 25, 26, 27, 28, 29, 30, 31, 32, 33, 34, 35, 36, 37, 38, 39, 40, 41, 42, 43, 44, 45, 46, 47, 48, 49, 50, 51, 52, 53, 54, 55, 56, 57, 58, 59, 60, 61, 62, 63, 64, 65, 66, 67, 68, 69, 70, 71, 72, 73, 74, 75, 76, 77, 78, 79, 80, 81, 82, 83, 84, 85, 86, 87, 88, 89, 90, 91, 92, 93, 94, 95, 96, 97, 98, 99, 100, 101, 102, 103, 104, 105, 106, 107, 108, 109, 110] (fun k => [(21, .int .i64 k), (6, .int .i64 (nn L k.toNat))]) (L.length : Int) (by omega) (by simp only [putF2, List.foldl_cons, List.foldl_nil, u_1, u_2, u_3, Nat.reduceAdd]; rw [show (0 : Int).toNat = 0 from rfl, hL6]; rfl) ⟨0, rfl, hP0⟩ ?_ ?_
  · clear hP0 K21 hL4 hL6
    intro k g W k0 k1 hM
    obtain ⟨t, rfl, hP⟩ := hM
    have htl : t < L.length := by omega
    obtain ⟨s, hs⟩ : ∃ s, L[t]? = some s := ⟨_, List.getElem?_eq_getElem htl⟩
    obtain ⟨hIs, hAh⟩ := hL1.out t s hs
    have hN1 := hL2.out t s hs
    have hT1 := hL5.out t s hs
    obtain ⟨⟨b0, b0'⟩, ⟨b1, b1'⟩, ⟨b2, b2'⟩, ⟨b3, b3'⟩, ⟨b4, b4'⟩, ⟨b5, b5'⟩⟩ := hIs.bd hn hm
    obtain ⟨ad, rfl, hb_, l0_, l1_, l2_, l3_, l4_, l5_⟩ := hP.sp t s hs
    have hNb := hL3.out t
    have hNb1 := hL3.out (t + 1)
    rw [hN1] at hNb1
    have hlenI : (t : Int) < (L.length : Int) := by omega
    have hIs := Aside0.mk hIs; have hAh := Aside0.mk hAh; have hN1 := Aside0.mk hN1; have hT1 := Aside0.mk hT1; have hPz := Aside0.mk hP; have hs := Aside0.mk hs
    clear hP
    simp only [putF2, List.foldl_cons, List.foldl_nil, u_1, u_2, u_3, Nat.reduceAdd]
    simp only [Int.toNat_natCast]
    generalize hnt : nn L t = N0 at *
    go_wp2
    have hQ : PS w L (some ad) B (zB n m (L.take t) s 0 0) (W.alloc (.cells #[.int .i64 s.f0, .int .i64 s.f1, .int .i64 s.f2, .int .i64 s.f3, .int .i64 s.f4, .int .i64 s.f5] 41)) := by
      rw [zB_00 hIs.out]
      exact hPz.out.step (Go.Proofs.YtkagmelijdfdiaaW.PrintWords.below_alloc (Below.refl _ _) _)
    have hC : Pb W.heap.size s (W.alloc (.cells #[.int .i64 s.f0, .int .i64 s.f1, .int .i64 s.f2, .int .i64 s.f3, .int .i64 s.f4, .int .i64 s.f5] 41)) := heap_alloc_new _ _
    clear hPz
    generalize W.alloc (.cells #[.int .i64 s.f0, .int .i64 s.f1, .int .i64 s.f2, .int .i64 s.f3, .int .i64 s.f4, .int .i64 s.f5] 41) = W1 at *
    generalize W.heap.size = C at *
    clear l0_ l1_ l2_ l3_ l4_ l5_ hb_
    have hCB := hC.ne hQ
    have hmu : ∀ j : Int, 0 ≤ j → j ≤ s.f5 → 0 ≤ j * s.f4 ∧ j * s.f4 ≤ 1600 := fun j h1 h2 => by
      have a1 := Int.mul_nonneg h1 (show 0 ≤ s.f4 by omega)
      have a2 := Int.mul_le_mul (show j ≤ 40 by omega) (show s.f4 ≤ 40 by omega) (by omega) (by omega)
      omega
    have hmu := Aside0.mk hmu
    refine loop_m (fun j W => PS w L (some ad) B (zB n m (L.take t) s j 0) W ∧ Pb C s W) [10, 11, 12, 55, 56, 57, 58, 59, 60, 61, 62, 63, 64, 65, 66, 67, 68, 69, 70, 71, 72, 73, 74, 75, 76, 77, 78, 79, 80, 81, 82, 83, 84, 85, 86, 87, 88, 89, 90, 91, 92, 93, 94, 95, 96, 97, 98, 99, 100, 101, 102, 103, 104, 105, 106, 107, 108, 109] (fun j => [(9, .int .i64 j), (6, .int .i64 (N0 + j * s.f4))]) s.f5 (by omega) (by simp only [putF2, List.foldl_cons, List.foldl_nil, u_1, u_2, u_3, Nat.reduceAdd]; rw [show N0 + 0 * s.f4 = N0 by omega]; rfl) ⟨hQ, hC⟩ ?_ ?_
    · clear hQ hC W W1
      intro j g W j0 j1 hM
      obtain ⟨hQ, hC⟩ := hM
      have hQz := Aside0.mk hQ; have hCz := Aside0.mk hC
      obtain ⟨m0, m1⟩ := hmu.out j j0 (by omega)
      obtain ⟨m2, m3⟩ := hmu.out (j + 1) (by omega) (by omega)
      have k4 : W.cell? ⟨C, 4, none⟩ = some (.int .i64 s.f4) := at_cell hC 4
      have k5 : W.cell? ⟨C, 5, none⟩ = some (.int .i64 s.f5) := at_cell hC 5
      clear hQ hC
      simp only [putF2, List.foldl_cons, List.foldl_nil, u_1, u_2, u_3, Nat.reduceAdd]
      go_wp2
      generalize hN2 : N0 + j * s.f4 = N2 at *
      refine loop_m (fun i W => PS w L (some ad) B (zB n m (L.take t) s j i) W ∧ Pb C s W) [11, 12, 61, 62, 63, 64, 65, 66, 67, 68, 69, 70, 71, 72, 73, 74, 75, 76, 77, 78, 79, 80, 81, 82, 83, 84, 85, 86, 87, 88, 89, 90, 91, 92, 93, 94, 95, 96, 97, 98, 99, 100, 101, 102, 103, 104, 105, 106, 107, 108, 109] (fun i => [(10, .int .i64 i), (6, .int .i64 (N2 + i))]) s.f4 (by omega) (by simp only [putF2, List.foldl_cons, List.foldl_nil, u_1, u_2, u_3, Nat.reduceAdd]; rw [show N2 + 0 = N2 by omega]; rfl) ⟨hQz.out, hCz.out⟩ ?_ ?_
      · clear hQz hCz k4 k5 W
        intro i g W i0 i1 hM
        obtain ⟨hQ, hC⟩ := hM
        obtain ⟨x0, x1, y0, y1⟩ := hIs.out.at i0 i1 j0 j1
        have k0 : W.cell? ⟨C, 0, none⟩ = some (.int .i64 s.f0) := at_cell hC 0
        have k1 : W.cell? ⟨C, 1, none⟩ = some (.int .i64 s.f1) := at_cell hC 1
        have k2 : W.cell? ⟨C, 2, none⟩ = some (.int .i64 s.f2) := at_cell hC 2
        have k3 : W.cell? ⟨C, 3, none⟩ = some (.int .i64 s.f3) := at_cell hC 3
        have k4 : W.cell? ⟨C, 4, none⟩ = some (.int .i64 s.f4) := at_cell hC 4
        obtain ⟨x, hx⟩ := Int.eq_ofNat_of_zero_le x0
        obtain ⟨y, hy⟩ := Int.eq_ofNat_of_zero_le y0
        have hx4 : x < 40 := by omega
        have hy4 : y < 40 := by omega
        have hxn : x < n := by omega
        have hym : y < m := by omega
        have kz : W.cell? ⟨B, x * 40 + y, none⟩ = some (.bool false) := by
          rw [at_cell hQ.hB, ab_get _ hx4 hy4, zB_at hIs.out hAh.out hx.symm hy.symm]
        have kf : W.frozen? ⟨B, x * 40 + y, none⟩ = false := at_free hQ.hB _
        have hQ2 := hQ.set hx4 hy4
        rw [zB_set hIs.out hx.symm hy.symm hxn hym] at hQ2
        have hC2 : Pb C s (W.setCell ⟨B, x * 40 + y, none⟩ (.bool true)) := hC.ch hCB (Ch.set _ _ _ rfl)
        have hE := Aside0.mk (And.intro hQ2 hC2)
        have q0 : -32 ≤ i * s.f2 ∧ i * s.f2 ≤ 1600 := by omega
        have q1 : -32 ≤ j * s.f3 ∧ j * s.f3 ≤ 1600 := by omega
        obtain ⟨q0, q0'⟩ := q0
        obtain ⟨q1, q1'⟩ := q1
        obtain ⟨p0, hp0⟩ : ∃ p, i * s.f2 = p := ⟨_, rfl⟩
        obtain ⟨p1, hp1⟩ : ∃ p, j * s.f3 = p := ⟨_, rfl⟩
        rw [hp0] at hx q0 q0' x0 x1
        rw [hp1] at hy q1 q1' y0 y1
        clear hQ hC hQ2 hC2
        simp only [putF2, List.foldl_cons, List.foldl_nil, u_1, u_2, u_3, Nat.reduceAdd]
        go_wp2
        (try rw [Int.add_assoc N2 i 1])
        refine round_end' hE.out ?_
        rfl
      · clear hQz hCz k4 k5 W
        intro g W hM
        obtain ⟨hQ, hC⟩ := hM
        have k4 : W.cell? ⟨C, 4, none⟩ = some (.int .i64 s.f4) := at_cell hC 4
        rw [zB_row hIs.out] at hQ
        have hE := Aside0.mk (And.intro hQ hC)
        have hr := Aside0.mk (show N2 + s.f4 = N0 + (j + 1) * s.f4 by rw [← hN2, Int.add_mul]; omega)
        clear hQ hC hN2
        simp only [putF2, List.foldl_cons, List.foldl_nil, u_1, u_2, u_3, Nat.reduceAdd]
        go_wp2
        rw [hr.out]
        refine round_end' hE.out ?_
        rfl
    · clear hQ hC W W1
      intro g W hM
      obtain ⟨hQ, hC⟩ := hM
      have k5 : W.cell? ⟨C, 5, none⟩ = some (.int .i64 s.f5) := at_cell hC 5
      rw [zB_end hIs.out, ← hT1.out] at hQ
      have hE := Aside0.mk (show ∃ t' : Nat, ((t : Int) + 1) = (t' : Int) ∧ PS w L (some ad) B (zA n m (L.take t')) W from ⟨t + 1, by omega, hQ⟩)
      have hr := Aside0.mk (show N0 + s.f5 * s.f4 = nn L ((t : Int) + 1).toNat by rw [show ((t : Int) + 1).toNat = t + 1 by omega, hN1.out, Int.mul_comm])
      clear hQ hC hmu
      simp only [putF2, List.foldl_cons, List.foldl_nil, u_1, u_2, u_3, Nat.reduceAdd]
      go_wp2
      rw [hr.out]
      refine round_end' hE.out ?_
      rfl
  · clear hP0 hL1 hL2 hL5 hL6 W2
    intro g W hM
    obtain ⟨t, ht, hP⟩ := hM
    obtain rfl : L.length = t := by omega
    have hbel := hP.bel
    have hE := hL4.out
    clear hP hL3 hL4 ht
    simp only [putF2, List.foldl_cons, List.foldl_nil, u_1, u_2, u_3, Nat.reduceAdd]
    simp only [Int.toNat_natCast]
    rw [hE]
    have HB := Aside0.mk hbel
    clear hE hbel
    obtain ⟨p, hp⟩ : ∃ p, (n : Int) * m = p := ⟨_, rfl⟩
    have hp0 : 0 ≤ p := by rw [← hp]; exact Int.mul_nonneg (by omega) (by omega)
    have hp1 : p ≤ 1600 := by
      rw [← hp]
      have := Nat.mul_le_mul (show n ≤ 40 by omega) (show m ≤ 40 by omega)
      have e : ((n * m : Nat) : Int) = (n : Int) * m := by simp
      omega
    rw [hp]
    go_wp2_with (go_at_call 21; refine Calls.mono (K21 _) ?_; rintro e w1 ⟨rfl, hb⟩; have n0_ := Aside0.mk (Go.Proofs.YtkagmelijdfdiaaW.PrintWords.below_step HB.out hb); clear HB; have HB := n0_; clear n0_ hb)
    go_ret
    exact ⟨rfl, HB.out⟩
theorem cP (a b : Int) (L : List S41) (h : rows_Passes.f 20 a b = some L) (w : World) : Calls Try.prog 20 #[.int .i64 a, .int .i64 b] w fun e w' => ∃ r, e = .returned r ∧ RD k41 L w' r ∧ Below w.heap.size w w' :=
  (rows_Passes.calls 20 a b L w h).mono (fun e w' ⟨r, he, hR, hb⟩ => ⟨r, he, RD.of_R hR, hb⟩)
theorem walk (a b : Int) (w : World) (_ : (Lit.int .i64 a).wf = true) (_ : (Lit.int .i64 b).wf = true) : Ret 8 #[.int .i64 a, .int .i64 b] w (.bool true) := by
  obtain ⟨n, hn⟩ := Int.eq_ofNat_of_zero_le (Int.emod_nonneg a (show (40 : Int) ≠ 0 by omega))
  obtain ⟨m, hm⟩ := Int.eq_ofNat_of_zero_le (Int.emod_nonneg b (show (40 : Int) ≠ 0 by omega))
  have hn4 : n < 40 := by omega
  have hm4 : m < 40 := by omega
  have pk : ∀ x w, Ret 17 #[.int .i64 x, .int .i64 40] w (.int .i64 (x % 40)) := fun x w => by first | exact versalhand_Pick.calls _ _ _ w (pick_f (by omega) (by omega)) | exact lift (versalhand_Pick.calls _ _ _ w (pick_f (by omega) (by omega)))
  exact passes_ a b w n m hn4 hm4 (fun w => hn ▸ pk a w) (fun w => hm ▸ pk b w) (fun w => cP _ _ _ (ps_f hn4 hm4) w) (fun w => versallaw10_known.calls 100 true w (by kernel_rfl))

end Go.Proofs.Ytkagmelijdfdiaa.WalkRowsPasses
