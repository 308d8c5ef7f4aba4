/- A loop over a slice that is emptied without room and then grows, beside another slice that stays: the loop's law, the step of append. -/
import Derived.Test.YtkagmelijdfdiaaLnW
import Derived.Test.YtkagmelijdfdiaaCvL
import Derived.ArgAppend
namespace Go.Proofs.Ytkagmelijdfdiaa.CvA
open Go.RowKit Go.Proofs.YtkagmelijdfdiaaW.PrintWords Go.Proofs.YtkagmelijdfdiaaW.PrintLast Go.Proofs.YtkagmelijdfdiaaW.PrintMore Go.Proofs.Ytkagmelijdfdiaa.PCoverTells Go.Proofs.Ytkagmelijdfdiaa.M Go.Proofs.Ytkagmelijdfdiaa.Reg Go.Proofs.Ytkagmelijdfdiaa.Rgw Go.Proofs.Ytkagmelijdfdiaa.Rwd Go.Proofs.Ytkagmelijdfdiaa.LnW
attribute [local go_sem] max2_mx min2_mn max_two min_two max_three min_three max_four min_four
set_option linter.unusedVariables false
set_option linter.unusedSimpArgs false

theorem loop_v {P : Program} {c : Code} {Q : Exit → Act → World → Prop} {a0 : Act} {w0 W : World} {α : Type} (V : World → Value → List α → Prop) (S : List Tmp) (sp : Int → Value → List (Tmp × Value)) (n : Int) (hn : 0 ≤ n) (v0 : Value) (h0 : putF2 a0 S (fun s => a0.tmps.getD s undef) (sp 0 v0) = a0) (R : Int → List α → Prop) (hR0 : R 0 [])
    (hV : V W v0 []) (hB : Below w0.heap.size w0 W)
    (step : ∀ (k : Int) (g : Tmp → Value) (v : Value) (L : List α) (W : World), 0 ≤ k → k < n → R k L → V W v L → Below w0.heap.size w0 W →
      c.wp P (Exit.then (fun a' W' => ∃ g' v' L', putF2 a0 S g' (sp (k + 1) v') = a' ∧ R (k + 1) L' ∧ V W' v' L' ∧ Below w0.heap.size w0 W') Q) (putF2 a0 S g (sp k v)) W)
    (last : ∀ (g : Tmp → Value) (v : Value) (L : List α) (W : World), R n L → V W v L → Below w0.heap.size w0 W → c.wp P (Exit.then (fun _ _ => False) Q) (putF2 a0 S g (sp n v)) W) : (Code.loop c).wp P Q a0 W := by
  refine loop_a (fun k a W => ∃ g v L, putF2 a0 S g (sp k v) = a ∧ R k L ∧ V W v L ∧ Below w0.heap.size w0 W) n hn ⟨_, _, _, h0, hR0, hV, hB⟩ ?_ ?_
  · rintro k a W h1 h2 ⟨g, v, L, rfl, h3, h4, h5⟩; exact step k g v L W h1 h2 h3 h4 h5
  · rintro a W ⟨g, v, L, rfl, h3, h4, h5⟩; exact last g v L W h3 h4 h5
/-- not where the slice that stays lies -/
def okA (A : Option Addr) (b : Nat) : Prop := ∀ ad, A = some ad → b ≠ ad.block
/-- both slices: the one at A reads as L; v reads as M, in memory of its own, or is empty and without room -/
def V2 (A : Option Addr) (L : List S33) (base : Nat) (w : World) (v : Value) (M : List S33) : Prop := Kd.C k33 w A L.length L ∧ (Kd.R k33 33 w base (okA A) v M ∨ (M = [] ∧ v = .slice A 0 0))
theorem C_lt {A : Option Addr} {L : List S33} {w : World} (h : Kd.C k33 w A L.length L) (hL : 0 < L.length) {ad : Addr} (hA : A = some ad) : ad.block < w.heap.size := by
  obtain ⟨a, c, e, hl, hK, hc⟩ := Kd.C_get h z33 0 (by omega) (by omega)
  rw [hA] at e
  cases e
  have hk := k33_open hK
  have h2 := hc 0 _ (by rw [hk]; rfl)
  have hb : (ad.add (Int.toNat 0 * k33.sz + 0)).block = ad.block := by unfold Addr.add; split <;> rfl
  rw [← hb]
  refine Decidable.byContradiction fun hn => ?_
  rw [World.cell?, Array.getElem?_eq_none (by omega)] at h2
  cases h2
theorem C_far {A : Option Addr} {L : List S33} {w w1 : World} {row : Option Nat} (h : Kd.C k33 w A L.length L) (hg : w.grownBy w1 row) (hne : ∀ ad, A = some ad → some ad.block ≠ row) : Kd.C k33 w1 A L.length L := by
  refine ⟨rfl, h.2.1, fun hn => ?_⟩
  obtain ⟨ad, hA, hc⟩ := h.2.2 hn
  have hlt := C_lt h hn hA
  refine ⟨ad, hA, fun j p hj => ?_⟩
  obtain ⟨c, hl, hK, hcell⟩ := hc j p hj
  have hk := k33_open hK
  refine ⟨c, hl, by rw [hk]; exact k33_mk w1 p, fun i u hu => ?_⟩
  have hb : (ad.add (j * k33.sz + i)).block = ad.block := by unfold Addr.add; split <;> rfl
  rw [World.grownBy.cell_far hg _ (by rw [hb]; exact hlt) (by rw [hb]; exact hne ad hA)]
  exact hcell i u hu
theorem V2.below {A : Option Addr} {L M : List S33} {base : Nat} {w w1 : World} {v : Value} (h : V2 A L base w v M) (hb : Below w.heap.size w w1) : V2 A L base w1 v M :=
  ⟨Kd.C_below h.1 hb, h.2.imp (fun k => Kd.R_below k hb) id⟩
theorem V2.read {A : Option Addr} {L M : List S33} {base : Nat} {w : World} {v : Value} (h : V2 A L base w v M) : RD k33 M w v := by
  rcases h.2 with k | ⟨rfl, rfl⟩
  · exact RD.of_R k
  · exact ⟨A, 0, rfl, ⟨rfl, by simp, fun hn => absurd hn (by simp)⟩, Nat.le_refl _⟩
theorem app_step {ops : Array Oper} {rest : List Oper} {o : Oper} {a : Act} {Q : Exit → Act → World → Prop} {W w0 : World} {A : Option Addr} {L M : List S33} {v : Value} {b : Nat} {x : S33} (s y : Operand) (hg : o.guard = none) (ho : o.op = .call { callee := .builtin .append, args := #[s, y], argTypes := #[24, 24] }) (hs : a.eval s = v) (hy : a.eval y = .slice (some ⟨b, 0, none⟩) 1 1)
    (hb : W.heap[b]? = some (.cells #[.int .i64 x.f0, .int .i64 x.f1, .int .i64 x.f2, .int .i64 x.f3] 33 (0, 0))) (hV : V2 A L w0.heap.size W v M) (hB : Below w0.heap.size w0 W) (hL : 0 < L.length) (hl : M.length ≤ 1000)
    (h : ∀ v1 w1, V2 A L w0.heap.size w1 v1 (M ++ [x]) → Below w0.heap.size w0 w1 → wpList Try.prog ops Q rest (a.put o.dst v1) w1) : wpList Try.prog ops Q (o :: rest) a W := by
  obtain ⟨hC, hV⟩ := hV
  have hrow := one_row hb
  rcases hV with hR | ⟨rfl, rfl⟩
  · refine Kd.R_append_rows k33 (Rr := fun x cs => cs = [.int .i64 x.f0, .int .i64 x.f1, .int .i64 x.f2, .int .i64 x.f3]) w0.heap.size hg s y 24 33 (.agg #[(.int .i64 0), (.int .i64 0), (.int .i64 0), (.int .i64 0)]) 32 ho Try.underlying24 info33 rfl (by decide) (by omega) v M [x] (some ⟨b, 0, none⟩) 1 1 (okA A) (fun k => okA A k ∧ some k ≠ v.ownBlock) hs hy hR hrow (fun x cs h => by subst h; exact k33_mkM _ _ _ x) (fun k h => h) (fun k hk ad hA => by have := C_lt hC hL hA; omega) hB hB.size (by omega) ?_
    intro v1 w1 h1 h2 h3 _
    refine h v1 w1 ⟨C_far hC h3 (fun ad hA he => ?_), .inl h1⟩ h2
    exact hR.1 ad.block he.symm ad hA rfl
  · obtain ⟨i0, hi, hzz⟩ := Option.map_eq_some_iff.1 info33
    simp only [Prod.mk.injEq] at hzz
    obtain ⟨hz0, hz1, hz2⟩ := hzz
    have hsrc := src (cs := [.int .i64 x.f0, .int .i64 x.f1, .int .i64 x.f2, .int .i64 x.f3]) (by simpa using hb)
    refine wpList_append_grows W hg s y 24 ho 33 i0 (.agg #[(.int .i64 0), (.int .i64 0), (.int .i64 0), (.int .i64 0)]) 4 32 Try.underlying24 hi hz0 hz1 hz2 rfl (by omega) A 0 0 [] hs (fun _ => ⟨rfl, rfl⟩) rfl (fun _ _ j u hj => by simp at hj) ⟨b, 0, none⟩ 1 1 [.int .i64 x.f0, .int .i64 x.f1, .int .i64 x.f2, .int .i64 x.f3] hy rfl hsrc (by simp [Value.oneCell']) (by omega) (by decide) (by decide) ?_
    intro v1 w1 hown hgr
    have hB1 : Below w0.heap.size w0 w1 := hB.grown hgr hB.size (fun k hk => by cases hk)
    refine h v1 w1 ⟨C_far hC hgr (fun ad hA he => by cases he), .inl ⟨fun k hk ad hA => ?_, [.int .i64 x.f0, .int .i64 x.f1, .int .i64 x.f2, .int .i64 x.f3], own_weaken (by have h2 := hown; simp only [Nat.zero_add, List.nil_append] at h2; exact h2) hB.size, Reps.c4 (k33_mkM _ _ _ x) (Reps.none _ _)⟩⟩ hB1
    have h1 := own_base hown k hk
    have h2 := C_lt hC hL hA
    omega

end Go.Proofs.Ytkagmelijdfdiaa.CvA
