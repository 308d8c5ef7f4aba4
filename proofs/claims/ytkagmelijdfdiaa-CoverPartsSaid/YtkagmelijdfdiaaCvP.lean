/- What CoverParts' walk asks of slices: a cut reads so, the first append of a whole slice, strings one behind the other. -/
import Derived.Test.YtkagmelijdfdiaaLnW
import Derived.Test.YtkagmelijdfdiaaCvL
import Derived.Test.YtkagmelijdfdiaaCvM
import Derived.Test.YtkagmelijdfdiaaCvA
import Derived.Test.YtkagmelijdfdiaaCvN
import Derived.ArgAppend
namespace Go.Proofs.Ytkagmelijdfdiaa.CvP
open Go.RowKit Go.Proofs.YtkagmelijdfdiaaW.PrintWords Go.Proofs.YtkagmelijdfdiaaW.PrintLast Go.Proofs.YtkagmelijdfdiaaW.PrintMore Go.Proofs.Ytkagmelijdfdiaa.PCoverTells Go.Proofs.Ytkagmelijdfdiaa.M Go.Proofs.Ytkagmelijdfdiaa.Reg Go.Proofs.Ytkagmelijdfdiaa.Rgw Go.Proofs.Ytkagmelijdfdiaa.Rwd Go.Proofs.Ytkagmelijdfdiaa.LnW Go.Proofs.Ytkagmelijdfdiaa.CvL Go.Proofs.Ytkagmelijdfdiaa.CvM Go.Proofs.Ytkagmelijdfdiaa.CvA Go.Proofs.Ytkagmelijdfdiaa.CvN
attribute [local go_sem] max2_mx min2_mn max_two min_two max_three min_three max_four min_four
set_option linter.unusedVariables false
set_option linter.unusedSimpArgs false

theorem i5 : ∃ i, Try.prog.info? 5 = some i ∧ i.size = 1 := by
  obtain ⟨i0, hi, hzz⟩ := Option.map_eq_some_iff.1 info5
  simp only [Prod.mk.injEq] at hzz
  exact ⟨i0, hi, hzz.2.1⟩
theorem cut_rd {A : Option Addr} {k : Nat} {L : List Int} {w : World} {lo hi : Nat} (h : Kd.C (Kd.int .u8) w A L.length L) (hk : L.length ≤ k) (h1 : lo ≤ hi) (h2 : hi ≤ L.length) :
    ∃ v, (Instr.slice 22 (.slice A L.length k) (some (.int .i64 (lo : Int))) (some (.int .i64 (hi : Int))) none).run Try.prog w = .ok v w ∧ RD (Kd.int .u8) ((L.take hi).drop lo) w v := by
  obtain ⟨i, hi5, hs⟩ := i5
  have hc := cut_mid (P := Try.prog) 22 5 .i64 .i64 Try.underlying22 hi5 1 hs A L.length k (lo : Int) (hi : Int) (by omega) (by omega) (by omega) hk w
  rw [Int.toNat_natCast, Int.toNat_natCast] at hc
  have hl : ((L.take hi).drop lo).length = hi - lo := by rw [List.length_drop, List.length_take]; omega
  rw [← hl] at hc
  exact ⟨_, hc, _, _, rfl, Kd.C_mid h h1 h2 hk, by omega⟩
theorem str_app (a b : List Int) : strOfNums a ++ strOfNums b = strOfNums (a ++ b) := by
  apply ByteArray.ext
  simp [strOfNums]
theorem cMaskP {L : List S33} (hL : L.length ≤ 50) {A : Option Addr} {k : Nat} {w : World} {a b c d c' d' : Int} (hC : Kd.C k33 w A L.length L) (hk : L.length ≤ k) (hc : c = c') (hd : d = d') : Calls Try.prog 12 #[.slice A L.length k, .int .i64 a, .int .i64 b, .int .i64 c, .int .i64 d] w fun e w' => ∃ v, e = .returned v ∧ RD (Kd.int .u8) (mask L a b c' d') w' v ∧ Below w.heap.size w w' := by
  subst hc hd
  exact (cover_Mask.calls 4400 A k L a b c d _ w hC hk (mask_f5 hL a b c d)).mono (fun e w' ⟨v, he, hR, hb⟩ => ⟨v, he, RD.of_R hR, hb⟩)
theorem at8 {A : Option Addr} {L : List Int} {w : World} (h : Kd.C (Kd.int .u8) w A L.length L) {i : Nat} (hi : i < L.length) : ∃ ad, A = some ad ∧ w.cell? (ad.add i) = some (.int .u8 (L.getD i 0)) := by
  obtain ⟨ad, c, e, hl, hK, hc⟩ := Kd.C_get h 0 (i : Int) (by omega) (by omega)
  have hK' : c = [.int .u8 (L.getD i 0)] := hK
  refine ⟨ad, e, ?_⟩
  have := hc 0 (.int .u8 (L.getD i 0)) (by rw [hK']; rfl)
  have h1 : (Kd.int .u8).sz = 1 := rfl
  rwa [h1, Int.toNat_natCast, Nat.mul_one, Nat.add_zero] at this
/-- the slice that stays, and one that begins with it -/
def V4 (A : Option Addr) (L : List S33) (base : Nat) (w : World) (v : Value) (M : List S33) : Prop := (0 < L.length ∧ V2 A L base w v (L ++ M)) ∨ (L = [] ∧ M = [] ∧ RD k33 [] w v)
theorem V4.below {A : Option Addr} {L M : List S33} {base : Nat} {w w1 : World} {v : Value} (h : V4 A L base w v M) (hb : Below w.heap.size w w1) : V4 A L base w1 v M :=
  h.imp (fun h => ⟨h.1, h.2.below hb⟩) (fun h => ⟨h.1, h.2.1, RD.stable _ _ _ _ _ hb h.2.2⟩)
theorem V4.read {A : Option Addr} {L M : List S33} {base : Nat} {w : World} {v : Value} (h : V4 A L base w v M) : RD k33 (L ++ M) w v := by
  rcases h with h | ⟨rfl, rfl, h⟩
  · exact h.2.read
  · exact h
theorem app_first {ops : Array Oper} {rest : List Oper} {o : Oper} {a : Act} {Q : Exit → Act → World → Prop} {W w0 : World} {A : Option Addr} {L : List S33} {b k : Nat} (s y : Operand) (hg : o.guard = none) (ho : o.op = .call { callee := .builtin .append, args := #[s, y], argTypes := #[24, 24] }) (hs : a.eval s = .slice (some ⟨b, 0, none⟩) 0 0) (hy : a.eval y = .slice A L.length k)
    (hb : W.heap[b]? = some (.cells #[] 33 (0, 0))) (hC : Kd.C k33 W A L.length L) (hA : 0 < L.length → okA A b) (hbase : w0.heap.size ≤ b) (hB : Below w0.heap.size w0 W) (hl : L.length ≤ 1000)
    (h : ∀ v1 w1, V4 A L w0.heap.size w1 v1 [] → Below w0.heap.size w0 w1 → wpList Try.prog ops Q rest (a.put o.dst v1) w1) : wpList Try.prog ops Q (o :: rest) a W := by
  have hR : Kd.R k33 33 W w0.heap.size (fun j => 0 < L.length → okA A j) (.slice (some ⟨b, 0, none⟩) 0 0) ([] : List S33) :=
    ⟨fun j hj hp => by obtain rfl : b = j := by simpa [Value.ownBlock] using hj
                       exact hA hp, [], ⟨by simp, .inr ⟨b, 0, #[], rfl, hbase, hb, Nat.le_refl _, by decide, by simp, by simp⟩⟩, Reps.none _ _⟩
  refine Kd.R_append_rows k33 (Rr := fun (x : S33) cs => cs = [.int .i64 x.f0, .int .i64 x.f1, .int .i64 x.f2, .int .i64 x.f3]) (okp := fun j => (0 < L.length → okA A j) ∧ some j ≠ (Value.slice (some ⟨b, 0, none⟩) 0 0).ownBlock) w0.heap.size hg s y 24 33 (.agg #[(.int .i64 0), (.int .i64 0), (.int .i64 0), (.int .i64 0)]) 32 ho Try.underlying24 info33 rfl (by decide) (by omega) (.slice (some ⟨b, 0, none⟩) 0 0) [] L A L.length k (fun j => 0 < L.length → okA A j) hs hy hR
    ?_ (fun x cs h => by subst h; exact k33_mkM _ _ _ x) (fun j h => h) (fun j hj hp ad hA' => ?_) hB hB.size (by simp only [List.length_nil]; omega) ?_
  · exact ReadsRow.imp_ hC (Below.refl _ _) (fun x cs hp => k33_open hp)
  · have := C_lt hC hp hA'; omega
  · intro v1 w1 h1 h2 h3 h4
    refine h v1 w1 ?_ h2
    rw [List.nil_append] at h1
    by_cases hp : 0 < L.length
    · refine .inl ⟨hp, C_far hC h3 (fun ad hA' he => ?_), ?_⟩
      · have : b = ad.block := by simpa [Value.ownBlock] using he.symm
        exact hA hp ad hA' this
      · rw [List.append_nil]
        exact .inl (Kd.R_mono h1 (fun j hj => hj hp))
    · obtain rfl : L = [] := List.eq_nil_of_length_eq_zero (by omega)
      exact .inr ⟨rfl, rfl, RD.of_R h1⟩
theorem mask_n {L : List S33} {x y : Int} {w h : Nat} (hx : -1000 ≤ x ∧ x ≤ 1000) (hy : -1000 ≤ y ∧ y ≤ 1000) (hw : w ≤ 64) (hh : h ≤ 64) : ((mask L x y w h).length : Int) = (w : Int) * h := by
  rw [mask_len hx hy hw hh, Nat.mul_comm]; simp
/-- a line of the parts, joined, is the whole's -/
theorem mask_row' {L : List S33} {x y : Int} {w h c j : Nat} (hx : -100 ≤ x ∧ x ≤ 100) (hy : -100 ≤ y ∧ y ≤ 100) (hw : w ≤ 64) (hh : h ≤ 64) (hc : c ≤ w) (hj : j < h) :
    ((mask L x y c h).take ((j + 1) * c)).drop (j * c) ++ ((mask L (x + c) y ((w - c : Nat) : Int) h).take ((j + 1) * (w - c))).drop (j * (w - c)) = ((mask L x y w h).take ((j + 1) * w)).drop (j * w) := by
  have e : ∀ n : Nat, (j + 1) * n - j * n = n := fun n => by rw [Nat.succ_mul]; omega
  rw [List.drop_take, List.drop_take, List.drop_take, e, e, e]
  exact mask_row hx hy hw hh hc hj
theorem rev_len (L : List S33) : (L.map rev).length = L.length := by simp
theorem str_cat {a b c : List Int} (h : a ++ b = c) (hl : c.length ≤ 1000) : ¬ 9223372036854775807 < (strOfNums a).size + (strOfNums b).size ∧ strOfNums a ++ strOfNums b = strOfNums c := by
  subst h
  rw [List.length_append] at hl
  refine ⟨?_, str_app a b⟩
  rw [strOfNums_size, strOfNums_size]
  omega
theorem cut_r {A : Option Addr} {k : Nat} {L : List Int} {w : World} {lo hi : Nat} (h : Kd.C (Kd.int .u8) w A L.length L) (hk : L.length ≤ k) (h1 : lo ≤ hi) (h2 : hi ≤ L.length) :
    RD (Kd.int .u8) ((L.take hi).drop lo) w (.slice (if k = lo then A else Option.map (fun x => x.add lo) A) (hi - lo) (k - lo)) := by
  have hl : ((L.take hi).drop lo).length = hi - lo := by rw [List.length_drop, List.length_take]; omega
  have hC := Kd.C_mid h h1 h2 hk
  rw [show lo * (Kd.int .u8).sz = lo from Nat.mul_one lo] at hC
  exact ⟨_, _, by rw [hl], hC, by omega⟩
theorem V4.l {A : Option Addr} {L M : List S33} {base : Nat} {w : World} {v : Value} (h0 : 0 < L.length) (h : V2 A L base w v (L ++ M)) : V4 A L base w v M := .inl ⟨h0, h⟩

end Go.Proofs.Ytkagmelijdfdiaa.CvP
