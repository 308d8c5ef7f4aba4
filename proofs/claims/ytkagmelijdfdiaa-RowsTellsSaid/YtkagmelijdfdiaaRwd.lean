/- What a slice reads as, as a sentence that stays while memory grows: for regions over Rgw. No conditions of ours. -/
import Derived.Test.YtkagmelijdfdiaaRgw
namespace Go.Proofs.Ytkagmelijdfdiaa.Rwd
open Go Go.RowKit Go.Proofs.Ytkagmelijdfdiaa.Reg Go.Proofs.Ytkagmelijdfdiaa.Rgw Go.Proofs.YtkagmelijdfdiaaW.PrintWords

/-- a slice that reads so -/
def RD {α : Type} (d : Kd α) (L : List α) (w : World) (v : Value) : Prop := ∃ (A : Option Addr) (k : Nat), v = .slice A L.length k ∧ Kd.C d w A L.length L ∧ L.length ≤ k
theorem RD.stable {α : Type} (d : Kd α) (L : List α) : Stable (RD d L) := fun _ _ _ hb ⟨A, k, e, hC, hk⟩ => ⟨A, k, e, Kd.C_below hC hb, hk⟩
theorem RD.of_R {α : Type} {d : Kd α} {e : Nat} {w : World} {base : Nat} {ok : Nat → Prop} {v : Value} {L : List α} (h : Kd.R d e w base ok v L) : RD d L w v := by
  obtain ⟨A, c, rfl⟩ := Kd.R_slice h
  exact ⟨A, c, rfl, (Kd.R_reads' h).2.2, (Kd.R_reads' h).2.1⟩
theorem RD.nil {α : Type} (d : Kd α) (w : World) : RD d [] w (.slice none 0 0) := ⟨none, 0, rfl, Kd.C_nil _ _, Nat.le_refl _⟩
/-- two results, the second one known -/
def TU (p : World → Value → Prop) (e : Value) (w : World) (v : Value) : Prop := ∃ u, v = .tuple #[u, e] ∧ p w u
theorem TU.stable {p : World → Value → Prop} (hp : Stable p) (e : Value) : Stable (TU p e) := fun _ _ _ hb ⟨u, hv, hu⟩ => ⟨u, hv, hp _ _ _ hb hu⟩
theorem stays_and {F G : World → Prop} (h : Stays F) (k : Stays G) : Stays (fun w => F w ∧ G w) := fun _ _ hb hh => ⟨h _ _ hb hh.1, k _ _ hb hh.2⟩
theorem stays_true : Stays (fun _ => True) := fun _ _ _ _ => trivial
theorem stays_C {α : Type} (d : Kd α) (A : Option Addr) (n : Nat) (L : List α) : Stays (fun w => Kd.C d w A n L) := fun _ _ hb h => Kd.C_below h hb
theorem src {w : World} {b : Nat} {cs : List Value} {t : TypeId} (h : w.heap[b]? = some (.cells cs.toArray t (0, 0))) : ∀ (j : Nat) v, cs[j]? = some v → w.cell? ((⟨b, 0, none⟩ : Addr).add j) = some v := by
  intro j v hj
  have e : (⟨b, 0, none⟩ : Addr).add j = ⟨b, 0 + j, none⟩ := by unfold Addr.add; split <;> simp_all
  rw [e]; simp [World.cell?, h, hj]
theorem RD.lit8 (Z : List Int) {w : World} {b : Nat} {t : TypeId} (h : w.heap[b]? = some (.cells (Z.map (Value.int .u8)).toArray t (0, 0))) (hl : Z.length ≤ 9223372036854775807) : RD (Kd.int .u8) Z w (.slice (some ⟨b, 0, none⟩) Z.length Z.length) := by
  refine ⟨_, _, rfl, ⟨rfl, hl, fun _ => ⟨_, rfl, fun j p hj => ⟨[.int .u8 p], rfl, rfl, fun i u hu => ?_⟩⟩⟩, Nat.le_refl _⟩
  match i, hu with
  | 0, hu => exact src h (j * 1 + 0) u (by rw [Nat.mul_one, Nat.add_zero, List.getElem?_map, hj]; exact hu)
  | i + 1, hu => cases hu
end Go.Proofs.Ytkagmelijdfdiaa.Rwd
