/- The bytes of two pixels, by both. -/
import Derived.Test.YtkeacdpphmdodaaPxR
import Derived.Test.YtkeacdpphmdodaaRgv
namespace Go.Proofs.Ytkeacdpphmdodaa.PxB
open Go.RowKit Go.Proofs.YtkeacdpphmdodaaW.PrintWords Go.Proofs.YtkeacdpphmdodaaW.PrintLast Go.Proofs.YtkeacdpphmdodaaW.PrintMore Go.Proofs.Ytkeacdpphmdodaa.PPixelTells Go.Proofs.Ytkeacdpphmdodaa.M Go.Proofs.Ytkeacdpphmdodaa.Blm Go.Proofs.Ytkeacdpphmdodaa.Reg Go.Proofs.Ytkeacdpphmdodaa.PxW Go.Proofs.Ytkeacdpphmdodaa.PxG Go.Proofs.Ytkeacdpphmdodaa.PxR
attribute [local go_sem] max2_mx min2_mn max_two min_two max_three min_three max_four min_four
set_option linter.unusedVariables false
set_option linter.unusedSimpArgs false

def two (p q : P4) : List S25 := [⟨p.1, p.2.1, p.2.2.1, p.2.2.2⟩, ⟨q.1, q.2.1, q.2.2.1, q.2.2.2⟩]
def bts (p q : P4) : List Int := [(tk p).1 % 256, (tk p).2.1 % 256, (tk p).2.2.1 % 256, (tk p).2.2.2 % 256, (tk q).1 % 256, (tk q).2.1 % 256, (tk q).2.2.1 % 256, (tk q).2.2.2 % 256]
theorem bytes_f (p q : P4) : pixel_Bytes.f 3 (two p q) = some (bts p q) := by
  have h := taken_f p
  have k := taken_f q
  have e0 : rd_T25 (two p q) 0 = ⟨p.1, p.2.1, p.2.2.1, p.2.2.2⟩ := rfl
  have e1 : rd_T25 (two p q) 1 = ⟨q.1, q.2.1, q.2.2.1, q.2.2.2⟩ := rfl
  have w1 : wrap64 (0 + 1) = 1 := by decide +kernel
  have w2 : wrap64 (1 + 1) = 2 := by decide +kernel
  unfold pixel_Bytes.f
  rw [show ((two p q).length : Int) = 2 from rfl, pixel_Bytes.l0, if_pos (by decide), if_pos (by decide), if_pos (by rw [show ((two p q).length : Int) = 2 from rfl]; decide), e0]
  dsimp only
  rw [h]
  simp only [Option.bind_some]
  rw [if_pos (by simp), w1, pixel_Bytes.l0, if_pos (by decide), if_pos (by decide), if_pos (by rw [show ((two p q).length : Int) = 2 from rfl]; decide), e1]
  dsimp only
  rw [k]
  simp only [Option.bind_some]
  rw [if_pos (by simp), w2, pixel_Bytes.l0, if_neg (by decide)]
  rfl
theorem rbytes_f (p q : P4) : versalref12_Bytes.f 3 (two p q) = some (bts p q) := by
  have h := rown_f p
  have k := rown_f q
  have e0 : rd_T25 (two p q) 0 = ⟨p.1, p.2.1, p.2.2.1, p.2.2.2⟩ := rfl
  have e1 : rd_T25 (two p q) 1 = ⟨q.1, q.2.1, q.2.2.1, q.2.2.2⟩ := rfl
  have el : ((two p q).length : Int) = 2 := rfl
  have w1 : wrap64 (0 + 1) = 1 := by decide +kernel
  have w2 : wrap64 (1 + 1) = 2 := by decide +kernel
  unfold versalref12_Bytes.f
  rw [versalref12_Bytes.l0, el, if_pos (by decide), if_pos (by decide), e0]
  dsimp only
  rw [h]
  simp only [Option.bind_some]
  rw [if_pos (by simp), w1, versalref12_Bytes.l0, el, if_pos (by decide), if_pos (by decide), e1]
  dsimp only
  rw [k]
  simp only [Option.bind_some]
  rw [if_pos (by simp), w2, versalref12_Bytes.l0, el, if_neg (by decide)]
  rfl
theorem src {w : World} {b : Nat} {cs : List Value} {t : TypeId} (h : w.heap[b]? = some (.cells cs.toArray t (0, 0))) : ∀ (j : Nat) v, cs[j]? = some v → w.cell? ((⟨b, 0, none⟩ : Addr).add j) = some v := by
  intro j v hj
  have e : (⟨b, 0, none⟩ : Addr).add j = ⟨b, 0 + j, none⟩ := by unfold Addr.add; split <;> simp_all
  rw [e]; simp [World.cell?, h, hj]
abbrev cs8 (p q : P4) : Array Value := #[.int .i64 p.1, .int .i64 p.2.1, .int .i64 p.2.2.1, .int .i64 p.2.2.2, .int .i64 q.1, .int .i64 q.2.1, .int .i64 q.2.2.1, .int .i64 q.2.2.2]
theorem C_two (p q : P4) {w : World} {b : Nat} (h : w.heap[b]? = some (.cells (cs8 p q) 25 (0, 0))) : Kd.C k25 w (some ⟨b, 0, none⟩) 2 (two p q) := by
  have hs := src (cs := (cs8 p q).toList) (by simpa using h)
  refine ⟨rfl, by decide, fun _ => ⟨_, rfl, fun j x hj => ?_⟩⟩
  match j, hj with
  | 0, hj =>
    obtain rfl := Option.some.inj hj
    refine ⟨_, rfl, k25_mk w _, fun i u hu => ?_⟩
    match i, hu with
    | 0, hu => exact hs 0 u hu
    | 1, hu => exact hs 1 u hu
    | 2, hu => exact hs 2 u hu
    | 3, hu => exact hs 3 u hu
    | i + 4, hu => cases hu
  | 1, hj =>
    obtain rfl := Option.some.inj hj
    refine ⟨_, rfl, k25_mk w _, fun i u hu => ?_⟩
    match i, hu with
    | 0, hu => exact hs 4 u hu
    | 1, hu => exact hs 5 u hu
    | 2, hu => exact hs 6 u hu
    | 3, hu => exact hs 7 u hu
    | i + 4, hu => cases hu
  | j + 2, hj => cases hj
/-- a slice of bytes, of the run's own -/
def OwnS (Z : List Int) (w : World) (v : Value) : Prop := ∃ base, Kd.R (Kd.int .u8) 5 w base (fun _ => True) v Z
theorem OwnS.stable (Z : List Int) : Rgv.Stable (OwnS Z) := fun _ _ _ hb ⟨base, h⟩ => ⟨base, Kd.R_below h hb⟩
theorem OwnS.string {Z : List Int} {w : World} {v : Value} (h : OwnS Z w v) : (convert 43 9 v).run Try.prog w = .ok (.string (strOfNums Z)) w := by
  obtain ⟨base, h⟩ := h
  exact own_string (P := Try.prog) Try.underlying43 Try.underlying5 Try.underlying9 (Kd.own_of_R h)
theorem b38 (p q : P4) (v : Value) (w : World) (h : Rgv.Row 25 2 (cs8 p q) w v) : Calls Try.prog 38 #[v] w fun e w' => ∃ u, e = .returned u ∧ OwnS (bts p q) w' u ∧ Below w.heap.size w w' := by
  obtain ⟨b, rfl, hb⟩ := h
  exact (pixel_Bytes.calls 3 (some ⟨b, 0, none⟩) 2 (two p q) (bts p q) w (C_two p q hb) (Nat.le_refl 2) (bytes_f p q)).mono (fun e w1 ⟨u, he, hR, hB⟩ => ⟨u, he, ⟨_, hR⟩, hB⟩)
theorem b47 (p q : P4) (v : Value) (w : World) (h : Rgv.Row 25 2 (cs8 p q) w v) : Calls Try.prog 47 #[v] w fun e w' => ∃ u, e = .returned u ∧ OwnS (bts p q) w' u ∧ Below w.heap.size w w' := by
  obtain ⟨b, rfl, hb⟩ := h
  exact (versalref12_Bytes.calls 3 (some ⟨b, 0, none⟩) 2 (two p q) (bts p q) w (C_two p q hb) (Nat.le_refl 2) (rbytes_f p q)).mono (fun e w1 ⟨u, he, hR, hB⟩ => ⟨u, he, ⟨_, hR⟩, hB⟩)

end Go.Proofs.Ytkeacdpphmdodaa.PxB
