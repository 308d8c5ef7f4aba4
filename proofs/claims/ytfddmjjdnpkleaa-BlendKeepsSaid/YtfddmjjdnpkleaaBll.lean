/- What follows of the plain arithmetic of blending: the laws, without any program. No conditions of ours. -/
import Derived.Test.YtfddmjjdnpkleaaBlm
namespace Go.Proofs.Ytfddmjjdnpkleaa.Blm
open Go.RowKit Go.Proofs.YtfddmjjdnpkleaaW.PrintWords Go.Proofs.Ytfddmjjdnpkleaa.M

/-! ### what follows -/
theorem comp1_bd (s d f g : Int) : 0 ≤ comp1 s d f g ∧ comp1 s d f g ≤ 255 := by
  have h1 := part_bd s f
  have h2 := part_bd d g
  unfold comp1 mn; omega
theorem comp1_mono {s d s' d' : Int} (f g : Int) (h1 : s ≤ s') (h2 : d ≤ d') : comp1 s d f g ≤ comp1 s' d' f g := by
  have h3 := part_mono (c := f) h1
  have h4 := part_mono (c := g) h2
  unfold comp1 mn; omega
theorem one_bd {al : Int} (h : 0 ≤ al) (pt s d sa da m : Int) : 0 ≤ one al pt s d sa da m ∧ one al pt s d sa da m ≤ al := by
  have h1 := part_bd s (nt da)
  have h2 := part_bd d (nt sa)
  have h3 := part_bd pt m
  unfold one mn; omega
theorem blend_keeps {m : Int} {s d : P4} (hs : premul s) (hd : premul d) : premul (blend m s d) := by
  unfold premul at hs hd
  unfold blend
  split
  · unfold premul right composed
    dsimp only
    have b1 := comp1_bd s.1 d.1 (factors m s.2.2.2 d.2.2.2).1 (factors m s.2.2.2 d.2.2.2).2
    have b2 := comp1_bd s.2.1 d.2.1 (factors m s.2.2.2 d.2.2.2).1 (factors m s.2.2.2 d.2.2.2).2
    have b3 := comp1_bd s.2.2.1 d.2.2.1 (factors m s.2.2.2 d.2.2.2).1 (factors m s.2.2.2 d.2.2.2).2
    have b4 := comp1_bd s.2.2.2 d.2.2.2 (factors m s.2.2.2 d.2.2.2).1 (factors m s.2.2.2 d.2.2.2).2
    exact ⟨⟨b1, b2, b3, b4⟩, comp1_mono _ _ hs.2.1 hd.2.1, comp1_mono _ _ hs.2.2.1 hd.2.2.1, comp1_mono _ _ hs.2.2.2 hd.2.2.2⟩
  · unfold premul right
    dsimp only
    have b4 := comp1_bd s.2.2.2 d.2.2.2 255 (nt s.2.2.2)
    have o1 := fun m => one_bd b4.1 (part s.2.2.2 d.2.2.2) s.1 d.1 s.2.2.2 d.2.2.2 m
    have o2 := fun m => one_bd b4.1 (part s.2.2.2 d.2.2.2) s.2.1 d.2.1 s.2.2.2 d.2.2.2 m
    have o3 := fun m => one_bd b4.1 (part s.2.2.2 d.2.2.2) s.2.2.1 d.2.2.1 s.2.2.2 d.2.2.2 m
    exact ⟨⟨⟨(o1 _).1, Int.le_trans (o1 _).2 b4.2⟩, ⟨(o2 _).1, Int.le_trans (o2 _).2 b4.2⟩, ⟨(o3 _).1, Int.le_trans (o3 _).2 b4.2⟩, b4⟩, (o1 _).2, (o2 _).2, (o3 _).2⟩
end Go.Proofs.Ytfddmjjdnpkleaa.Blm
