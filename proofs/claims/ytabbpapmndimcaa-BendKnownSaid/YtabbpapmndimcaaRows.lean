/-
  No cell of these rows narrows 'for every input' (looked for: loops, veiled, ifaces, maps, wideKeys, modest, calm, conditions, laid).
  DERIVED. THE GIVEN ROWS OF THIS SEAT. 6 by the template 'for every input the law returns true; each argument reads behind the call as it read before'; 0 by the template 'total and deterministic' (their statements: YtabbpapmndimcaaTotals.lean).
  GIVEN WITH THE SEED: the statements are not yours to turn. If you find one false, say at which input.
  Laid BY PROGRAM, IN A SANDBOX (cutbox-rows.mjs): the forced cells as the released guide's own fill.sh prints them over the translation b985d1369c8dea62… (all of the seat's roots in one cut). By AI agents, Wed Nov 11 2026. No macro, syntax, notation, axiom, sorry.
-/
import Derived.Test.YtabbpapmndimcaaChecked
import GoSem.Claim
import GoSem.ClaimJoined
import GoSem.ClaimMapViews
import Derived.JoinedTies
import Derived.KernelRfl
namespace Go.Proofs.Ytabbpapmndimcaa
/- THE CELL 'sum', in the pinned program and in every row, IS THE sha256 OF THE DUMP (.gsa) THAT YtabbpapmndimcaaProg.lean LOADS. Nothing in Lean hashes anything: it is a label: what it is worth is what the hold of that sum in a sandbox is worth. -/
noncomputable def Try.pinned : Pinned := { name := "ytabbpapmndimcaa", sum := "b985d1369c8dea62b67dbf74bbdedcc5d0c3cbb54dc06e5e244d013d79098e49", checked := Try.checked }
namespace Rows
def none {H : Type} : Left H := { results := [], args := [] }

/-- 'versallaw5.AffineLaws': WHATEVER THE INPUT: true; the input reads as it did. -/
def affineLawsSpec : ChangeSpec := { name := "affineLaws", fn := fun _ => fun
  | [d1, d2, d3, d4, d5] => { results := [.lit (.bool true)], args := [d1, d2, d3, d4, d5] }
  | _ => none }
def affineLawsRow : OpenClaim := { program := "ytabbpapmndimcaa", sum := "b985d1369c8dea62b67dbf74bbdedcc5d0c3cbb54dc06e5e244d013d79098e49", func := "versal/versallaw5.AffineLaws", spec := "affineLaws", recurses := true, apart := false }
def AffineLawsSaid : Prop := affineLawsRow.holds Try.pinned (OpenSpec.ofChange affineLawsSpec)

/-- ITS FALSE NEIGHBOUR: 'it returns false'. Refute it at one input. -/
def affineLawsWrong : ChangeSpec := { name := "affineLaws", fn := fun _ => fun
  | [d1, d2, d3, d4, d5] => { results := [.lit (.bool false)], args := [d1, d2, d3, d4, d5] }
  | _ => none }
def AffineLawsWrongFalsely : Prop := affineLawsRow.holds Try.pinned (OpenSpec.ofChange affineLawsWrong)

/-- 'versallaw5.AffineKnown': WHATEVER THE INPUT: true; the input reads as it did. -/
def affineKnownSpec : ChangeSpec := { name := "affineKnown", fn := fun _ => fun
  | [] => { results := [.lit (.bool true)], args := [] }
  | _ => none }
def affineKnownRow : OpenClaim := { program := "ytabbpapmndimcaa", sum := "b985d1369c8dea62b67dbf74bbdedcc5d0c3cbb54dc06e5e244d013d79098e49", func := "versal/versallaw5.AffineKnown", spec := "affineKnown", recurses := true, apart := false }
def AffineKnownSaid : Prop := affineKnownRow.holds Try.pinned (OpenSpec.ofChange affineKnownSpec)

/-- ITS FALSE NEIGHBOUR: 'it returns false'. Refute it at one input. -/
def affineKnownWrong : ChangeSpec := { name := "affineKnown", fn := fun _ => fun
  | [] => { results := [.lit (.bool false)], args := [] }
  | _ => none }
def AffineKnownWrongFalsely : Prop := affineKnownRow.holds Try.pinned (OpenSpec.ofChange affineKnownWrong)

/-- 'versallaw5.AffineTells': WHATEVER THE INPUT: true; the input reads as it did. -/
def affineTellsSpec : ChangeSpec := { name := "affineTells", fn := fun _ => fun
  | [d1, d2, d3, d4, d5] => { results := [.lit (.bool true)], args := [d1, d2, d3, d4, d5] }
  | _ => none }
def affineTellsRow : OpenClaim := { program := "ytabbpapmndimcaa", sum := "b985d1369c8dea62b67dbf74bbdedcc5d0c3cbb54dc06e5e244d013d79098e49", func := "versal/versallaw5.AffineTells", spec := "affineTells", recurses := true, apart := false }
def AffineTellsSaid : Prop := affineTellsRow.holds Try.pinned (OpenSpec.ofChange affineTellsSpec)

/-- ITS FALSE NEIGHBOUR: 'it returns false'. Refute it at one input. -/
def affineTellsWrong : ChangeSpec := { name := "affineTells", fn := fun _ => fun
  | [d1, d2, d3, d4, d5] => { results := [.lit (.bool false)], args := [d1, d2, d3, d4, d5] }
  | _ => none }
def AffineTellsWrongFalsely : Prop := affineTellsRow.holds Try.pinned (OpenSpec.ofChange affineTellsWrong)

/-- 'versallaw26.BendKnown': WHATEVER THE INPUT: true; the input reads as it did. -/
def bendKnownSpec : ChangeSpec := { name := "bendKnown", fn := fun _ => fun
  | [] => { results := [.lit (.bool true)], args := [] }
  | _ => none }
def bendKnownRow : OpenClaim := { program := "ytabbpapmndimcaa", sum := "b985d1369c8dea62b67dbf74bbdedcc5d0c3cbb54dc06e5e244d013d79098e49", func := "versal/versallaw26.BendKnown", spec := "bendKnown", unfollowed := true, recurses := true, apart := false }
def BendKnownSaid : Prop := bendKnownRow.holds Try.pinned (OpenSpec.ofChange bendKnownSpec)

/-- ITS FALSE NEIGHBOUR: 'it returns false'. Refute it at one input. -/
def bendKnownWrong : ChangeSpec := { name := "bendKnown", fn := fun _ => fun
  | [] => { results := [.lit (.bool false)], args := [] }
  | _ => none }
def BendKnownWrongFalsely : Prop := bendKnownRow.holds Try.pinned (OpenSpec.ofChange bendKnownWrong)

/-- 'versallaw26.BendTells': WHATEVER THE INPUT: true; the input reads as it did. -/
def bendTellsSpec : ChangeSpec := { name := "bendTells", fn := fun _ => fun
  | [d1, d2, d3] => { results := [.lit (.bool true)], args := [d1, d2, d3] }
  | _ => none }
def bendTellsRow : OpenClaim := { program := "ytabbpapmndimcaa", sum := "b985d1369c8dea62b67dbf74bbdedcc5d0c3cbb54dc06e5e244d013d79098e49", func := "versal/versallaw26.BendTells", spec := "bendTells", unfollowed := true, recurses := true, apart := false }
def BendTellsSaid : Prop := bendTellsRow.holds Try.pinned (OpenSpec.ofChange bendTellsSpec)

/-- ITS FALSE NEIGHBOUR: 'it returns false'. Refute it at one input. -/
def bendTellsWrong : ChangeSpec := { name := "bendTells", fn := fun _ => fun
  | [d1, d2, d3] => { results := [.lit (.bool false)], args := [d1, d2, d3] }
  | _ => none }
def BendTellsWrongFalsely : Prop := bendTellsRow.holds Try.pinned (OpenSpec.ofChange bendTellsWrong)

/-- 'versallaw26.BendTurns': WHATEVER THE INPUT: true; the input reads as it did. -/
def bendTurnsSpec : ChangeSpec := { name := "bendTurns", fn := fun _ => fun
  | [d1, d2, d3, d4, d5] => { results := [.lit (.bool true)], args := [d1, d2, d3, d4, d5] }
  | _ => none }
def bendTurnsRow : OpenClaim := { program := "ytabbpapmndimcaa", sum := "b985d1369c8dea62b67dbf74bbdedcc5d0c3cbb54dc06e5e244d013d79098e49", func := "versal/versallaw26.BendTurns", spec := "bendTurns", unfollowed := true, recurses := true, apart := false }
def BendTurnsSaid : Prop := bendTurnsRow.holds Try.pinned (OpenSpec.ofChange bendTurnsSpec)

/-- ITS FALSE NEIGHBOUR: 'it returns false'. Refute it at one input. -/
def bendTurnsWrong : ChangeSpec := { name := "bendTurns", fn := fun _ => fun
  | [d1, d2, d3, d4, d5] => { results := [.lit (.bool false)], args := [d1, d2, d3, d4, d5] }
  | _ => none }
def BendTurnsWrongFalsely : Prop := bendTurnsRow.holds Try.pinned (OpenSpec.ofChange bendTurnsWrong)

/- THE SECOND FORM. 'bulk': how many values and letters a reading holds, each counted each time it is reached (what is shared counts as often as it is met; a slice's spare places count too). A statement '..UptoSaid' is the law's where the arguments, and the package variables that the reading takes, are together of bulk at most 1048576: NARROWER than '..Said'. Prove '..Said' where nothing that the law and all that it calls make is longer than what came in: it says more and counts as full. Else prove '..UptoSaid'. A law counts once. -/
mutual
def uptoBulk {H : Type} : DataW H → Nat
  | .lit (.string bytes) => bytes.length + 1
  | .lit _ => 1
  | .nil => 1
  | .ptr d => uptoBulk d + 1
  | .slice elems spare => uptoBulkAll elems + uptoBulkAll spare + 1
  | .agg parts => uptoBulkAll parts + 1
  | .iface _ d => uptoBulk d + 1
  | .map entries => uptoBulkEntries entries + 1
  | .held _ => 1
def uptoBulkAll {H : Type} : List (DataW H) → Nat
  | [] => 0
  | d :: r => uptoBulk d + uptoBulkAll r
def uptoBulkEntries {H : Type} : List (Lit × DataW H) → Nat
  | [] => 0
  | x :: r => uptoBulkEntry x + uptoBulkEntries r
def uptoBulkEntry {H : Type} : Lit × DataW H → Nat
  | (.string bytes, d) => bytes.length + uptoBulk d + 1
  | (_, d) => uptoBulk d + 1
 end
def uptoSmall : (H : Type) → List (DataW H) → Bool := fun _ ds => decide (uptoBulkAll ds ≤ 1048576)
def OpenSpec.upto (s : _root_.Go.ChangeSpec) : _root_.Go.OpenSpec := { _root_.Go.OpenSpec.ofChange s with cond := some uptoSmall }

/-- 'versallaw5.AffineLaws', WHERE WHAT IT READS IS OF BULK AT MOST 1048576: true; the input reads as it did. -/
def affineLawsUptoRow : OpenClaim := { program := "ytabbpapmndimcaa", sum := "b985d1369c8dea62b67dbf74bbdedcc5d0c3cbb54dc06e5e244d013d79098e49", func := "versal/versallaw5.AffineLaws", spec := "affineLaws", recurses := true, apart := false, narrowed := true }
def AffineLawsUptoSaid : Prop := affineLawsUptoRow.holds Try.pinned (OpenSpec.upto affineLawsSpec)

/-- 'versallaw5.AffineKnown', WHERE WHAT IT READS IS OF BULK AT MOST 1048576: true; the input reads as it did. -/
def affineKnownUptoRow : OpenClaim := { program := "ytabbpapmndimcaa", sum := "b985d1369c8dea62b67dbf74bbdedcc5d0c3cbb54dc06e5e244d013d79098e49", func := "versal/versallaw5.AffineKnown", spec := "affineKnown", recurses := true, apart := false, narrowed := true }
def AffineKnownUptoSaid : Prop := affineKnownUptoRow.holds Try.pinned (OpenSpec.upto affineKnownSpec)

/-- 'versallaw5.AffineTells', WHERE WHAT IT READS IS OF BULK AT MOST 1048576: true; the input reads as it did. -/
def affineTellsUptoRow : OpenClaim := { program := "ytabbpapmndimcaa", sum := "b985d1369c8dea62b67dbf74bbdedcc5d0c3cbb54dc06e5e244d013d79098e49", func := "versal/versallaw5.AffineTells", spec := "affineTells", recurses := true, apart := false, narrowed := true }
def AffineTellsUptoSaid : Prop := affineTellsUptoRow.holds Try.pinned (OpenSpec.upto affineTellsSpec)

/-- 'versallaw26.BendKnown', WHERE WHAT IT READS IS OF BULK AT MOST 1048576: true; the input reads as it did. -/
def bendKnownUptoRow : OpenClaim := { program := "ytabbpapmndimcaa", sum := "b985d1369c8dea62b67dbf74bbdedcc5d0c3cbb54dc06e5e244d013d79098e49", func := "versal/versallaw26.BendKnown", spec := "bendKnown", unfollowed := true, recurses := true, apart := false, narrowed := true }
def BendKnownUptoSaid : Prop := bendKnownUptoRow.holds Try.pinned (OpenSpec.upto bendKnownSpec)

/-- 'versallaw26.BendTells', WHERE WHAT IT READS IS OF BULK AT MOST 1048576: true; the input reads as it did. -/
def bendTellsUptoRow : OpenClaim := { program := "ytabbpapmndimcaa", sum := "b985d1369c8dea62b67dbf74bbdedcc5d0c3cbb54dc06e5e244d013d79098e49", func := "versal/versallaw26.BendTells", spec := "bendTells", unfollowed := true, recurses := true, apart := false, narrowed := true }
def BendTellsUptoSaid : Prop := bendTellsUptoRow.holds Try.pinned (OpenSpec.upto bendTellsSpec)

/-- 'versallaw26.BendTurns', WHERE WHAT IT READS IS OF BULK AT MOST 1048576: true; the input reads as it did. -/
def bendTurnsUptoRow : OpenClaim := { program := "ytabbpapmndimcaa", sum := "b985d1369c8dea62b67dbf74bbdedcc5d0c3cbb54dc06e5e244d013d79098e49", func := "versal/versallaw26.BendTurns", spec := "bendTurns", unfollowed := true, recurses := true, apart := false, narrowed := true }
def BendTurnsUptoSaid : Prop := bendTurnsUptoRow.holds Try.pinned (OpenSpec.upto bendTurnsSpec)

end Rows
end Go.Proofs.Ytabbpapmndimcaa
