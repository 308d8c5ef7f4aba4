/-
  No cell of these rows narrows 'for every input' (looked for: loops, veiled, ifaces, maps, wideKeys, modest, calm, conditions, laid).
  DERIVED. THE GIVEN ROWS OF THIS SEAT. 11 by the template 'for every input the law returns true; each argument reads behind the call as it read before'; 0 by the template 'total and deterministic' (their statements: YtaohkdieigbccaaTotals.lean).
  GIVEN WITH THE SEED: the statements are not yours to turn. If you find one false, say at which input.
  Laid BY PROGRAM, IN A SANDBOX (cutbox-rows.mjs): the forced cells as the released guide's own fill.sh prints them over the translation a6ad8093361bb09a… (all of the seat's roots in one cut). By AI agents, Wed Nov 11 2026. No macro, syntax, notation, axiom, sorry.
-/
import Derived.Test.YtaohkdieigbccaaChecked
import GoSem.Claim
import GoSem.ClaimJoined
import GoSem.ClaimMapViews
import Derived.JoinedTies
import Derived.KernelRfl
namespace Go.Proofs.Ytaohkdieigbccaa
/- THE CELL 'sum', in the pinned program and in every row, IS THE sha256 OF THE DUMP (.gsa) THAT YtaohkdieigbccaaProg.lean LOADS. Nothing in Lean hashes anything: it is a label: what it is worth is what the hold of that sum in a sandbox is worth. -/
noncomputable def Try.pinned : Pinned := { name := "ytaohkdieigbccaa", sum := "a6ad8093361bb09ad71ecaf7c92f35badecdc073b49198a584d414aa65ef8784", checked := Try.checked }
namespace Rows
def none {H : Type} : Left H := { results := [], args := [] }

/-- 'versallaw4.AngleTurns': WHATEVER THE INPUT: true; the input reads as it did. -/
def angleTurnsSpec : ChangeSpec := { name := "angleTurns", fn := fun _ => fun
  | [d] => { results := [.lit (.bool true)], args := [d] }
  | _ => none }
def angleTurnsRow : OpenClaim := { program := "ytaohkdieigbccaa", sum := "a6ad8093361bb09ad71ecaf7c92f35badecdc073b49198a584d414aa65ef8784", func := "versal/versallaw4.AngleTurns", spec := "angleTurns", recurses := true, apart := false }
def AngleTurnsSaid : Prop := angleTurnsRow.holds Try.pinned (OpenSpec.ofChange angleTurnsSpec)

/-- ITS FALSE NEIGHBOUR: 'it returns false'. Refute it at one input. -/
def angleTurnsWrong : ChangeSpec := { name := "angleTurns", fn := fun _ => fun
  | [d] => { results := [.lit (.bool false)], args := [d] }
  | _ => none }
def AngleTurnsWrongFalsely : Prop := angleTurnsRow.holds Try.pinned (OpenSpec.ofChange angleTurnsWrong)

/-- 'versallaw4.AngleSides': WHATEVER THE INPUT: true; the input reads as it did. -/
def angleSidesSpec : ChangeSpec := { name := "angleSides", fn := fun _ => fun
  | [d1, d2] => { results := [.lit (.bool true)], args := [d1, d2] }
  | _ => none }
def angleSidesRow : OpenClaim := { program := "ytaohkdieigbccaa", sum := "a6ad8093361bb09ad71ecaf7c92f35badecdc073b49198a584d414aa65ef8784", func := "versal/versallaw4.AngleSides", spec := "angleSides", recurses := true, apart := false }
def AngleSidesSaid : Prop := angleSidesRow.holds Try.pinned (OpenSpec.ofChange angleSidesSpec)

/-- ITS FALSE NEIGHBOUR: 'it returns false'. Refute it at one input. -/
def angleSidesWrong : ChangeSpec := { name := "angleSides", fn := fun _ => fun
  | [d1, d2] => { results := [.lit (.bool false)], args := [d1, d2] }
  | _ => none }
def AngleSidesWrongFalsely : Prop := angleSidesRow.holds Try.pinned (OpenSpec.ofChange angleSidesWrong)

/-- 'versallaw23.SweepKnown': WHATEVER THE INPUT: true; the input reads as it did. -/
def sweepKnownSpec : ChangeSpec := { name := "sweepKnown", fn := fun _ => fun
  | [] => { results := [.lit (.bool true)], args := [] }
  | _ => none }
def sweepKnownRow : OpenClaim := { program := "ytaohkdieigbccaa", sum := "a6ad8093361bb09ad71ecaf7c92f35badecdc073b49198a584d414aa65ef8784", func := "versal/versallaw23.SweepKnown", spec := "sweepKnown", apart := false }
def SweepKnownSaid : Prop := sweepKnownRow.holds Try.pinned (OpenSpec.ofChange sweepKnownSpec)

/-- ITS FALSE NEIGHBOUR: 'it returns false'. Refute it at one input. -/
def sweepKnownWrong : ChangeSpec := { name := "sweepKnown", fn := fun _ => fun
  | [] => { results := [.lit (.bool false)], args := [] }
  | _ => none }
def SweepKnownWrongFalsely : Prop := sweepKnownRow.holds Try.pinned (OpenSpec.ofChange sweepKnownWrong)

/-- 'versallaw23.SweepTells': WHATEVER THE INPUT: true; the input reads as it did. -/
def sweepTellsSpec : ChangeSpec := { name := "sweepTells", fn := fun _ => fun
  | [d1, d2, d3, d4, d5, d6, d7] => { results := [.lit (.bool true)], args := [d1, d2, d3, d4, d5, d6, d7] }
  | _ => none }
def sweepTellsRow : OpenClaim := { program := "ytaohkdieigbccaa", sum := "a6ad8093361bb09ad71ecaf7c92f35badecdc073b49198a584d414aa65ef8784", func := "versal/versallaw23.SweepTells", spec := "sweepTells", apart := false }
def SweepTellsSaid : Prop := sweepTellsRow.holds Try.pinned (OpenSpec.ofChange sweepTellsSpec)

/-- ITS FALSE NEIGHBOUR: 'it returns false'. Refute it at one input. -/
def sweepTellsWrong : ChangeSpec := { name := "sweepTells", fn := fun _ => fun
  | [d1, d2, d3, d4, d5, d6, d7] => { results := [.lit (.bool false)], args := [d1, d2, d3, d4, d5, d6, d7] }
  | _ => none }
def SweepTellsWrongFalsely : Prop := sweepTellsRow.holds Try.pinned (OpenSpec.ofChange sweepTellsWrong)

/-- 'versallaw23.SweepTurns': WHATEVER THE INPUT: true; the input reads as it did. -/
def sweepTurnsSpec : ChangeSpec := { name := "sweepTurns", fn := fun _ => fun
  | [d1, d2, d3, d4, d5] => { results := [.lit (.bool true)], args := [d1, d2, d3, d4, d5] }
  | _ => none }
def sweepTurnsRow : OpenClaim := { program := "ytaohkdieigbccaa", sum := "a6ad8093361bb09ad71ecaf7c92f35badecdc073b49198a584d414aa65ef8784", func := "versal/versallaw23.SweepTurns", spec := "sweepTurns", apart := false }
def SweepTurnsSaid : Prop := sweepTurnsRow.holds Try.pinned (OpenSpec.ofChange sweepTurnsSpec)

/-- ITS FALSE NEIGHBOUR: 'it returns false'. Refute it at one input. -/
def sweepTurnsWrong : ChangeSpec := { name := "sweepTurns", fn := fun _ => fun
  | [d1, d2, d3, d4, d5] => { results := [.lit (.bool false)], args := [d1, d2, d3, d4, d5] }
  | _ => none }
def SweepTurnsWrongFalsely : Prop := sweepTurnsRow.holds Try.pinned (OpenSpec.ofChange sweepTurnsWrong)

/-- 'versallaw4.AngleKnown': WHATEVER THE INPUT: true; the input reads as it did. -/
def angleKnownSpec : ChangeSpec := { name := "angleKnown", fn := fun _ => fun
  | [] => { results := [.lit (.bool true)], args := [] }
  | _ => none }
def angleKnownRow : OpenClaim := { program := "ytaohkdieigbccaa", sum := "a6ad8093361bb09ad71ecaf7c92f35badecdc073b49198a584d414aa65ef8784", func := "versal/versallaw4.AngleKnown", spec := "angleKnown", recurses := true, apart := false }
def AngleKnownSaid : Prop := angleKnownRow.holds Try.pinned (OpenSpec.ofChange angleKnownSpec)

/-- ITS FALSE NEIGHBOUR: 'it returns false'. Refute it at one input. -/
def angleKnownWrong : ChangeSpec := { name := "angleKnown", fn := fun _ => fun
  | [] => { results := [.lit (.bool false)], args := [] }
  | _ => none }
def AngleKnownWrongFalsely : Prop := angleKnownRow.holds Try.pinned (OpenSpec.ofChange angleKnownWrong)

/-- 'versallaw4.AngleTells': WHATEVER THE INPUT: true; the input reads as it did. -/
def angleTellsSpec : ChangeSpec := { name := "angleTells", fn := fun _ => fun
  | [d1, d2, d3, d4] => { results := [.lit (.bool true)], args := [d1, d2, d3, d4] }
  | _ => none }
def angleTellsRow : OpenClaim := { program := "ytaohkdieigbccaa", sum := "a6ad8093361bb09ad71ecaf7c92f35badecdc073b49198a584d414aa65ef8784", func := "versal/versallaw4.AngleTells", spec := "angleTells", recurses := true, apart := false }
def AngleTellsSaid : Prop := angleTellsRow.holds Try.pinned (OpenSpec.ofChange angleTellsSpec)

/-- ITS FALSE NEIGHBOUR: 'it returns false'. Refute it at one input. -/
def angleTellsWrong : ChangeSpec := { name := "angleTells", fn := fun _ => fun
  | [d1, d2, d3, d4] => { results := [.lit (.bool false)], args := [d1, d2, d3, d4] }
  | _ => none }
def AngleTellsWrongFalsely : Prop := angleTellsRow.holds Try.pinned (OpenSpec.ofChange angleTellsWrong)

/-- 'versallaw22.RadialKnown': WHATEVER THE INPUT: true; the input reads as it did. -/
def radialKnownSpec : ChangeSpec := { name := "radialKnown", fn := fun _ => fun
  | [] => { results := [.lit (.bool true)], args := [] }
  | _ => none }
def radialKnownRow : OpenClaim := { program := "ytaohkdieigbccaa", sum := "a6ad8093361bb09ad71ecaf7c92f35badecdc073b49198a584d414aa65ef8784", func := "versal/versallaw22.RadialKnown", spec := "radialKnown", unfollowed := true, recurses := true, apart := false }
def RadialKnownSaid : Prop := radialKnownRow.holds Try.pinned (OpenSpec.ofChange radialKnownSpec)

/-- ITS FALSE NEIGHBOUR: 'it returns false'. Refute it at one input. -/
def radialKnownWrong : ChangeSpec := { name := "radialKnown", fn := fun _ => fun
  | [] => { results := [.lit (.bool false)], args := [] }
  | _ => none }
def RadialKnownWrongFalsely : Prop := radialKnownRow.holds Try.pinned (OpenSpec.ofChange radialKnownWrong)

/-- 'versallaw22.RadialTells': WHATEVER THE INPUT: true; the input reads as it did. -/
def radialTellsSpec : ChangeSpec := { name := "radialTells", fn := fun _ => fun
  | [d1, d2] => { results := [.lit (.bool true)], args := [d1, d2] }
  | _ => none }
def radialTellsRow : OpenClaim := { program := "ytaohkdieigbccaa", sum := "a6ad8093361bb09ad71ecaf7c92f35badecdc073b49198a584d414aa65ef8784", func := "versal/versallaw22.RadialTells", spec := "radialTells", unfollowed := true, recurses := true, apart := false }
def RadialTellsSaid : Prop := radialTellsRow.holds Try.pinned (OpenSpec.ofChange radialTellsSpec)

/-- ITS FALSE NEIGHBOUR: 'it returns false'. Refute it at one input. -/
def radialTellsWrong : ChangeSpec := { name := "radialTells", fn := fun _ => fun
  | [d1, d2] => { results := [.lit (.bool false)], args := [d1, d2] }
  | _ => none }
def RadialTellsWrongFalsely : Prop := radialTellsRow.holds Try.pinned (OpenSpec.ofChange radialTellsWrong)

/-- 'versallaw22.RadialRings': WHATEVER THE INPUT: true; the input reads as it did. -/
def radialRingsSpec : ChangeSpec := { name := "radialRings", fn := fun _ => fun
  | [d1, d2, d3, d4, d5] => { results := [.lit (.bool true)], args := [d1, d2, d3, d4, d5] }
  | _ => none }
def radialRingsRow : OpenClaim := { program := "ytaohkdieigbccaa", sum := "a6ad8093361bb09ad71ecaf7c92f35badecdc073b49198a584d414aa65ef8784", func := "versal/versallaw22.RadialRings", spec := "radialRings", unfollowed := true, recurses := true, apart := false }
def RadialRingsSaid : Prop := radialRingsRow.holds Try.pinned (OpenSpec.ofChange radialRingsSpec)

/-- ITS FALSE NEIGHBOUR: 'it returns false'. Refute it at one input. -/
def radialRingsWrong : ChangeSpec := { name := "radialRings", fn := fun _ => fun
  | [d1, d2, d3, d4, d5] => { results := [.lit (.bool false)], args := [d1, d2, d3, d4, d5] }
  | _ => none }
def RadialRingsWrongFalsely : Prop := radialRingsRow.holds Try.pinned (OpenSpec.ofChange radialRingsWrong)

/-- 'versallaw22.RadialTubes': WHATEVER THE INPUT: true; the input reads as it did. -/
def radialTubesSpec : ChangeSpec := { name := "radialTubes", fn := fun _ => fun
  | [d1, d2, d3, d4] => { results := [.lit (.bool true)], args := [d1, d2, d3, d4] }
  | _ => none }
def radialTubesRow : OpenClaim := { program := "ytaohkdieigbccaa", sum := "a6ad8093361bb09ad71ecaf7c92f35badecdc073b49198a584d414aa65ef8784", func := "versal/versallaw22.RadialTubes", spec := "radialTubes", unfollowed := true, recurses := true, apart := false }
def RadialTubesSaid : Prop := radialTubesRow.holds Try.pinned (OpenSpec.ofChange radialTubesSpec)

/-- ITS FALSE NEIGHBOUR: 'it returns false'. Refute it at one input. -/
def radialTubesWrong : ChangeSpec := { name := "radialTubes", fn := fun _ => fun
  | [d1, d2, d3, d4] => { results := [.lit (.bool false)], args := [d1, d2, d3, d4] }
  | _ => none }
def RadialTubesWrongFalsely : Prop := radialTubesRow.holds Try.pinned (OpenSpec.ofChange radialTubesWrong)

/- THE SECOND FORM. 'bulk': how many values and letters a reading holds, each counted each time it is reached (what is shared counts as often as it is met; a slice's spare places count too). A statement '..UptoSaid' is the law's where the arguments, and the package variables that the reading takes, are together of bulk at most 1048576: NARROWER than '..Said'. Prove '..Said' where nothing that the law and all that it calls make is longer than what came in: it says more and counts as full. Else prove '..UptoSaid'. A law counts once. -/
mutual
def uptoBulk {H : Type} : DataW H → Nat
  | .lit (.string bytes) => bytes.length + 1
  | .lit _ => 1
  | .nil => 1
  | .ptr d => uptoBulk d + 1
  | .slice elems spare => uptoBulkAll elems + uptoBulkAll spare + 1
  | .agg parts => uptoBulkAll parts + 1
  | .iface _ d => uptoBulk d + 1
  | .map entries => uptoBulkEntries entries + 1
  | .held _ => 1
def uptoBulkAll {H : Type} : List (DataW H) → Nat
  | [] => 0
  | d :: r => uptoBulk d + uptoBulkAll r
def uptoBulkEntries {H : Type} : List (Lit × DataW H) → Nat
  | [] => 0
  | x :: r => uptoBulkEntry x + uptoBulkEntries r
def uptoBulkEntry {H : Type} : Lit × DataW H → Nat
  | (.string bytes, d) => bytes.length + uptoBulk d + 1
  | (_, d) => uptoBulk d + 1
 end
def uptoSmall : (H : Type) → List (DataW H) → Bool := fun _ ds => decide (uptoBulkAll ds ≤ 1048576)
def OpenSpec.upto (s : _root_.Go.ChangeSpec) : _root_.Go.OpenSpec := { _root_.Go.OpenSpec.ofChange s with cond := some uptoSmall }

/-- 'versallaw4.AngleTurns', WHERE WHAT IT READS IS OF BULK AT MOST 1048576: true; the input reads as it did. -/
def angleTurnsUptoRow : OpenClaim := { program := "ytaohkdieigbccaa", sum := "a6ad8093361bb09ad71ecaf7c92f35badecdc073b49198a584d414aa65ef8784", func := "versal/versallaw4.AngleTurns", spec := "angleTurns", recurses := true, apart := false, narrowed := true }
def AngleTurnsUptoSaid : Prop := angleTurnsUptoRow.holds Try.pinned (OpenSpec.upto angleTurnsSpec)

/-- 'versallaw4.AngleSides', WHERE WHAT IT READS IS OF BULK AT MOST 1048576: true; the input reads as it did. -/
def angleSidesUptoRow : OpenClaim := { program := "ytaohkdieigbccaa", sum := "a6ad8093361bb09ad71ecaf7c92f35badecdc073b49198a584d414aa65ef8784", func := "versal/versallaw4.AngleSides", spec := "angleSides", recurses := true, apart := false, narrowed := true }
def AngleSidesUptoSaid : Prop := angleSidesUptoRow.holds Try.pinned (OpenSpec.upto angleSidesSpec)

/-- 'versallaw23.SweepKnown', WHERE WHAT IT READS IS OF BULK AT MOST 1048576: true; the input reads as it did. -/
def sweepKnownUptoRow : OpenClaim := { program := "ytaohkdieigbccaa", sum := "a6ad8093361bb09ad71ecaf7c92f35badecdc073b49198a584d414aa65ef8784", func := "versal/versallaw23.SweepKnown", spec := "sweepKnown", apart := false, narrowed := true }
def SweepKnownUptoSaid : Prop := sweepKnownUptoRow.holds Try.pinned (OpenSpec.upto sweepKnownSpec)

/-- 'versallaw23.SweepTells', WHERE WHAT IT READS IS OF BULK AT MOST 1048576: true; the input reads as it did. -/
def sweepTellsUptoRow : OpenClaim := { program := "ytaohkdieigbccaa", sum := "a6ad8093361bb09ad71ecaf7c92f35badecdc073b49198a584d414aa65ef8784", func := "versal/versallaw23.SweepTells", spec := "sweepTells", apart := false, narrowed := true }
def SweepTellsUptoSaid : Prop := sweepTellsUptoRow.holds Try.pinned (OpenSpec.upto sweepTellsSpec)

/-- 'versallaw23.SweepTurns', WHERE WHAT IT READS IS OF BULK AT MOST 1048576: true; the input reads as it did. -/
def sweepTurnsUptoRow : OpenClaim := { program := "ytaohkdieigbccaa", sum := "a6ad8093361bb09ad71ecaf7c92f35badecdc073b49198a584d414aa65ef8784", func := "versal/versallaw23.SweepTurns", spec := "sweepTurns", apart := false, narrowed := true }
def SweepTurnsUptoSaid : Prop := sweepTurnsUptoRow.holds Try.pinned (OpenSpec.upto sweepTurnsSpec)

/-- 'versallaw4.AngleKnown', WHERE WHAT IT READS IS OF BULK AT MOST 1048576: true; the input reads as it did. -/
def angleKnownUptoRow : OpenClaim := { program := "ytaohkdieigbccaa", sum := "a6ad8093361bb09ad71ecaf7c92f35badecdc073b49198a584d414aa65ef8784", func := "versal/versallaw4.AngleKnown", spec := "angleKnown", recurses := true, apart := false, narrowed := true }
def AngleKnownUptoSaid : Prop := angleKnownUptoRow.holds Try.pinned (OpenSpec.upto angleKnownSpec)

/-- 'versallaw4.AngleTells', WHERE WHAT IT READS IS OF BULK AT MOST 1048576: true; the input reads as it did. -/
def angleTellsUptoRow : OpenClaim := { program := "ytaohkdieigbccaa", sum := "a6ad8093361bb09ad71ecaf7c92f35badecdc073b49198a584d414aa65ef8784", func := "versal/versallaw4.AngleTells", spec := "angleTells", recurses := true, apart := false, narrowed := true }
def AngleTellsUptoSaid : Prop := angleTellsUptoRow.holds Try.pinned (OpenSpec.upto angleTellsSpec)

/-- 'versallaw22.RadialKnown', WHERE WHAT IT READS IS OF BULK AT MOST 1048576: true; the input reads as it did. -/
def radialKnownUptoRow : OpenClaim := { program := "ytaohkdieigbccaa", sum := "a6ad8093361bb09ad71ecaf7c92f35badecdc073b49198a584d414aa65ef8784", func := "versal/versallaw22.RadialKnown", spec := "radialKnown", unfollowed := true, recurses := true, apart := false, narrowed := true }
def RadialKnownUptoSaid : Prop := radialKnownUptoRow.holds Try.pinned (OpenSpec.upto radialKnownSpec)

/-- 'versallaw22.RadialTells', WHERE WHAT IT READS IS OF BULK AT MOST 1048576: true; the input reads as it did. -/
def radialTellsUptoRow : OpenClaim := { program := "ytaohkdieigbccaa", sum := "a6ad8093361bb09ad71ecaf7c92f35badecdc073b49198a584d414aa65ef8784", func := "versal/versallaw22.RadialTells", spec := "radialTells", unfollowed := true, recurses := true, apart := false, narrowed := true }
def RadialTellsUptoSaid : Prop := radialTellsUptoRow.holds Try.pinned (OpenSpec.upto radialTellsSpec)

/-- 'versallaw22.RadialRings', WHERE WHAT IT READS IS OF BULK AT MOST 1048576: true; the input reads as it did. -/
def radialRingsUptoRow : OpenClaim := { program := "ytaohkdieigbccaa", sum := "a6ad8093361bb09ad71ecaf7c92f35badecdc073b49198a584d414aa65ef8784", func := "versal/versallaw22.RadialRings", spec := "radialRings", unfollowed := true, recurses := true, apart := false, narrowed := true }
def RadialRingsUptoSaid : Prop := radialRingsUptoRow.holds Try.pinned (OpenSpec.upto radialRingsSpec)

/-- 'versallaw22.RadialTubes', WHERE WHAT IT READS IS OF BULK AT MOST 1048576: true; the input reads as it did. -/
def radialTubesUptoRow : OpenClaim := { program := "ytaohkdieigbccaa", sum := "a6ad8093361bb09ad71ecaf7c92f35badecdc073b49198a584d414aa65ef8784", func := "versal/versallaw22.RadialTubes", spec := "radialTubes", unfollowed := true, recurses := true, apart := false, narrowed := true }
def RadialTubesUptoSaid : Prop := radialTubesUptoRow.holds Try.pinned (OpenSpec.upto radialTubesSpec)

end Rows
end Go.Proofs.Ytaohkdieigbccaa
