/-
  No cell of these rows narrows 'for every input' (looked for: loops, veiled, ifaces, maps, wideKeys, modest, calm, conditions, laid).
  DERIVED. THE GIVEN ROWS OF THIS SEAT. 11 by the template 'for every input the law returns true; each argument reads behind the call as it read before'; 0 by the template 'total and deterministic' (their statements: YtkeacdpphmdodaaTotals.lean).
  GIVEN WITH THE SEED: the statements are not yours to turn. If you find one false, say at which input.
  Laid BY PROGRAM, IN A SANDBOX (cutbox-rows.mjs): the forced cells as the released guide's own fill.sh prints them over the translation d6ee4ae24658d7ac… (all of the seat's roots in one cut). By AI agents, Wed Nov 11 2026. No macro, syntax, notation, axiom, sorry.
-/
import Derived.Test.YtkeacdpphmdodaaChecked
import GoSem.Claim
import GoSem.ClaimJoined
import GoSem.ClaimMapViews
import Derived.JoinedTies
import Derived.KernelRfl
namespace Go.Proofs.Ytkeacdpphmdodaa
/- THE CELL 'sum', in the pinned program and in every row, IS THE sha256 OF THE DUMP (.gsa) THAT YtkeacdpphmdodaaProg.lean LOADS. Nothing in Lean hashes anything: it is a label: what it is worth is what the hold of that sum in a sandbox is worth. -/
noncomputable def Try.pinned : Pinned := { name := "ytkeacdpphmdodaa", sum := "d6ee4ae24658d7acd555d913d3fff58b614c55a6ef00ab7c336c72611e46ee90", checked := Try.checked }
namespace Rows
def none {H : Type} : Left H := { results := [], args := [] }

/-- 'versallaw12.PixelParts': WHATEVER THE INPUT: true; the input reads as it did. -/
def pixelPartsSpec : ChangeSpec := { name := "pixelParts", fn := fun _ => fun
  | [d1, d2, d3] => { results := [.lit (.bool true)], args := [d1, d2, d3] }
  | _ => none }
def pixelPartsRow : OpenClaim := { program := "ytkeacdpphmdodaa", sum := "d6ee4ae24658d7acd555d913d3fff58b614c55a6ef00ab7c336c72611e46ee90", func := "versal/versallaw12.PixelParts", spec := "pixelParts", unfollowed := true, recurses := true, apart := false }
def PixelPartsSaid : Prop := pixelPartsRow.holds Try.pinned (OpenSpec.ofChange pixelPartsSpec)

/-- ITS FALSE NEIGHBOUR: 'it returns false'. Refute it at one input. -/
def pixelPartsWrong : ChangeSpec := { name := "pixelParts", fn := fun _ => fun
  | [d1, d2, d3] => { results := [.lit (.bool false)], args := [d1, d2, d3] }
  | _ => none }
def PixelPartsWrongFalsely : Prop := pixelPartsRow.holds Try.pinned (OpenSpec.ofChange pixelPartsWrong)

/-- 'versallaw21.LinearKnown': WHATEVER THE INPUT: true; the input reads as it did. -/
def linearKnownSpec : ChangeSpec := { name := "linearKnown", fn := fun _ => fun
  | [] => { results := [.lit (.bool true)], args := [] }
  | _ => none }
def linearKnownRow : OpenClaim := { program := "ytkeacdpphmdodaa", sum := "d6ee4ae24658d7acd555d913d3fff58b614c55a6ef00ab7c336c72611e46ee90", func := "versal/versallaw21.LinearKnown", spec := "linearKnown", apart := false }
def LinearKnownSaid : Prop := linearKnownRow.holds Try.pinned (OpenSpec.ofChange linearKnownSpec)

/-- ITS FALSE NEIGHBOUR: 'it returns false'. Refute it at one input. -/
def linearKnownWrong : ChangeSpec := { name := "linearKnown", fn := fun _ => fun
  | [] => { results := [.lit (.bool false)], args := [] }
  | _ => none }
def LinearKnownWrongFalsely : Prop := linearKnownRow.holds Try.pinned (OpenSpec.ofChange linearKnownWrong)

/-- 'versallaw21.LinearTells': WHATEVER THE INPUT: true; the input reads as it did. -/
def linearTellsSpec : ChangeSpec := { name := "linearTells", fn := fun _ => fun
  | [d1, d2] => { results := [.lit (.bool true)], args := [d1, d2] }
  | _ => none }
def linearTellsRow : OpenClaim := { program := "ytkeacdpphmdodaa", sum := "d6ee4ae24658d7acd555d913d3fff58b614c55a6ef00ab7c336c72611e46ee90", func := "versal/versallaw21.LinearTells", spec := "linearTells", apart := false }
def LinearTellsSaid : Prop := linearTellsRow.holds Try.pinned (OpenSpec.ofChange linearTellsSpec)

/-- ITS FALSE NEIGHBOUR: 'it returns false'. Refute it at one input. -/
def linearTellsWrong : ChangeSpec := { name := "linearTells", fn := fun _ => fun
  | [d1, d2] => { results := [.lit (.bool false)], args := [d1, d2] }
  | _ => none }
def LinearTellsWrongFalsely : Prop := linearTellsRow.holds Try.pinned (OpenSpec.ofChange linearTellsWrong)

/-- 'versallaw21.LinearRuns': WHATEVER THE INPUT: true; the input reads as it did. -/
def linearRunsSpec : ChangeSpec := { name := "linearRuns", fn := fun _ => fun
  | [d1, d2, d3, d4, d5, d6, d7] => { results := [.lit (.bool true)], args := [d1, d2, d3, d4, d5, d6, d7] }
  | _ => none }
def linearRunsRow : OpenClaim := { program := "ytkeacdpphmdodaa", sum := "d6ee4ae24658d7acd555d913d3fff58b614c55a6ef00ab7c336c72611e46ee90", func := "versal/versallaw21.LinearRuns", spec := "linearRuns", apart := false }
def LinearRunsSaid : Prop := linearRunsRow.holds Try.pinned (OpenSpec.ofChange linearRunsSpec)

/-- ITS FALSE NEIGHBOUR: 'it returns false'. Refute it at one input. -/
def linearRunsWrong : ChangeSpec := { name := "linearRuns", fn := fun _ => fun
  | [d1, d2, d3, d4, d5, d6, d7] => { results := [.lit (.bool false)], args := [d1, d2, d3, d4, d5, d6, d7] }
  | _ => none }
def LinearRunsWrongFalsely : Prop := linearRunsRow.holds Try.pinned (OpenSpec.ofChange linearRunsWrong)

/-- 'versallaw12.PixelKeeps': WHATEVER THE INPUT: true; the input reads as it did. -/
def pixelKeepsSpec : ChangeSpec := { name := "pixelKeeps", fn := fun _ => fun
  | [d1, d2, d3, d4, d5] => { results := [.lit (.bool true)], args := [d1, d2, d3, d4, d5] }
  | _ => none }
def pixelKeepsRow : OpenClaim := { program := "ytkeacdpphmdodaa", sum := "d6ee4ae24658d7acd555d913d3fff58b614c55a6ef00ab7c336c72611e46ee90", func := "versal/versallaw12.PixelKeeps", spec := "pixelKeeps", unfollowed := true, recurses := true, apart := false }
def PixelKeepsSaid : Prop := pixelKeepsRow.holds Try.pinned (OpenSpec.ofChange pixelKeepsSpec)

/-- ITS FALSE NEIGHBOUR: 'it returns false'. Refute it at one input. -/
def pixelKeepsWrong : ChangeSpec := { name := "pixelKeeps", fn := fun _ => fun
  | [d1, d2, d3, d4, d5] => { results := [.lit (.bool false)], args := [d1, d2, d3, d4, d5] }
  | _ => none }
def PixelKeepsWrongFalsely : Prop := pixelKeepsRow.holds Try.pinned (OpenSpec.ofChange pixelKeepsWrong)

/-- 'versallaw3.FixedLaws': WHATEVER THE INPUT: true; the input reads as it did. -/
def fixedLawsSpec : ChangeSpec := { name := "fixedLaws", fn := fun _ => fun
  | [d1, d2] => { results := [.lit (.bool true)], args := [d1, d2] }
  | _ => none }
def fixedLawsRow : OpenClaim := { program := "ytkeacdpphmdodaa", sum := "d6ee4ae24658d7acd555d913d3fff58b614c55a6ef00ab7c336c72611e46ee90", func := "versal/versallaw3.FixedLaws", spec := "fixedLaws", apart := false }
def FixedLawsSaid : Prop := fixedLawsRow.holds Try.pinned (OpenSpec.ofChange fixedLawsSpec)

/-- ITS FALSE NEIGHBOUR: 'it returns false'. Refute it at one input. -/
def fixedLawsWrong : ChangeSpec := { name := "fixedLaws", fn := fun _ => fun
  | [d1, d2] => { results := [.lit (.bool false)], args := [d1, d2] }
  | _ => none }
def FixedLawsWrongFalsely : Prop := fixedLawsRow.holds Try.pinned (OpenSpec.ofChange fixedLawsWrong)

/-- 'versallaw3.FixedRises': WHATEVER THE INPUT: true; the input reads as it did. -/
def fixedRisesSpec : ChangeSpec := { name := "fixedRises", fn := fun _ => fun
  | [d1, d2, d3] => { results := [.lit (.bool true)], args := [d1, d2, d3] }
  | _ => none }
def fixedRisesRow : OpenClaim := { program := "ytkeacdpphmdodaa", sum := "d6ee4ae24658d7acd555d913d3fff58b614c55a6ef00ab7c336c72611e46ee90", func := "versal/versallaw3.FixedRises", spec := "fixedRises", apart := false }
def FixedRisesSaid : Prop := fixedRisesRow.holds Try.pinned (OpenSpec.ofChange fixedRisesSpec)

/-- ITS FALSE NEIGHBOUR: 'it returns false'. Refute it at one input. -/
def fixedRisesWrong : ChangeSpec := { name := "fixedRises", fn := fun _ => fun
  | [d1, d2, d3] => { results := [.lit (.bool false)], args := [d1, d2, d3] }
  | _ => none }
def FixedRisesWrongFalsely : Prop := fixedRisesRow.holds Try.pinned (OpenSpec.ofChange fixedRisesWrong)

/-- 'versallaw12.PixelKnown': WHATEVER THE INPUT: true; the input reads as it did. -/
def pixelKnownSpec : ChangeSpec := { name := "pixelKnown", fn := fun _ => fun
  | [] => { results := [.lit (.bool true)], args := [] }
  | _ => none }
def pixelKnownRow : OpenClaim := { program := "ytkeacdpphmdodaa", sum := "d6ee4ae24658d7acd555d913d3fff58b614c55a6ef00ab7c336c72611e46ee90", func := "versal/versallaw12.PixelKnown", spec := "pixelKnown", unfollowed := true, recurses := true, apart := false }
def PixelKnownSaid : Prop := pixelKnownRow.holds Try.pinned (OpenSpec.ofChange pixelKnownSpec)

/-- ITS FALSE NEIGHBOUR: 'it returns false'. Refute it at one input. -/
def pixelKnownWrong : ChangeSpec := { name := "pixelKnown", fn := fun _ => fun
  | [] => { results := [.lit (.bool false)], args := [] }
  | _ => none }
def PixelKnownWrongFalsely : Prop := pixelKnownRow.holds Try.pinned (OpenSpec.ofChange pixelKnownWrong)

/-- 'versallaw12.PixelTells': WHATEVER THE INPUT: true; the input reads as it did. -/
def pixelTellsSpec : ChangeSpec := { name := "pixelTells", fn := fun _ => fun
  | [d1, d2, d3, d4, d5] => { results := [.lit (.bool true)], args := [d1, d2, d3, d4, d5] }
  | _ => none }
def pixelTellsRow : OpenClaim := { program := "ytkeacdpphmdodaa", sum := "d6ee4ae24658d7acd555d913d3fff58b614c55a6ef00ab7c336c72611e46ee90", func := "versal/versallaw12.PixelTells", spec := "pixelTells", unfollowed := true, recurses := true, apart := false }
def PixelTellsSaid : Prop := pixelTellsRow.holds Try.pinned (OpenSpec.ofChange pixelTellsSpec)

/-- ITS FALSE NEIGHBOUR: 'it returns false'. Refute it at one input. -/
def pixelTellsWrong : ChangeSpec := { name := "pixelTells", fn := fun _ => fun
  | [d1, d2, d3, d4, d5] => { results := [.lit (.bool false)], args := [d1, d2, d3, d4, d5] }
  | _ => none }
def PixelTellsWrongFalsely : Prop := pixelTellsRow.holds Try.pinned (OpenSpec.ofChange pixelTellsWrong)

/-- 'versallaw3.FixedKnown': WHATEVER THE INPUT: true; the input reads as it did. -/
def fixedKnownSpec : ChangeSpec := { name := "fixedKnown", fn := fun _ => fun
  | [] => { results := [.lit (.bool true)], args := [] }
  | _ => none }
def fixedKnownRow : OpenClaim := { program := "ytkeacdpphmdodaa", sum := "d6ee4ae24658d7acd555d913d3fff58b614c55a6ef00ab7c336c72611e46ee90", func := "versal/versallaw3.FixedKnown", spec := "fixedKnown", apart := false }
def FixedKnownSaid : Prop := fixedKnownRow.holds Try.pinned (OpenSpec.ofChange fixedKnownSpec)

/-- ITS FALSE NEIGHBOUR: 'it returns false'. Refute it at one input. -/
def fixedKnownWrong : ChangeSpec := { name := "fixedKnown", fn := fun _ => fun
  | [] => { results := [.lit (.bool false)], args := [] }
  | _ => none }
def FixedKnownWrongFalsely : Prop := fixedKnownRow.holds Try.pinned (OpenSpec.ofChange fixedKnownWrong)

/-- 'versallaw3.FixedTells': WHATEVER THE INPUT: true; the input reads as it did. -/
def fixedTellsSpec : ChangeSpec := { name := "fixedTells", fn := fun _ => fun
  | [d1, d2, d3, d4] => { results := [.lit (.bool true)], args := [d1, d2, d3, d4] }
  | _ => none }
def fixedTellsRow : OpenClaim := { program := "ytkeacdpphmdodaa", sum := "d6ee4ae24658d7acd555d913d3fff58b614c55a6ef00ab7c336c72611e46ee90", func := "versal/versallaw3.FixedTells", spec := "fixedTells", apart := false }
def FixedTellsSaid : Prop := fixedTellsRow.holds Try.pinned (OpenSpec.ofChange fixedTellsSpec)

/-- ITS FALSE NEIGHBOUR: 'it returns false'. Refute it at one input. -/
def fixedTellsWrong : ChangeSpec := { name := "fixedTells", fn := fun _ => fun
  | [d1, d2, d3, d4] => { results := [.lit (.bool false)], args := [d1, d2, d3, d4] }
  | _ => none }
def FixedTellsWrongFalsely : Prop := fixedTellsRow.holds Try.pinned (OpenSpec.ofChange fixedTellsWrong)

/- THE SECOND FORM. 'bulk': how many values and letters a reading holds, each counted each time it is reached (what is shared counts as often as it is met; a slice's spare places count too). A statement '..UptoSaid' is the law's where the arguments, and the package variables that the reading takes, are together of bulk at most 1048576: NARROWER than '..Said'. Prove '..Said' where nothing that the law and all that it calls make is longer than what came in: it says more and counts as full. Else prove '..UptoSaid'. A law counts once. -/
mutual
def uptoBulk {H : Type} : DataW H → Nat
  | .lit (.string bytes) => bytes.length + 1
  | .lit _ => 1
  | .nil => 1
  | .ptr d => uptoBulk d + 1
  | .slice elems spare => uptoBulkAll elems + uptoBulkAll spare + 1
  | .agg parts => uptoBulkAll parts + 1
  | .iface _ d => uptoBulk d + 1
  | .map entries => uptoBulkEntries entries + 1
  | .held _ => 1
def uptoBulkAll {H : Type} : List (DataW H) → Nat
  | [] => 0
  | d :: r => uptoBulk d + uptoBulkAll r
def uptoBulkEntries {H : Type} : List (Lit × DataW H) → Nat
  | [] => 0
  | x :: r => uptoBulkEntry x + uptoBulkEntries r
def uptoBulkEntry {H : Type} : Lit × DataW H → Nat
  | (.string bytes, d) => bytes.length + uptoBulk d + 1
  | (_, d) => uptoBulk d + 1
 end
def uptoSmall : (H : Type) → List (DataW H) → Bool := fun _ ds => decide (uptoBulkAll ds ≤ 1048576)
def OpenSpec.upto (s : _root_.Go.ChangeSpec) : _root_.Go.OpenSpec := { _root_.Go.OpenSpec.ofChange s with cond := some uptoSmall }

/-- 'versallaw12.PixelParts', WHERE WHAT IT READS IS OF BULK AT MOST 1048576: true; the input reads as it did. -/
def pixelPartsUptoRow : OpenClaim := { program := "ytkeacdpphmdodaa", sum := "d6ee4ae24658d7acd555d913d3fff58b614c55a6ef00ab7c336c72611e46ee90", func := "versal/versallaw12.PixelParts", spec := "pixelParts", unfollowed := true, recurses := true, apart := false, narrowed := true }
def PixelPartsUptoSaid : Prop := pixelPartsUptoRow.holds Try.pinned (OpenSpec.upto pixelPartsSpec)

/-- 'versallaw21.LinearKnown', WHERE WHAT IT READS IS OF BULK AT MOST 1048576: true; the input reads as it did. -/
def linearKnownUptoRow : OpenClaim := { program := "ytkeacdpphmdodaa", sum := "d6ee4ae24658d7acd555d913d3fff58b614c55a6ef00ab7c336c72611e46ee90", func := "versal/versallaw21.LinearKnown", spec := "linearKnown", apart := false, narrowed := true }
def LinearKnownUptoSaid : Prop := linearKnownUptoRow.holds Try.pinned (OpenSpec.upto linearKnownSpec)

/-- 'versallaw21.LinearTells', WHERE WHAT IT READS IS OF BULK AT MOST 1048576: true; the input reads as it did. -/
def linearTellsUptoRow : OpenClaim := { program := "ytkeacdpphmdodaa", sum := "d6ee4ae24658d7acd555d913d3fff58b614c55a6ef00ab7c336c72611e46ee90", func := "versal/versallaw21.LinearTells", spec := "linearTells", apart := false, narrowed := true }
def LinearTellsUptoSaid : Prop := linearTellsUptoRow.holds Try.pinned (OpenSpec.upto linearTellsSpec)

/-- 'versallaw21.LinearRuns', WHERE WHAT IT READS IS OF BULK AT MOST 1048576: true; the input reads as it did. -/
def linearRunsUptoRow : OpenClaim := { program := "ytkeacdpphmdodaa", sum := "d6ee4ae24658d7acd555d913d3fff58b614c55a6ef00ab7c336c72611e46ee90", func := "versal/versallaw21.LinearRuns", spec := "linearRuns", apart := false, narrowed := true }
def LinearRunsUptoSaid : Prop := linearRunsUptoRow.holds Try.pinned (OpenSpec.upto linearRunsSpec)

/-- 'versallaw12.PixelKeeps', WHERE WHAT IT READS IS OF BULK AT MOST 1048576: true; the input reads as it did. -/
def pixelKeepsUptoRow : OpenClaim := { program := "ytkeacdpphmdodaa", sum := "d6ee4ae24658d7acd555d913d3fff58b614c55a6ef00ab7c336c72611e46ee90", func := "versal/versallaw12.PixelKeeps", spec := "pixelKeeps", unfollowed := true, recurses := true, apart := false, narrowed := true }
def PixelKeepsUptoSaid : Prop := pixelKeepsUptoRow.holds Try.pinned (OpenSpec.upto pixelKeepsSpec)

/-- 'versallaw3.FixedLaws', WHERE WHAT IT READS IS OF BULK AT MOST 1048576: true; the input reads as it did. -/
def fixedLawsUptoRow : OpenClaim := { program := "ytkeacdpphmdodaa", sum := "d6ee4ae24658d7acd555d913d3fff58b614c55a6ef00ab7c336c72611e46ee90", func := "versal/versallaw3.FixedLaws", spec := "fixedLaws", apart := false, narrowed := true }
def FixedLawsUptoSaid : Prop := fixedLawsUptoRow.holds Try.pinned (OpenSpec.upto fixedLawsSpec)

/-- 'versallaw3.FixedRises', WHERE WHAT IT READS IS OF BULK AT MOST 1048576: true; the input reads as it did. -/
def fixedRisesUptoRow : OpenClaim := { program := "ytkeacdpphmdodaa", sum := "d6ee4ae24658d7acd555d913d3fff58b614c55a6ef00ab7c336c72611e46ee90", func := "versal/versallaw3.FixedRises", spec := "fixedRises", apart := false, narrowed := true }
def FixedRisesUptoSaid : Prop := fixedRisesUptoRow.holds Try.pinned (OpenSpec.upto fixedRisesSpec)

/-- 'versallaw12.PixelKnown', WHERE WHAT IT READS IS OF BULK AT MOST 1048576: true; the input reads as it did. -/
def pixelKnownUptoRow : OpenClaim := { program := "ytkeacdpphmdodaa", sum := "d6ee4ae24658d7acd555d913d3fff58b614c55a6ef00ab7c336c72611e46ee90", func := "versal/versallaw12.PixelKnown", spec := "pixelKnown", unfollowed := true, recurses := true, apart := false, narrowed := true }
def PixelKnownUptoSaid : Prop := pixelKnownUptoRow.holds Try.pinned (OpenSpec.upto pixelKnownSpec)

/-- 'versallaw12.PixelTells', WHERE WHAT IT READS IS OF BULK AT MOST 1048576: true; the input reads as it did. -/
def pixelTellsUptoRow : OpenClaim := { program := "ytkeacdpphmdodaa", sum := "d6ee4ae24658d7acd555d913d3fff58b614c55a6ef00ab7c336c72611e46ee90", func := "versal/versallaw12.PixelTells", spec := "pixelTells", unfollowed := true, recurses := true, apart := false, narrowed := true }
def PixelTellsUptoSaid : Prop := pixelTellsUptoRow.holds Try.pinned (OpenSpec.upto pixelTellsSpec)

/-- 'versallaw3.FixedKnown', WHERE WHAT IT READS IS OF BULK AT MOST 1048576: true; the input reads as it did. -/
def fixedKnownUptoRow : OpenClaim := { program := "ytkeacdpphmdodaa", sum := "d6ee4ae24658d7acd555d913d3fff58b614c55a6ef00ab7c336c72611e46ee90", func := "versal/versallaw3.FixedKnown", spec := "fixedKnown", apart := false, narrowed := true }
def FixedKnownUptoSaid : Prop := fixedKnownUptoRow.holds Try.pinned (OpenSpec.upto fixedKnownSpec)

/-- 'versallaw3.FixedTells', WHERE WHAT IT READS IS OF BULK AT MOST 1048576: true; the input reads as it did. -/
def fixedTellsUptoRow : OpenClaim := { program := "ytkeacdpphmdodaa", sum := "d6ee4ae24658d7acd555d913d3fff58b614c55a6ef00ab7c336c72611e46ee90", func := "versal/versallaw3.FixedTells", spec := "fixedTells", apart := false, narrowed := true }
def FixedTellsUptoSaid : Prop := fixedTellsUptoRow.holds Try.pinned (OpenSpec.upto fixedTellsSpec)

end Rows
end Go.Proofs.Ytkeacdpphmdodaa
