/-
  No cell of these rows narrows 'for every input' (looked for: loops, veiled, ifaces, maps, wideKeys, modest, calm, conditions, laid).
  DERIVED. THE GIVEN ROWS OF THIS SEAT. 7 by the template 'for every input the law returns true; each argument reads behind the call as it read before'; 0 by the template 'total and deterministic' (their statements: YtfddmjjdnpkleaaTotals.lean).
  GIVEN WITH THE SEED: the statements are not yours to turn. If you find one false, say at which input.
  Laid BY PROGRAM, IN A SANDBOX (cutbox-rows.mjs): the forced cells as the released guide's own fill.sh prints them over the translation ed7bdb25042c86d4… (all of the seat's roots in one cut). By AI agents, Wed Nov 11 2026. No macro, syntax, notation, axiom, sorry.
-/
import Derived.Test.YtfddmjjdnpkleaaChecked
import GoSem.Claim
import GoSem.ClaimJoined
import GoSem.ClaimMapViews
import Derived.JoinedTies
import Derived.KernelRfl
namespace Go.Proofs.Ytfddmjjdnpkleaa
/- THE CELL 'sum', in the pinned program and in every row, IS THE sha256 OF THE DUMP (.gsa) THAT YtfddmjjdnpkleaaProg.lean LOADS. Nothing in Lean hashes anything: it is a label: what it is worth is what the hold of that sum in a sandbox is worth. -/
noncomputable def Try.pinned : Pinned := { name := "ytfddmjjdnpkleaa", sum := "ed7bdb25042c86d4e1d4a0729962209f7504b2c882d91708bd3d0254dedc292c", checked := Try.checked }
namespace Rows
def none {H : Type} : Left H := { results := [], args := [] }

/-- 'versallaw13.BlendSame': WHATEVER THE INPUT: true; the input reads as it did. -/
def blendSameSpec : ChangeSpec := { name := "blendSame", fn := fun _ => fun
  | [d1, d2] => { results := [.lit (.bool true)], args := [d1, d2] }
  | _ => none }
def blendSameRow : OpenClaim := { program := "ytfddmjjdnpkleaa", sum := "ed7bdb25042c86d4e1d4a0729962209f7504b2c882d91708bd3d0254dedc292c", func := "versal/versallaw13.BlendSame", spec := "blendSame", unfollowed := true, recurses := true, apart := false }
def BlendSameSaid : Prop := blendSameRow.holds Try.pinned (OpenSpec.ofChange blendSameSpec)

/-- ITS FALSE NEIGHBOUR: 'it returns false'. Refute it at one input. -/
def blendSameWrong : ChangeSpec := { name := "blendSame", fn := fun _ => fun
  | [d1, d2] => { results := [.lit (.bool false)], args := [d1, d2] }
  | _ => none }
def BlendSameWrongFalsely : Prop := blendSameRow.holds Try.pinned (OpenSpec.ofChange blendSameWrong)

/-- 'versallaw13.BlendOpaque': WHATEVER THE INPUT: true; the input reads as it did. -/
def blendOpaqueSpec : ChangeSpec := { name := "blendOpaque", fn := fun _ => fun
  | [d1, d2] => { results := [.lit (.bool true)], args := [d1, d2] }
  | _ => none }
def blendOpaqueRow : OpenClaim := { program := "ytfddmjjdnpkleaa", sum := "ed7bdb25042c86d4e1d4a0729962209f7504b2c882d91708bd3d0254dedc292c", func := "versal/versallaw13.BlendOpaque", spec := "blendOpaque", unfollowed := true, recurses := true, apart := false }
def BlendOpaqueSaid : Prop := blendOpaqueRow.holds Try.pinned (OpenSpec.ofChange blendOpaqueSpec)

/-- ITS FALSE NEIGHBOUR: 'it returns false'. Refute it at one input. -/
def blendOpaqueWrong : ChangeSpec := { name := "blendOpaque", fn := fun _ => fun
  | [d1, d2] => { results := [.lit (.bool false)], args := [d1, d2] }
  | _ => none }
def BlendOpaqueWrongFalsely : Prop := blendOpaqueRow.holds Try.pinned (OpenSpec.ofChange blendOpaqueWrong)

/-- 'versallaw13.BlendKnown': WHATEVER THE INPUT: true; the input reads as it did. -/
def blendKnownSpec : ChangeSpec := { name := "blendKnown", fn := fun _ => fun
  | [] => { results := [.lit (.bool true)], args := [] }
  | _ => none }
def blendKnownRow : OpenClaim := { program := "ytfddmjjdnpkleaa", sum := "ed7bdb25042c86d4e1d4a0729962209f7504b2c882d91708bd3d0254dedc292c", func := "versal/versallaw13.BlendKnown", spec := "blendKnown", unfollowed := true, recurses := true, apart := false }
def BlendKnownSaid : Prop := blendKnownRow.holds Try.pinned (OpenSpec.ofChange blendKnownSpec)

/-- ITS FALSE NEIGHBOUR: 'it returns false'. Refute it at one input. -/
def blendKnownWrong : ChangeSpec := { name := "blendKnown", fn := fun _ => fun
  | [] => { results := [.lit (.bool false)], args := [] }
  | _ => none }
def BlendKnownWrongFalsely : Prop := blendKnownRow.holds Try.pinned (OpenSpec.ofChange blendKnownWrong)

/-- 'versallaw13.BlendTells': WHATEVER THE INPUT: true; the input reads as it did. -/
def blendTellsSpec : ChangeSpec := { name := "blendTells", fn := fun _ => fun
  | [d1, d2, d3, d4, d5, d6] => { results := [.lit (.bool true)], args := [d1, d2, d3, d4, d5, d6] }
  | _ => none }
def blendTellsRow : OpenClaim := { program := "ytfddmjjdnpkleaa", sum := "ed7bdb25042c86d4e1d4a0729962209f7504b2c882d91708bd3d0254dedc292c", func := "versal/versallaw13.BlendTells", spec := "blendTells", unfollowed := true, recurses := true, apart := false }
def BlendTellsSaid : Prop := blendTellsRow.holds Try.pinned (OpenSpec.ofChange blendTellsSpec)

/-- ITS FALSE NEIGHBOUR: 'it returns false'. Refute it at one input. -/
def blendTellsWrong : ChangeSpec := { name := "blendTells", fn := fun _ => fun
  | [d1, d2, d3, d4, d5, d6] => { results := [.lit (.bool false)], args := [d1, d2, d3, d4, d5, d6] }
  | _ => none }
def BlendTellsWrongFalsely : Prop := blendTellsRow.holds Try.pinned (OpenSpec.ofChange blendTellsWrong)

/-- 'versallaw13.BlendAll': WHATEVER THE INPUT: true; the input reads as it did. -/
def blendAllSpec : ChangeSpec := { name := "blendAll", fn := fun _ => fun
  | [d1, d2] => { results := [.lit (.bool true)], args := [d1, d2] }
  | _ => none }
def blendAllRow : OpenClaim := { program := "ytfddmjjdnpkleaa", sum := "ed7bdb25042c86d4e1d4a0729962209f7504b2c882d91708bd3d0254dedc292c", func := "versal/versallaw13.BlendAll", spec := "blendAll", unfollowed := true, recurses := true, apart := false }
def BlendAllSaid : Prop := blendAllRow.holds Try.pinned (OpenSpec.ofChange blendAllSpec)

/-- ITS FALSE NEIGHBOUR: 'it returns false'. Refute it at one input. -/
def blendAllWrong : ChangeSpec := { name := "blendAll", fn := fun _ => fun
  | [d1, d2] => { results := [.lit (.bool false)], args := [d1, d2] }
  | _ => none }
def BlendAllWrongFalsely : Prop := blendAllRow.holds Try.pinned (OpenSpec.ofChange blendAllWrong)

/-- 'versallaw13.BlendKeeps': WHATEVER THE INPUT: true; the input reads as it did. -/
def blendKeepsSpec : ChangeSpec := { name := "blendKeeps", fn := fun _ => fun
  | [d1, d2, d3] => { results := [.lit (.bool true)], args := [d1, d2, d3] }
  | _ => none }
def blendKeepsRow : OpenClaim := { program := "ytfddmjjdnpkleaa", sum := "ed7bdb25042c86d4e1d4a0729962209f7504b2c882d91708bd3d0254dedc292c", func := "versal/versallaw13.BlendKeeps", spec := "blendKeeps", unfollowed := true, recurses := true, apart := false }
def BlendKeepsSaid : Prop := blendKeepsRow.holds Try.pinned (OpenSpec.ofChange blendKeepsSpec)

/-- ITS FALSE NEIGHBOUR: 'it returns false'. Refute it at one input. -/
def blendKeepsWrong : ChangeSpec := { name := "blendKeeps", fn := fun _ => fun
  | [d1, d2, d3] => { results := [.lit (.bool false)], args := [d1, d2, d3] }
  | _ => none }
def BlendKeepsWrongFalsely : Prop := blendKeepsRow.holds Try.pinned (OpenSpec.ofChange blendKeepsWrong)

/-- 'versallaw13.BlendNothing': WHATEVER THE INPUT: true; the input reads as it did. -/
def blendNothingSpec : ChangeSpec := { name := "blendNothing", fn := fun _ => fun
  | [d1, d2, d3] => { results := [.lit (.bool true)], args := [d1, d2, d3] }
  | _ => none }
def blendNothingRow : OpenClaim := { program := "ytfddmjjdnpkleaa", sum := "ed7bdb25042c86d4e1d4a0729962209f7504b2c882d91708bd3d0254dedc292c", func := "versal/versallaw13.BlendNothing", spec := "blendNothing", unfollowed := true, recurses := true, apart := false }
def BlendNothingSaid : Prop := blendNothingRow.holds Try.pinned (OpenSpec.ofChange blendNothingSpec)

/-- ITS FALSE NEIGHBOUR: 'it returns false'. Refute it at one input. -/
def blendNothingWrong : ChangeSpec := { name := "blendNothing", fn := fun _ => fun
  | [d1, d2, d3] => { results := [.lit (.bool false)], args := [d1, d2, d3] }
  | _ => none }
def BlendNothingWrongFalsely : Prop := blendNothingRow.holds Try.pinned (OpenSpec.ofChange blendNothingWrong)

/- THE SECOND FORM. 'bulk': how many values and letters a reading holds, each counted each time it is reached (what is shared counts as often as it is met; a slice's spare places count too). A statement '..UptoSaid' is the law's where the arguments, and the package variables that the reading takes, are together of bulk at most 1048576: NARROWER than '..Said'. Prove '..Said' where nothing that the law and all that it calls make is longer than what came in: it says more and counts as full. Else prove '..UptoSaid'. A law counts once. -/
mutual
def uptoBulk {H : Type} : DataW H → Nat
  | .lit (.string bytes) => bytes.length + 1
  | .lit _ => 1
  | .nil => 1
  | .ptr d => uptoBulk d + 1
  | .slice elems spare => uptoBulkAll elems + uptoBulkAll spare + 1
  | .agg parts => uptoBulkAll parts + 1
  | .iface _ d => uptoBulk d + 1
  | .map entries => uptoBulkEntries entries + 1
  | .held _ => 1
def uptoBulkAll {H : Type} : List (DataW H) → Nat
  | [] => 0
  | d :: r => uptoBulk d + uptoBulkAll r
def uptoBulkEntries {H : Type} : List (Lit × DataW H) → Nat
  | [] => 0
  | x :: r => uptoBulkEntry x + uptoBulkEntries r
def uptoBulkEntry {H : Type} : Lit × DataW H → Nat
  | (.string bytes, d) => bytes.length + uptoBulk d + 1
  | (_, d) => uptoBulk d + 1
 end
def uptoSmall : (H : Type) → List (DataW H) → Bool := fun _ ds => decide (uptoBulkAll ds ≤ 1048576)
def OpenSpec.upto (s : _root_.Go.ChangeSpec) : _root_.Go.OpenSpec := { _root_.Go.OpenSpec.ofChange s with cond := some uptoSmall }

/-- 'versallaw13.BlendSame', WHERE WHAT IT READS IS OF BULK AT MOST 1048576: true; the input reads as it did. -/
def blendSameUptoRow : OpenClaim := { program := "ytfddmjjdnpkleaa", sum := "ed7bdb25042c86d4e1d4a0729962209f7504b2c882d91708bd3d0254dedc292c", func := "versal/versallaw13.BlendSame", spec := "blendSame", unfollowed := true, recurses := true, apart := false, narrowed := true }
def BlendSameUptoSaid : Prop := blendSameUptoRow.holds Try.pinned (OpenSpec.upto blendSameSpec)

/-- 'versallaw13.BlendOpaque', WHERE WHAT IT READS IS OF BULK AT MOST 1048576: true; the input reads as it did. -/
def blendOpaqueUptoRow : OpenClaim := { program := "ytfddmjjdnpkleaa", sum := "ed7bdb25042c86d4e1d4a0729962209f7504b2c882d91708bd3d0254dedc292c", func := "versal/versallaw13.BlendOpaque", spec := "blendOpaque", unfollowed := true, recurses := true, apart := false, narrowed := true }
def BlendOpaqueUptoSaid : Prop := blendOpaqueUptoRow.holds Try.pinned (OpenSpec.upto blendOpaqueSpec)

/-- 'versallaw13.BlendKnown', WHERE WHAT IT READS IS OF BULK AT MOST 1048576: true; the input reads as it did. -/
def blendKnownUptoRow : OpenClaim := { program := "ytfddmjjdnpkleaa", sum := "ed7bdb25042c86d4e1d4a0729962209f7504b2c882d91708bd3d0254dedc292c", func := "versal/versallaw13.BlendKnown", spec := "blendKnown", unfollowed := true, recurses := true, apart := false, narrowed := true }
def BlendKnownUptoSaid : Prop := blendKnownUptoRow.holds Try.pinned (OpenSpec.upto blendKnownSpec)

/-- 'versallaw13.BlendTells', WHERE WHAT IT READS IS OF BULK AT MOST 1048576: true; the input reads as it did. -/
def blendTellsUptoRow : OpenClaim := { program := "ytfddmjjdnpkleaa", sum := "ed7bdb25042c86d4e1d4a0729962209f7504b2c882d91708bd3d0254dedc292c", func := "versal/versallaw13.BlendTells", spec := "blendTells", unfollowed := true, recurses := true, apart := false, narrowed := true }
def BlendTellsUptoSaid : Prop := blendTellsUptoRow.holds Try.pinned (OpenSpec.upto blendTellsSpec)

/-- 'versallaw13.BlendAll', WHERE WHAT IT READS IS OF BULK AT MOST 1048576: true; the input reads as it did. -/
def blendAllUptoRow : OpenClaim := { program := "ytfddmjjdnpkleaa", sum := "ed7bdb25042c86d4e1d4a0729962209f7504b2c882d91708bd3d0254dedc292c", func := "versal/versallaw13.BlendAll", spec := "blendAll", unfollowed := true, recurses := true, apart := false, narrowed := true }
def BlendAllUptoSaid : Prop := blendAllUptoRow.holds Try.pinned (OpenSpec.upto blendAllSpec)

/-- 'versallaw13.BlendKeeps', WHERE WHAT IT READS IS OF BULK AT MOST 1048576: true; the input reads as it did. -/
def blendKeepsUptoRow : OpenClaim := { program := "ytfddmjjdnpkleaa", sum := "ed7bdb25042c86d4e1d4a0729962209f7504b2c882d91708bd3d0254dedc292c", func := "versal/versallaw13.BlendKeeps", spec := "blendKeeps", unfollowed := true, recurses := true, apart := false, narrowed := true }
def BlendKeepsUptoSaid : Prop := blendKeepsUptoRow.holds Try.pinned (OpenSpec.upto blendKeepsSpec)

/-- 'versallaw13.BlendNothing', WHERE WHAT IT READS IS OF BULK AT MOST 1048576: true; the input reads as it did. -/
def blendNothingUptoRow : OpenClaim := { program := "ytfddmjjdnpkleaa", sum := "ed7bdb25042c86d4e1d4a0729962209f7504b2c882d91708bd3d0254dedc292c", func := "versal/versallaw13.BlendNothing", spec := "blendNothing", unfollowed := true, recurses := true, apart := false, narrowed := true }
def BlendNothingUptoSaid : Prop := blendNothingUptoRow.holds Try.pinned (OpenSpec.upto blendNothingSpec)

end Rows
end Go.Proofs.Ytfddmjjdnpkleaa
