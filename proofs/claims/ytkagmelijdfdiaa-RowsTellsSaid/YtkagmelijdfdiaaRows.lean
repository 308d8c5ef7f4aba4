/-
  No cell of these rows narrows 'for every input' (looked for: loops, veiled, ifaces, maps, wideKeys, modest, calm, conditions, laid).
  DERIVED. THE GIVEN ROWS OF THIS SEAT. 9 by the template 'for every input the law returns true; each argument reads behind the call as it read before'; 0 by the template 'total and deterministic' (their statements: YtkagmelijdfdiaaTotals.lean).
  GIVEN WITH THE SEED: the statements are not yours to turn. If you find one false, say at which input.
  Laid BY PROGRAM, IN A SANDBOX (cutbox-rows.mjs): the forced cells as the released guide's own fill.sh prints them over the translation 7c20d58f87abefb1… (all of the seat's roots in one cut). By AI agents, Wed Nov 11 2026. No macro, syntax, notation, axiom, sorry.
-/
import Derived.Test.YtkagmelijdfdiaaChecked
import GoSem.Claim
import GoSem.ClaimJoined
import GoSem.ClaimMapViews
import Derived.JoinedTies
import Derived.KernelRfl
namespace Go.Proofs.Ytkagmelijdfdiaa
/- THE CELL 'sum', in the pinned program and in every row, IS THE sha256 OF THE DUMP (.gsa) THAT YtkagmelijdfdiaaProg.lean LOADS. Nothing in Lean hashes anything: it is a label: what it is worth is what the hold of that sum in a sandbox is worth. -/
noncomputable def Try.pinned : Pinned := { name := "ytkagmelijdfdiaa", sum := "7c20d58f87abefb13896d8075e59a8a72c2813a197797d34375c390e2f533ceb", checked := Try.checked }
namespace Rows
def none {H : Type} : Left H := { results := [], args := [] }

/-- 'versallaw18.CoverKnown': WHATEVER THE INPUT: true; the input reads as it did. -/
def coverKnownSpec : ChangeSpec := { name := "coverKnown", fn := fun _ => fun
  | [] => { results := [.lit (.bool true)], args := [] }
  | _ => none }
def coverKnownRow : OpenClaim := { program := "ytkagmelijdfdiaa", sum := "7c20d58f87abefb13896d8075e59a8a72c2813a197797d34375c390e2f533ceb", func := "versal/versallaw18.CoverKnown", spec := "coverKnown", apart := false }
def CoverKnownSaid : Prop := coverKnownRow.holds Try.pinned (OpenSpec.ofChange coverKnownSpec)

/-- ITS FALSE NEIGHBOUR: 'it returns false'. Refute it at one input. -/
def coverKnownWrong : ChangeSpec := { name := "coverKnown", fn := fun _ => fun
  | [] => { results := [.lit (.bool false)], args := [] }
  | _ => none }
def CoverKnownWrongFalsely : Prop := coverKnownRow.holds Try.pinned (OpenSpec.ofChange coverKnownWrong)

/-- 'versallaw18.CoverTells': WHATEVER THE INPUT: true; the input reads as it did. -/
def coverTellsSpec : ChangeSpec := { name := "coverTells", fn := fun _ => fun
  | [d1, d2, d3, d4, d5, d6, d7, d8] => { results := [.lit (.bool true)], args := [d1, d2, d3, d4, d5, d6, d7, d8] }
  | _ => none }
def coverTellsRow : OpenClaim := { program := "ytkagmelijdfdiaa", sum := "7c20d58f87abefb13896d8075e59a8a72c2813a197797d34375c390e2f533ceb", func := "versal/versallaw18.CoverTells", spec := "coverTells", apart := false }
def CoverTellsSaid : Prop := coverTellsRow.holds Try.pinned (OpenSpec.ofChange coverTellsSpec)

/-- ITS FALSE NEIGHBOUR: 'it returns false'. Refute it at one input. -/
def coverTellsWrong : ChangeSpec := { name := "coverTells", fn := fun _ => fun
  | [d1, d2, d3, d4, d5, d6, d7, d8] => { results := [.lit (.bool false)], args := [d1, d2, d3, d4, d5, d6, d7, d8] }
  | _ => none }
def CoverTellsWrongFalsely : Prop := coverTellsRow.holds Try.pinned (OpenSpec.ofChange coverTellsWrong)

/-- 'versallaw18.CoverParts': WHATEVER THE INPUT: true; the input reads as it did. -/
def coverPartsSpec : ChangeSpec := { name := "coverParts", fn := fun _ => fun
  | [d1, d2, d3, d4, d5, d6] => { results := [.lit (.bool true)], args := [d1, d2, d3, d4, d5, d6] }
  | _ => none }
def coverPartsRow : OpenClaim := { program := "ytkagmelijdfdiaa", sum := "7c20d58f87abefb13896d8075e59a8a72c2813a197797d34375c390e2f533ceb", func := "versal/versallaw18.CoverParts", spec := "coverParts", apart := false }
def CoverPartsSaid : Prop := coverPartsRow.holds Try.pinned (OpenSpec.ofChange coverPartsSpec)

/-- ITS FALSE NEIGHBOUR: 'it returns false'. Refute it at one input. -/
def coverPartsWrong : ChangeSpec := { name := "coverParts", fn := fun _ => fun
  | [d1, d2, d3, d4, d5, d6] => { results := [.lit (.bool false)], args := [d1, d2, d3, d4, d5, d6] }
  | _ => none }
def CoverPartsWrongFalsely : Prop := coverPartsRow.holds Try.pinned (OpenSpec.ofChange coverPartsWrong)

/-- 'versallaw18.CoverBoxes': WHATEVER THE INPUT: true; the input reads as it did. -/
def coverBoxesSpec : ChangeSpec := { name := "coverBoxes", fn := fun _ => fun
  | [d1, d2, d3, d4, d5, d6] => { results := [.lit (.bool true)], args := [d1, d2, d3, d4, d5, d6] }
  | _ => none }
def coverBoxesRow : OpenClaim := { program := "ytkagmelijdfdiaa", sum := "7c20d58f87abefb13896d8075e59a8a72c2813a197797d34375c390e2f533ceb", func := "versal/versallaw18.CoverBoxes", spec := "coverBoxes", apart := false }
def CoverBoxesSaid : Prop := coverBoxesRow.holds Try.pinned (OpenSpec.ofChange coverBoxesSpec)

/-- ITS FALSE NEIGHBOUR: 'it returns false'. Refute it at one input. -/
def coverBoxesWrong : ChangeSpec := { name := "coverBoxes", fn := fun _ => fun
  | [d1, d2, d3, d4, d5, d6] => { results := [.lit (.bool false)], args := [d1, d2, d3, d4, d5, d6] }
  | _ => none }
def CoverBoxesWrongFalsely : Prop := coverBoxesRow.holds Try.pinned (OpenSpec.ofChange coverBoxesWrong)

/-- 'versallaw18.CoverMoves': WHATEVER THE INPUT: true; the input reads as it did. -/
def coverMovesSpec : ChangeSpec := { name := "coverMoves", fn := fun _ => fun
  | [d1, d2, d3, d4, d5, d6] => { results := [.lit (.bool true)], args := [d1, d2, d3, d4, d5, d6] }
  | _ => none }
def coverMovesRow : OpenClaim := { program := "ytkagmelijdfdiaa", sum := "7c20d58f87abefb13896d8075e59a8a72c2813a197797d34375c390e2f533ceb", func := "versal/versallaw18.CoverMoves", spec := "coverMoves", apart := false }
def CoverMovesSaid : Prop := coverMovesRow.holds Try.pinned (OpenSpec.ofChange coverMovesSpec)

/-- ITS FALSE NEIGHBOUR: 'it returns false'. Refute it at one input. -/
def coverMovesWrong : ChangeSpec := { name := "coverMoves", fn := fun _ => fun
  | [d1, d2, d3, d4, d5, d6] => { results := [.lit (.bool false)], args := [d1, d2, d3, d4, d5, d6] }
  | _ => none }
def CoverMovesWrongFalsely : Prop := coverMovesRow.holds Try.pinned (OpenSpec.ofChange coverMovesWrong)

/-- 'versallaw10.RowsPasses': WHATEVER THE INPUT: true; the input reads as it did. -/
def rowsPassesSpec : ChangeSpec := { name := "rowsPasses", fn := fun _ => fun
  | [d1, d2] => { results := [.lit (.bool true)], args := [d1, d2] }
  | _ => none }
def rowsPassesRow : OpenClaim := { program := "ytkagmelijdfdiaa", sum := "7c20d58f87abefb13896d8075e59a8a72c2813a197797d34375c390e2f533ceb", func := "versal/versallaw10.RowsPasses", spec := "rowsPasses", apart := false }
def RowsPassesSaid : Prop := rowsPassesRow.holds Try.pinned (OpenSpec.ofChange rowsPassesSpec)

/-- ITS FALSE NEIGHBOUR: 'it returns false'. Refute it at one input. -/
def rowsPassesWrong : ChangeSpec := { name := "rowsPasses", fn := fun _ => fun
  | [d1, d2] => { results := [.lit (.bool false)], args := [d1, d2] }
  | _ => none }
def RowsPassesWrongFalsely : Prop := rowsPassesRow.holds Try.pinned (OpenSpec.ofChange rowsPassesWrong)

/-- 'versallaw10.RowsKnown': WHATEVER THE INPUT: true; the input reads as it did. -/
def rowsKnownSpec : ChangeSpec := { name := "rowsKnown", fn := fun _ => fun
  | [] => { results := [.lit (.bool true)], args := [] }
  | _ => none }
def rowsKnownRow : OpenClaim := { program := "ytkagmelijdfdiaa", sum := "7c20d58f87abefb13896d8075e59a8a72c2813a197797d34375c390e2f533ceb", func := "versal/versallaw10.RowsKnown", spec := "rowsKnown", apart := false }
def RowsKnownSaid : Prop := rowsKnownRow.holds Try.pinned (OpenSpec.ofChange rowsKnownSpec)

/-- ITS FALSE NEIGHBOUR: 'it returns false'. Refute it at one input. -/
def rowsKnownWrong : ChangeSpec := { name := "rowsKnown", fn := fun _ => fun
  | [] => { results := [.lit (.bool false)], args := [] }
  | _ => none }
def RowsKnownWrongFalsely : Prop := rowsKnownRow.holds Try.pinned (OpenSpec.ofChange rowsKnownWrong)

/-- 'versallaw10.RowsTells': WHATEVER THE INPUT: true; the input reads as it did. -/
def rowsTellsSpec : ChangeSpec := { name := "rowsTells", fn := fun _ => fun
  | [d1, d2, d3, d4, d5, d6, d7] => { results := [.lit (.bool true)], args := [d1, d2, d3, d4, d5, d6, d7] }
  | _ => none }
def rowsTellsRow : OpenClaim := { program := "ytkagmelijdfdiaa", sum := "7c20d58f87abefb13896d8075e59a8a72c2813a197797d34375c390e2f533ceb", func := "versal/versallaw10.RowsTells", spec := "rowsTells", apart := false }
def RowsTellsSaid : Prop := rowsTellsRow.holds Try.pinned (OpenSpec.ofChange rowsTellsSpec)

/-- ITS FALSE NEIGHBOUR: 'it returns false'. Refute it at one input. -/
def rowsTellsWrong : ChangeSpec := { name := "rowsTells", fn := fun _ => fun
  | [d1, d2, d3, d4, d5, d6, d7] => { results := [.lit (.bool false)], args := [d1, d2, d3, d4, d5, d6, d7] }
  | _ => none }
def RowsTellsWrongFalsely : Prop := rowsTellsRow.holds Try.pinned (OpenSpec.ofChange rowsTellsWrong)

/-- 'versallaw10.RowsBack': WHATEVER THE INPUT: true; the input reads as it did. -/
def rowsBackSpec : ChangeSpec := { name := "rowsBack", fn := fun _ => fun
  | [d1, d2, d3] => { results := [.lit (.bool true)], args := [d1, d2, d3] }
  | _ => none }
def rowsBackRow : OpenClaim := { program := "ytkagmelijdfdiaa", sum := "7c20d58f87abefb13896d8075e59a8a72c2813a197797d34375c390e2f533ceb", func := "versal/versallaw10.RowsBack", spec := "rowsBack", apart := false }
def RowsBackSaid : Prop := rowsBackRow.holds Try.pinned (OpenSpec.ofChange rowsBackSpec)

/-- ITS FALSE NEIGHBOUR: 'it returns false'. Refute it at one input. -/
def rowsBackWrong : ChangeSpec := { name := "rowsBack", fn := fun _ => fun
  | [d1, d2, d3] => { results := [.lit (.bool false)], args := [d1, d2, d3] }
  | _ => none }
def RowsBackWrongFalsely : Prop := rowsBackRow.holds Try.pinned (OpenSpec.ofChange rowsBackWrong)

/- THE SECOND FORM. 'bulk': how many values and letters a reading holds, each counted each time it is reached (what is shared counts as often as it is met; a slice's spare places count too). A statement '..UptoSaid' is the law's where the arguments, and the package variables that the reading takes, are together of bulk at most 1048576: NARROWER than '..Said'. Prove '..Said' where nothing that the law and all that it calls make is longer than what came in: it says more and counts as full. Else prove '..UptoSaid'. A law counts once. -/
mutual
def uptoBulk {H : Type} : DataW H → Nat
  | .lit (.string bytes) => bytes.length + 1
  | .lit _ => 1
  | .nil => 1
  | .ptr d => uptoBulk d + 1
  | .slice elems spare => uptoBulkAll elems + uptoBulkAll spare + 1
  | .agg parts => uptoBulkAll parts + 1
  | .iface _ d => uptoBulk d + 1
  | .map entries => uptoBulkEntries entries + 1
  | .held _ => 1
def uptoBulkAll {H : Type} : List (DataW H) → Nat
  | [] => 0
  | d :: r => uptoBulk d + uptoBulkAll r
def uptoBulkEntries {H : Type} : List (Lit × DataW H) → Nat
  | [] => 0
  | x :: r => uptoBulkEntry x + uptoBulkEntries r
def uptoBulkEntry {H : Type} : Lit × DataW H → Nat
  | (.string bytes, d) => bytes.length + uptoBulk d + 1
  | (_, d) => uptoBulk d + 1
 end
def uptoSmall : (H : Type) → List (DataW H) → Bool := fun _ ds => decide (uptoBulkAll ds ≤ 1048576)
def OpenSpec.upto (s : _root_.Go.ChangeSpec) : _root_.Go.OpenSpec := { _root_.Go.OpenSpec.ofChange s with cond := some uptoSmall }

/-- 'versallaw18.CoverKnown', WHERE WHAT IT READS IS OF BULK AT MOST 1048576: true; the input reads as it did. -/
def coverKnownUptoRow : OpenClaim := { program := "ytkagmelijdfdiaa", sum := "7c20d58f87abefb13896d8075e59a8a72c2813a197797d34375c390e2f533ceb", func := "versal/versallaw18.CoverKnown", spec := "coverKnown", apart := false, narrowed := true }
def CoverKnownUptoSaid : Prop := coverKnownUptoRow.holds Try.pinned (OpenSpec.upto coverKnownSpec)

/-- 'versallaw18.CoverTells', WHERE WHAT IT READS IS OF BULK AT MOST 1048576: true; the input reads as it did. -/
def coverTellsUptoRow : OpenClaim := { program := "ytkagmelijdfdiaa", sum := "7c20d58f87abefb13896d8075e59a8a72c2813a197797d34375c390e2f533ceb", func := "versal/versallaw18.CoverTells", spec := "coverTells", apart := false, narrowed := true }
def CoverTellsUptoSaid : Prop := coverTellsUptoRow.holds Try.pinned (OpenSpec.upto coverTellsSpec)

/-- 'versallaw18.CoverParts', WHERE WHAT IT READS IS OF BULK AT MOST 1048576: true; the input reads as it did. -/
def coverPartsUptoRow : OpenClaim := { program := "ytkagmelijdfdiaa", sum := "7c20d58f87abefb13896d8075e59a8a72c2813a197797d34375c390e2f533ceb", func := "versal/versallaw18.CoverParts", spec := "coverParts", apart := false, narrowed := true }
def CoverPartsUptoSaid : Prop := coverPartsUptoRow.holds Try.pinned (OpenSpec.upto coverPartsSpec)

/-- 'versallaw18.CoverBoxes', WHERE WHAT IT READS IS OF BULK AT MOST 1048576: true; the input reads as it did. -/
def coverBoxesUptoRow : OpenClaim := { program := "ytkagmelijdfdiaa", sum := "7c20d58f87abefb13896d8075e59a8a72c2813a197797d34375c390e2f533ceb", func := "versal/versallaw18.CoverBoxes", spec := "coverBoxes", apart := false, narrowed := true }
def CoverBoxesUptoSaid : Prop := coverBoxesUptoRow.holds Try.pinned (OpenSpec.upto coverBoxesSpec)

/-- 'versallaw18.CoverMoves', WHERE WHAT IT READS IS OF BULK AT MOST 1048576: true; the input reads as it did. -/
def coverMovesUptoRow : OpenClaim := { program := "ytkagmelijdfdiaa", sum := "7c20d58f87abefb13896d8075e59a8a72c2813a197797d34375c390e2f533ceb", func := "versal/versallaw18.CoverMoves", spec := "coverMoves", apart := false, narrowed := true }
def CoverMovesUptoSaid : Prop := coverMovesUptoRow.holds Try.pinned (OpenSpec.upto coverMovesSpec)

/-- 'versallaw10.RowsPasses', WHERE WHAT IT READS IS OF BULK AT MOST 1048576: true; the input reads as it did. -/
def rowsPassesUptoRow : OpenClaim := { program := "ytkagmelijdfdiaa", sum := "7c20d58f87abefb13896d8075e59a8a72c2813a197797d34375c390e2f533ceb", func := "versal/versallaw10.RowsPasses", spec := "rowsPasses", apart := false, narrowed := true }
def RowsPassesUptoSaid : Prop := rowsPassesUptoRow.holds Try.pinned (OpenSpec.upto rowsPassesSpec)

/-- 'versallaw10.RowsKnown', WHERE WHAT IT READS IS OF BULK AT MOST 1048576: true; the input reads as it did. -/
def rowsKnownUptoRow : OpenClaim := { program := "ytkagmelijdfdiaa", sum := "7c20d58f87abefb13896d8075e59a8a72c2813a197797d34375c390e2f533ceb", func := "versal/versallaw10.RowsKnown", spec := "rowsKnown", apart := false, narrowed := true }
def RowsKnownUptoSaid : Prop := rowsKnownUptoRow.holds Try.pinned (OpenSpec.upto rowsKnownSpec)

/-- 'versallaw10.RowsTells', WHERE WHAT IT READS IS OF BULK AT MOST 1048576: true; the input reads as it did. -/
def rowsTellsUptoRow : OpenClaim := { program := "ytkagmelijdfdiaa", sum := "7c20d58f87abefb13896d8075e59a8a72c2813a197797d34375c390e2f533ceb", func := "versal/versallaw10.RowsTells", spec := "rowsTells", apart := false, narrowed := true }
def RowsTellsUptoSaid : Prop := rowsTellsUptoRow.holds Try.pinned (OpenSpec.upto rowsTellsSpec)

/-- 'versallaw10.RowsBack', WHERE WHAT IT READS IS OF BULK AT MOST 1048576: true; the input reads as it did. -/
def rowsBackUptoRow : OpenClaim := { program := "ytkagmelijdfdiaa", sum := "7c20d58f87abefb13896d8075e59a8a72c2813a197797d34375c390e2f533ceb", func := "versal/versallaw10.RowsBack", spec := "rowsBack", apart := false, narrowed := true }
def RowsBackUptoSaid : Prop := rowsBackUptoRow.holds Try.pinned (OpenSpec.upto rowsBackSpec)

end Rows
end Go.Proofs.Ytkagmelijdfdiaa
