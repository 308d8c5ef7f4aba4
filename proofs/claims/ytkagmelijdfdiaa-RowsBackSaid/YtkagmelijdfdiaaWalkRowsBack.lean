/- RowsBack returns true at every input (the printed walk over the plain law). -/
import Derived.Test.YtkagmelijdfdiaaPRowsBackx5
import Derived.Test.YtkagmelijdfdiaaPureRowsBack
import Derived.Test.YtkagmelijdfdiaaArr
namespace Go.Proofs.Ytkagmelijdfdiaa.WalkRowsBack
open Go.RowKit Go.Proofs.YtkagmelijdfdiaaW.PrintWords Go.Proofs.YtkagmelijdfdiaaW.PrintLast Go.Proofs.YtkagmelijdfdiaaW.PrintMore Go.Proofs.Ytkagmelijdfdiaa.PRowsBack
attribute [local go_sem] max2_int min2_int max_two min_two max_three min_three max_four min_four
set_option linter.unusedVariables false
set_option linter.unusedSimpArgs false

theorem walk (a0 : Option Addr) (len0 cap0 : Nat) (z0 : List Int) (a1 : Option Addr) (len1 cap1 : Nat) (z1 : List Int) (a2 : Int) (w : World) (w0 : Arr.IsRow .u8 w a0 len0 cap0 z0) (y0 : len0 * 1 ≤ 140737488351232) (w1 : Arr.IsRow .u8 w a1 len1 cap1 z1) (y1 : len1 * 1 ≤ 140737488351232) (w2 : (Lit.int .i64 a2).wf = true) :
    Calls Try.prog 11 #[.slice a0 len0 cap0, .slice a1 len1 cap1, .int .i64 a2] w fun e w' => e = .returned (.bool true) ∧ Below w.heap.size w w' :=
  PRowsBack.versallaw10_RowsBack.walk Pure.RowsBack a0 len0 cap0 z0 a1 len1 cap1 z1 a2 w w0 y0 w1 y1 w2

end Go.Proofs.Ytkagmelijdfdiaa.WalkRowsBack
