/- Chapter 23's example, parts of a turn, and none, hold. No conditions. -/
import Derived.Test.YtaohkdieigbccaaPSweepKnownx1
import Derived.Test.YtaohkdieigbccaaMath
namespace Go.Proofs.Ytaohkdieigbccaa.Pure
open Go.RowKit Go.Proofs.Ytaohkdieigbccaa.PSweepKnown Go.Proofs.YtaohkdieigbccaaW.PrintWords Go.Proofs.YtaohkdieigbccaaW.PrintLast Go.Proofs.Ytaohkdieigbccaa.M
set_option linter.unusedSimpArgs false
set_option linter.unusedVariables false

theorem SweepKnown : versallaw23_SweepKnown.Pure := by
  refine ⟨3, ?_⟩
  decide +kernel
end Go.Proofs.Ytaohkdieigbccaa.Pure
