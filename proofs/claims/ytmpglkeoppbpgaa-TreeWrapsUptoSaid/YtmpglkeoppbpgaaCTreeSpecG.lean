/- A part of the row's proof. -/
import Derived.Test.YtmpglkeoppbpgaaCTreeSpecF
import Derived.Test.YtmpglkeoppbpgaaCPTreex12
namespace Go.Proofs.Ytmpglkeoppbpgaa.PTree
open Go.RowKit Go.Proofs.YtmpglkeoppbpgaaW.PrintWords Go.Proofs.YtmpglkeoppbpgaaW.PrintLast Go.Proofs.YtmpglkeoppbpgaaW.PrintMore
set_option linter.unusedVariables false
set_option linter.unusedSimpArgs false
set_option maxRecDepth 1000000 in
theorem fixed_at : variorumlaw06_fixed.f 40 = some true := by kernel_rfl
theorem fixed_ev : Ev (fun k => variorumlaw06_fixed.f k) true := Ev.of (fun k => variorumlaw06_fixed.mono k) fixed_at
end Go.Proofs.Ytmpglkeoppbpgaa.PTree
