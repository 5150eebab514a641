/- A part of the row's proof. -/
import Derived.Test.YtmpglkeoppbpgaaCTreeSpecE
namespace Go.Proofs.Ytmpglkeoppbpgaa.PTree
open Go.RowKit Go.Proofs.YtmpglkeoppbpgaaW.PrintWords Go.Proofs.YtmpglkeoppbpgaaW.PrintLast Go.Proofs.YtmpglkeoppbpgaaW.PrintMore
set_option linter.unusedVariables false
set_option linter.unusedSimpArgs false
theorem Rn.f {ns : List S38} {ts : List S44} (h : Ev (fun k => variorumref06_nodes.l0 k ([] ++ ts) [] (([] : List S44).length : Int)) ([] ++ ns)) : Ev (fun k => variorumref06_nodes.f k ts) ns := by
 refine Ev.step (fun k => ?_) h
 simp only [variorumref06_nodes.f]
 rfl
end Go.Proofs.Ytmpglkeoppbpgaa.PTree
