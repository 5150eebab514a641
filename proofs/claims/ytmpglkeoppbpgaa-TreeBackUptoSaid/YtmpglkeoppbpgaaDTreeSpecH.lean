/- A part of the row's proof. -/
import Derived.Test.YtmpglkeoppbpgaaDTreeSpecG
import Derived.Test.YtmpglkeoppbpgaaDPTreex14
import Derived.Test.YtmpglkeoppbpgaaDPTreex17
namespace Go.Proofs.Ytmpglkeoppbpgaa.PTree
open Go.RowKit Go.Proofs.YtmpglkeoppbpgaaW.PrintWords Go.Proofs.YtmpglkeoppbpgaaW.PrintLast Go.Proofs.YtmpglkeoppbpgaaW.PrintMore
set_option linter.unusedVariables false
set_option linter.unusedSimpArgs false
theorem flat_ev {l : List S38} (h : szL l ≤ 16777216) : Ev (fun k => tree_Flat.f k l) (walkL ftok 100 l) := by
 have := walkL_le ftok (fun k n => by simp [ftok]) 100 l
 exact Ev.congr (f := fun _ => some (walkL ftok 100 l)) (fun k => by unfold tree_Flat.f; rw [if_pos (by omega)]) (Ev.now _)
end Go.Proofs.Ytmpglkeoppbpgaa.PTree
