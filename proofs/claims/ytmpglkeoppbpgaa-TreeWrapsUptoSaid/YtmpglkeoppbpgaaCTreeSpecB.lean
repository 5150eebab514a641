/- A part of the row's proof. -/
import Derived.Test.YtmpglkeoppbpgaaCTreeSpecA
namespace Go.Proofs.Ytmpglkeoppbpgaa.PTree
open Go.RowKit Go.Proofs.YtmpglkeoppbpgaaW.PrintWords Go.Proofs.YtmpglkeoppbpgaaW.PrintLast Go.Proofs.YtmpglkeoppbpgaaW.PrintMore
set_option linter.unusedVariables false
set_option linter.unusedSimpArgs false
theorem w64 {n : Nat} (h : n ≤ 4294967296) : wrap64 ((n : Int) + 1) = ((n + 1 : Nat) : Int) := by unfold wrap64; omega
theorem Lv.cmd {m : Nat} {t t' : ByteArray} {p p' : Int} {al : List (List S38)} (h : Lv m [⟨true, t, al, p⟩]) : Lv m [⟨true, t', al, p'⟩] := by
 cases m <;> simp only [Lv, List.mem_cons, List.not_mem_nil, or_false, forall_eq] at * <;> exact h
end Go.Proofs.Ytmpglkeoppbpgaa.PTree
