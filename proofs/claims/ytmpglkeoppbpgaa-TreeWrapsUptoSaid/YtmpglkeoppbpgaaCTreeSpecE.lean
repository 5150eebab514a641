/- A part of the row's proof. -/
import Derived.Test.YtmpglkeoppbpgaaCTreeSpecD
namespace Go.Proofs.Ytmpglkeoppbpgaa.PTree
open Go.RowKit Go.Proofs.YtmpglkeoppbpgaaW.PrintWords Go.Proofs.YtmpglkeoppbpgaaW.PrintLast Go.Proofs.YtmpglkeoppbpgaaW.PrintMore
set_option linter.unusedVariables false
set_option linter.unusedSimpArgs false
theorem Rn.sz {ns : List S38} {ts : List S44} (h : Rn ns ts) : szL ns = ts.length := by
 induction h with
 | nil => rfl
 | word ht h ih => simp only [szL, szN, szA, ih, List.length_cons]; omega
 | cmd ht h ih => simp only [szL, szN, szA, ih, List.length_cons]; omega
 | arg ho hc ha h ih1 ih2 => simp only [szL, szN, szA, List.length_cons, List.length_append] at *; omega
theorem Rn.append {a b : List S38} {ts us : List S44} (h : Rn a ts) (k : Rn b us) : Rn (a ++ b) (ts ++ us) := by
 induction h with
 | nil => exact k
 | word ht h ih => exact .word ht ih
 | cmd ht h ih => exact .cmd ht ih
 | arg ho hc ha h ih1 ih2 =>
  have := Rn.arg ho hc ha ih2
  simpa using this
theorem Rn.ok {ns : List S38} {ts : List S44} (h : Rn ns ts) : okL ns := by
 induction h with
 | nil => trivial
 | word ht h ih => exact ⟨⟨fun _ => rfl, trivial⟩, ih⟩
 | cmd ht h ih => exact ⟨⟨fun h => (by cases h), trivial⟩, ih⟩
 | arg ho hc ha h ih1 ih2 => exact ⟨⟨fun h => (by cases h), ⟨ih1, ih2.1.2⟩⟩, ih2.2⟩
theorem Lv.arg {m : Nat} {tx : ByteArray} {a : List S38} {al : List (List S38)} {p : Int} {ns : List S38} (h : Lv m (⟨true, tx, a :: al, p⟩ :: ns)) : ∃ m', m = m' + 1 ∧ Lv m' a ∧ Lv m (⟨true, tx, al, p⟩ :: ns) := by
 cases m with
 | zero => have := h ⟨true, tx, a :: al, p⟩ (by simp); cases this
 | succ m =>
  simp only [Lv, List.mem_cons, forall_eq_or_imp] at h
  exact ⟨m, rfl, h.1.1, by simp only [Lv, List.mem_cons, forall_eq_or_imp]; exact ⟨h.1.2, h.2⟩⟩
end Go.Proofs.Ytmpglkeoppbpgaa.PTree
