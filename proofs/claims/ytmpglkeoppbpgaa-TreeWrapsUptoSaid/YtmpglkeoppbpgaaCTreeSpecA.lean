/- A part of the row's proof. -/
import Derived.Test.YtmpglkeoppbpgaaCOwnParse
namespace Go.Proofs.Ytmpglkeoppbpgaa.PTree
open Go.RowKit Go.Proofs.YtmpglkeoppbpgaaW.PrintWords Go.Proofs.YtmpglkeoppbpgaaW.PrintLast Go.Proofs.YtmpglkeoppbpgaaW.PrintMore
set_option linter.unusedVariables false
set_option linter.unusedSimpArgs false
inductive Rn : List S38 → List S44 → Prop
 | nil : Rn [] []
 | word {t : S44} {ns : List S38} {ts : List S44} (ht : t.f0 = 0) (h : Rn ns ts) : Rn (⟨false, t.f1, [], t.f2⟩ :: ns) (t :: ts)
 | cmd {t : S44} {ns : List S38} {ts : List S44} (ht : t.f0 = 1) (h : Rn ns ts) : Rn (⟨true, t.f1, [], t.f2⟩ :: ns) (t :: ts)
 | arg {tx : ByteArray} {p : Int} {al : List (List S38)} {ns a : List S38} {t o c : S44} {us ts : List S44} (ho : o.f0 = 2) (hc : c.f0 = 3) (ha : Rn a ts) (h : Rn (⟨true, tx, al, p⟩ :: ns) (t :: us)) : Rn (⟨true, tx, a :: al, p⟩ :: ns) (t :: o :: (ts ++ c :: us))
def Lv : Nat → List S38 → Prop
 | 0, l => ∀ n ∈ l, n.f2 = []
 | m + 1, l => ∀ n ∈ l, ∀ a ∈ n.f2, Lv m a
theorem Lv.nil (m : Nat) : Lv m [] := by cases m <;> simp [Lv]
theorem Lv.cons {m : Nat} {n : S38} {l : List S38} (h : Lv m [n]) (k : Lv m l) : Lv m (n :: l) := by
 cases m <;> simp only [Lv, List.mem_cons, forall_eq_or_imp, List.not_mem_nil, false_implies, implies_true, and_true] at * <;> exact ⟨h, k⟩
theorem Lv.append {m : Nat} {l r : List S38} (h : Lv m l) (k : Lv m r) : Lv m (l ++ r) := by
 cases m <;> simp only [Lv, List.mem_append] at * <;> intro n hn <;> rcases hn with hn | hn
 ·exact h n hn
 ·exact k n hn
 ·exact h n hn
 ·exact k n hn
theorem Lv.mono {m k : Nat} (h : m ≤ k) : ∀ {l : List S38}, Lv m l → Lv k l := by
 induction m generalizing k with
 | zero =>
  intro l hl
  cases k with
  | zero => exact hl
  | succ k => intro n hn a ha; rw [hl n hn] at ha; cases ha
 | succ m ih =>
  intro l hl
  cases k with
  | zero => omega
  | succ k => intro n hn a ha; exact ih (by omega) (hl n hn a ha)
end Go.Proofs.Ytmpglkeoppbpgaa.PTree
