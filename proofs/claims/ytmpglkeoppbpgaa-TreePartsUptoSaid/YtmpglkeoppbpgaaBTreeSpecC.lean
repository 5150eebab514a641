/- A part of the row's proof. -/
import Derived.Test.YtmpglkeoppbpgaaBTreeSpecB
import Derived.Test.YtmpglkeoppbpgaaBOwnFlat
import Derived.Test.YtmpglkeoppbpgaaBPTreex12
import Derived.Test.YtmpglkeoppbpgaaBPTreex14
import Derived.Test.YtmpglkeoppbpgaaBPTreex17
namespace Go.Proofs.Ytmpglkeoppbpgaa.PTree
open Go.RowKit Go.Proofs.YtmpglkeoppbpgaaW.PrintWords Go.Proofs.YtmpglkeoppbpgaaW.PrintLast Go.Proofs.YtmpglkeoppbpgaaW.PrintMore
set_option linter.unusedVariables false
set_option linter.unusedSimpArgs false
mutual
def szN : S38 → Nat | ⟨_, _, al, _⟩ => 1 + szA al
def szA : List (List S38) → Nat | [] => 0 | a :: r => 2 + szL a + szA r
def szL : List S38 → Nat | [] => 0 | n :: r => szN n + szL r
end
theorem szN_eq (n : S38) : szN n = 1 + szA n.f2 := by cases n; simp [szN]
theorem szL_len : ∀ l : List S38, l.length ≤ szL l
 | [] => by simp [szL]
 | n :: r => by have := szL_len r; have := szN_eq n; simp only [szL, List.length_cons]; omega
theorem szA_len : ∀ l : List (List S38), l.length ≤ szA l
 | [] => by simp [szA]
 | a :: r => by have := szA_len r; simp only [szA, List.length_cons]; omega
theorem szA_mem {a : List S38} {l : List (List S38)} (h : a ∈ l) : szL a + 2 ≤ szA l := by
 induction l with
 | nil => cases h
 | cons x r ih =>
  simp only [szA]
  rcases List.mem_cons.1 h with h | h
  ·subst h; omega
  ·have := ih h; omega
theorem szL_mem {n : S38} {l : List S38} (h : n ∈ l) : szA n.f2 + 1 ≤ szL l := by
 induction l with
 | nil => cases h
 | cons x r ih =>
  simp only [szL]
  rcases List.mem_cons.1 h with h | h
  ·subst h; have := szN_eq n; omega
  ·have := ih h; omega
theorem szL_arg {n : S38} {l a : List S38} (h : n ∈ l) (ha : a ∈ n.f2) : szL a < szL l := by
 have := szL_mem h; have := szA_mem ha; omega
theorem variorumref06_Same_l1 {l : List S38} {i : Nat} (hi : i < l.length) (hl : l.length ≤ 4294967296) (ha : l[i].f2.length ≤ 4294967296) (h0 : Ev (fun k => variorumref06_Same.l0 k l l ((i + 1 : Nat) : Int)) true) (hF : ∀ a ∈ l[i].f2, Ev (fun k => variorumref06_Same.f k a a) true) : ∀ (m j : Nat), l[i].f2.length - j = m → j ≤ l[i].f2.length → Ev (fun k => variorumref06_Same.l1 k l l (i : Int) (j : Int)) true := by
 intro m
 induction m with
 | zero =>
  intro j hm hj
  refine Ev.step (f := fun k => variorumref06_Same.l0 k l l ((i + 1 : Nat) : Int)) (fun k => ?_) h0
  simp only [variorumref06_Same.l1]
  rw [if_pos (by omega), if_pos (by omega), rd_T38_eq hi, if_neg (by omega), w64 (by omega)]
 | succ m ih =>
  intro j hm hj
  have hj2 : j < l[i].f2.length := by omega
  refine Ev.step (f := fun k => (variorumref06_Same.f k l[i].f2[j] l[i].f2[j]).bind fun t => if t = true then variorumref06_Same.l1 k l l (i : Int) ((j + 1 : Nat) : Int) else some false) (fun k => ?_) (Ev.bind (hF _ (List.getElem_mem hj2)) ?_)
  ·simp only [variorumref06_Same.l1]
   rw [if_pos (by omega), if_pos (by omega), rd_T38_eq hi, if_pos (by omega), if_pos (by omega), if_pos (by omega), if_pos (by omega), rd_L6_eq hj2, w64 (by omega)]
  ·exact Ev.congr (f := fun k => variorumref06_Same.l1 k l l (i : Int) ((j + 1 : Nat) : Int)) (fun k => by rw [if_pos rfl]) (ih (j + 1) (by omega) (by omega))
theorem variorumref06_Same_l0 {l : List S38} (hl : l.length ≤ 4294967296) (ha : ∀ n ∈ l, n.f2.length ≤ 4294967296) (hF : ∀ n ∈ l, ∀ a ∈ n.f2, Ev (fun k => variorumref06_Same.f k a a) true) : ∀ (m i : Nat), l.length - i = m → i ≤ l.length → Ev (fun k => variorumref06_Same.l0 k l l (i : Int)) true := by
 intro m
 induction m with
 | zero =>
  intro i hm hi
  refine Ev.step (f := fun _ => some true) (fun k => ?_) (Ev.now _)
  simp only [variorumref06_Same.l0]
  rw [if_neg (by omega)]
 | succ m ih =>
  intro i hm hi
  have hi2 : i < l.length := by omega
  have hm2 := List.getElem_mem hi2
  refine Ev.step (f := fun k => variorumref06_Same.j1 k l l (i : Int) false) (fun k => ?_) (Ev.step (f := fun k => variorumref06_Same.l1 k l l (i : Int) ((0 : Nat) : Int)) (fun k => ?_) (variorumref06_Same_l1 hi2 hl (ha _ hm2) (ih (i + 1) (by omega) (by omega)) (hF _ hm2) _ 0 rfl (by omega)))
  ·simp only [variorumref06_Same.l0]
   rw [if_pos (by omega), if_pos (by omega), if_pos (by omega), rd_T38_eq hi2, if_neg (by simp), if_true]
   simp
  ·simp only [variorumref06_Same.j1]
   rw [if_neg (by simp)]
   rfl
theorem variorumref06_Same_refl (l : List S38) (h : szL l ≤ 4294967296) : Ev (fun k => variorumref06_Same.f k l l) true := by
 refine Ev.step (f := fun k => variorumref06_Same.l0 k l l ((0 : Nat) : Int)) (fun k => ?_) (variorumref06_Same_l0 (Nat.le_trans (szL_len l) h) (fun n hn => ?_) (fun n hn a ha => ?_) _ 0 rfl (by omega))
 ·simp only [variorumref06_Same.f]
  rw [if_true]
  rfl
 ·have := szL_mem hn; have := szA_len n.f2; omega
 ·have := szL_arg hn ha
  exact variorumref06_Same_refl a (by omega)
termination_by szL l
theorem variorumref06_Places_l1 {l : List S38} {i : Nat} (hi : i < l.length) (hl : l.length ≤ 4294967296) (ha : l[i].f2.length ≤ 4294967296) (h0 : Ev (fun k => variorumref06_Places.l0 k l l ((i + 1 : Nat) : Int)) true) (hF : ∀ a ∈ l[i].f2, Ev (fun k => variorumref06_Places.f k a a) true) : ∀ (m j : Nat), l[i].f2.length - j = m → j ≤ l[i].f2.length → Ev (fun k => variorumref06_Places.l1 k l l (i : Int) (j : Int)) true := by
 intro m
 induction m with
 | zero =>
  intro j hm hj
  refine Ev.step (f := fun k => variorumref06_Places.l0 k l l ((i + 1 : Nat) : Int)) (fun k => ?_) h0
  simp only [variorumref06_Places.l1]
  rw [if_pos (by omega), if_pos (by omega), rd_T38_eq hi, if_neg (by omega), w64 (by omega)]
 | succ m ih =>
  intro j hm hj
  have hj2 : j < l[i].f2.length := by omega
  refine Ev.step (f := fun k => (variorumref06_Places.f k l[i].f2[j] l[i].f2[j]).bind fun t => if t = true then variorumref06_Places.l1 k l l (i : Int) ((j + 1 : Nat) : Int) else some false) (fun k => ?_) (Ev.bind (hF _ (List.getElem_mem hj2)) ?_)
  ·simp only [variorumref06_Places.l1]
   rw [if_pos (by omega), if_pos (by omega), rd_T38_eq hi, if_pos (by omega), if_pos (by omega), if_pos (by omega), if_pos (by omega), rd_L6_eq hj2, w64 (by omega)]
  ·exact Ev.congr (f := fun k => variorumref06_Places.l1 k l l (i : Int) ((j + 1 : Nat) : Int)) (fun k => by rw [if_pos rfl]) (ih (j + 1) (by omega) (by omega))
theorem variorumref06_Places_l0 {l : List S38} (hl : l.length ≤ 4294967296) (ha : ∀ n ∈ l, n.f2.length ≤ 4294967296) (hF : ∀ n ∈ l, ∀ a ∈ n.f2, Ev (fun k => variorumref06_Places.f k a a) true) : ∀ (m i : Nat), l.length - i = m → i ≤ l.length → Ev (fun k => variorumref06_Places.l0 k l l (i : Int)) true := by
 intro m
 induction m with
 | zero =>
  intro i hm hi
  refine Ev.step (f := fun _ => some true) (fun k => ?_) (Ev.now _)
  simp only [variorumref06_Places.l0]
  rw [if_neg (by omega)]
 | succ m ih =>
  intro i hm hi
  have hi2 : i < l.length := by omega
  have hm2 := List.getElem_mem hi2
  refine Ev.step (f := fun k => variorumref06_Places.l1 k l l (i : Int) ((0 : Nat) : Int)) (fun k => ?_) (variorumref06_Places_l1 hi2 hl (ha _ hm2) (ih (i + 1) (by omega) (by omega)) (hF _ hm2) _ 0 rfl (by omega))
  simp only [variorumref06_Places.l0]
  rw [if_pos (by omega), if_pos (by omega), if_pos (by omega), if_true]
  rfl
theorem variorumref06_Places_refl (l : List S38) (h : szL l ≤ 4294967296) : Ev (fun k => variorumref06_Places.f k l l) true := by
 refine Ev.step (f := fun k => (variorumref06_Same.f k l l).bind fun t => if t = true then variorumref06_Places.l0 k l l 0 else some false) (fun k => ?_) (Ev.bind (variorumref06_Same_refl l h) ?_)
 ·simp only [variorumref06_Places.f]
 refine Ev.congr (f := fun k => variorumref06_Places.l0 k l l ((0 : Nat) : Int)) (fun k => by rw [if_pos rfl]; rfl) (variorumref06_Places_l0 (Nat.le_trans (szL_len l) h) (fun n hn => ?_) (fun n hn a ha => ?_) _ 0 rfl (by omega))
 ·have := szL_mem hn; have := szA_len n.f2; omega
 ·have := szL_arg hn ha
  exact variorumref06_Places_refl a (by omega)
termination_by szL l
mutual
def okN : S38 → Prop | ⟨b, _, al, _⟩ => (b = false → al = []) ∧ okA al
def okA : List (List S38) → Prop | [] => True | a :: r => okL a ∧ okA r
def okL : List S38 → Prop | [] => True | n :: r => okN n ∧ okL r
end
end Go.Proofs.Ytmpglkeoppbpgaa.PTree
