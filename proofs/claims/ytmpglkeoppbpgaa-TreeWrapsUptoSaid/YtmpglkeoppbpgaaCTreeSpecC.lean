/- A part of the row's proof. -/
import Derived.Test.YtmpglkeoppbpgaaCTreeSpecB
import Derived.Test.YtmpglkeoppbpgaaCOwnFlat
import Derived.Test.YtmpglkeoppbpgaaCPTreex12
import Derived.Test.YtmpglkeoppbpgaaCPTreex14
import Derived.Test.YtmpglkeoppbpgaaCPTreex17
namespace Go.Proofs.Ytmpglkeoppbpgaa.PTree
open Go.RowKit Go.Proofs.YtmpglkeoppbpgaaW.PrintWords Go.Proofs.YtmpglkeoppbpgaaW.PrintLast Go.Proofs.YtmpglkeoppbpgaaW.PrintMore
set_option linter.unusedVariables false
set_option linter.unusedSimpArgs false
mutual
def szN : S38 → Nat | ⟨_, _, al, _⟩ => 1 + szA al
def szA : List (List S38) → Nat | [] => 0 | a :: r => 2 + szL a + szA r
def szL : List S38 → Nat | [] => 0 | n :: r => szN n + szL r
end
theorem szN_eq (n : S38) : szN n = 1 + szA n.f2 := by cases n; simp [szN]
theorem szL_len : ∀ l : List S38, l.length ≤ szL l
 | [] => by simp [szL]
 | n :: r => by have := szL_len r; have := szN_eq n; simp only [szL, List.length_cons]; omega
theorem szA_len : ∀ l : List (List S38), l.length ≤ szA l
 | [] => by simp [szA]
 | a :: r => by have := szA_len r; simp only [szA, List.length_cons]; omega
theorem szA_mem {a : List S38} {l : List (List S38)} (h : a ∈ l) : szL a + 2 ≤ szA l := by
 induction l with
 | nil => cases h
 | cons x r ih =>
  simp only [szA]
  rcases List.mem_cons.1 h with h | h
  ·subst h; omega
  ·have := ih h; omega
theorem szL_mem {n : S38} {l : List S38} (h : n ∈ l) : szA n.f2 + 1 ≤ szL l := by
 induction l with
 | nil => cases h
 | cons x r ih =>
  simp only [szL]
  rcases List.mem_cons.1 h with h | h
  ·subst h; have := szN_eq n; omega
  ·have := ih h; omega
theorem szL_append (l r : List S38) : szL (l ++ r) = szL l + szL r := by
 induction l with
 | nil => simp [szL]
 | cons x l ih => simp only [List.cons_append, szL, ih]; omega
theorem szL_arg {n : S38} {l a : List S38} (h : n ∈ l) (ha : a ∈ n.f2) : szL a < szL l := by
 have := szL_mem h; have := szA_mem ha; omega
theorem walkL_le {α : Type} (step : Int → S38 → List α) (hs : ∀ k n, (step k n).length ≤ 1) (d : Nat) : ∀ l, (walkL step d l).length ≤ szL l := by
 induction d with
 | zero =>
  intro l
  induction l with
  | nil => simp [walkL_nil]
  | cons n r ih =>
   rw [show n :: r = [n] ++ r from rfl, walkL_append, List.length_append, szL_append]
   have h1 : (walkL step 0 [n]).length ≤ 1 := by
    obtain ⟨b, t, al, p⟩ := n
    cases b
    ·rw [walkL_word]; exact hs _ _
    ·rw [walkL_zero]; exact hs _ _
   have := szN_eq n
   simp only [szL] at *
   omega
 | succ d ih =>
  intro l
  induction l with
  | nil => simp [walkL_nil]
  | cons n r ih2 =>
   rw [show n :: r = [n] ++ r from rfl, walkL_append, List.length_append, szL_append]
   have h1 : (walkL step (d + 1) [n]).length ≤ szL [n] := by
    obtain ⟨b, t, al, p⟩ := n
    cases b
    ·rw [walkL_word]; have := hs 0 ⟨false, t, al, p⟩; simp only [szL, szN]; omega
    ·rw [walkL_comm, List.length_append]
     have := hs 1 ⟨true, t, al, p⟩
     have h2 : ∀ (m : S38) (bs : List (List S38)), (bs.flatMap (partL step d m)).length ≤ szA bs := by
      intro m bs
      induction bs with
      | nil => simp [szA]
      | cons a bs ih3 =>
       rw [List.flatMap_cons, List.length_append, partL_len]
       have := hs 2 m; have := hs 3 m; have := ih a
       simp only [szA]; omega
     have := h2 ⟨true, t, al, p⟩ al
     simp only [szL, szN]; omega
   omega
mutual
def okN : S38 → Prop | ⟨b, _, al, _⟩ => (b = false → al = []) ∧ okA al
def okA : List (List S38) → Prop | [] => True | a :: r => okL a ∧ okA r
def okL : List S38 → Prop | [] => True | n :: r => okN n ∧ okL r
end
theorem okN_eq (n : S38) : okN n ↔ (n.f0 = false → n.f2 = []) ∧ okA n.f2 := by cases n; simp [okN]
theorem okA_iff (l : List (List S38)) : okA l ↔ ∀ a ∈ l, okL a := by
 induction l with
 | nil => simp [okA]
 | cons a r ih => simp [okA, ih]
theorem okL_iff (l : List S38) : okL l ↔ ∀ n ∈ l, (n.f0 = false → n.f2 = []) ∧ ∀ a ∈ n.f2, okL a := by
 induction l with
 | nil => simp [okL]
 | cons a r ih => simp [okL, ih, okN_eq, okA_iff]
theorem tree_words_l1 {l : List S38} {i : Nat} {al : List (List S38)} {b0 : Bool} (hi : i < 4294967296) (ha : al.length ≤ 4294967296) (h0 : Ev (fun k => tree_words.l0 k l (l.length : Int) ((i + 1 : Nat) : Int)) b0) (hF : ∀ a ∈ al, ∃ b, Ev (fun k => tree_words.f k a) b ∧ (b = true ↔ okL a)) : ∀ (m j : Nat), al.length - j = m → j ≤ al.length → ∃ b, Ev (fun k => tree_words.l1 k l (l.length : Int) (i : Int) al (al.length : Int) (j : Int)) b ∧ (b = true ↔ (∀ a ∈ al.drop j, okL a) ∧ b0 = true) := by
 intro m
 induction m with
 | zero =>
  intro j hm hj
  refine ⟨b0, Ev.step (f := fun k => tree_words.l0 k l (l.length : Int) ((i + 1 : Nat) : Int)) (fun k => ?_) h0, ?_⟩
  ·simp only [tree_words.l1]
   rw [if_neg (by omega), w64 (by omega)]
  ·rw [List.drop_eq_nil_of_le (by omega)]; simp
 | succ m ih =>
  intro j hm hj
  have hj2 : j < al.length := by omega
  obtain ⟨b1, h1, h2⟩ := hF _ (List.getElem_mem hj2)
  obtain ⟨b2, h3, h4⟩ := ih (j + 1) (by omega) (by omega)
  have hst : ∀ k, tree_words.l1 (k + 1) l (l.length : Int) (i : Int) al (al.length : Int) (j : Int) = (tree_words.f k al[j]).bind fun t => if t = true then tree_words.l1 k l (l.length : Int) (i : Int) al (al.length : Int) ((j + 1 : Nat) : Int) else some false := by
   intro k
   simp only [tree_words.l1]
   rw [if_pos (by omega), if_pos (by omega), if_pos (by omega), rd_L6_eq hj2, w64 (by omega)]
  rw [List.drop_eq_getElem_cons hj2]
  cases b1 with
  | true =>
   refine ⟨b2, Ev.step hst (Ev.bind h1 (Ev.congr (f := fun k => tree_words.l1 k l (l.length : Int) (i : Int) al (al.length : Int) ((j + 1 : Nat) : Int)) (fun k => by rw [if_pos rfl]) h3)), ?_⟩
   rw [h4]
   simp only [List.mem_cons, forall_eq_or_imp]
   have := h2.1 rfl
   simp [this]
  | false =>
   refine ⟨false, Ev.step hst (Ev.bind h1 (Ev.congr (f := fun k => some false) (fun k => by rw [if_neg (by simp)]) (Ev.now _))), ?_⟩
   simp only [List.mem_cons, forall_eq_or_imp]
   have : ¬ okL al[j] := fun h => by simpa using h2.2 h
   simp [this]
theorem tree_words_l0 {l : List S38} (hl : l.length ≤ 4294967296) (ha : ∀ n ∈ l, n.f2.length ≤ 4294967296) (hF : ∀ n ∈ l, ∀ a ∈ n.f2, ∃ b, Ev (fun k => tree_words.f k a) b ∧ (b = true ↔ okL a)) : ∀ (m i : Nat), l.length - i = m → i ≤ l.length → ∃ b, Ev (fun k => tree_words.l0 k l (l.length : Int) (i : Int)) b ∧ (b = true ↔ okL (l.drop i)) := by
 intro m
 induction m with
 | zero =>
  intro i hm hi
  refine ⟨true, Ev.step (f := fun _ => some true) (fun k => ?_) (Ev.now _), ?_⟩
  ·simp only [tree_words.l0]
   rw [if_neg (by omega)]
  ·rw [List.drop_eq_nil_of_le (by omega)]; simp [okL]
 | succ m ih =>
  intro i hm hi
  have hi2 : i < l.length := by omega
  have hm2 := List.getElem_mem hi2
  obtain ⟨b0, h0, h1⟩ := ih (i + 1) (by omega) (by omega)
  obtain ⟨b2, h3, h4⟩ := tree_words_l1 (l := l) (i := i) (al := l[i].f2) (by omega) (ha _ hm2) h0 (hF _ hm2) _ 0 rfl (by omega)
  rw [List.drop_eq_getElem_cons hi2, okL, okN_eq, okA_iff]
  rw [List.drop_zero, h1] at h4
  have hgo : ∀ x : Bool, (x = false) → (∀ k, tree_words.l0 (k + 1) l (l.length : Int) (i : Int) = tree_words.j1 k l (l.length : Int) (i : Int) x l[i].f0 l[i].f1 l[i].f2 l[i].f3) → Ev (fun k => tree_words.l0 k l (l.length : Int) (i : Int)) b2 := by
   intro x hx hs
   subst hx
   refine Ev.step hs (Ev.step (f := fun k => tree_words.l1 k l (l.length : Int) (i : Int) l[i].f2 (l[i].f2.length : Int) ((0 : Nat) : Int)) (fun k => ?_) h3)
   simp only [tree_words.j1]
   rw [if_neg (by simp)]
   rfl
  have hbase : ∀ k, tree_words.l0 (k + 1) l (l.length : Int) (i : Int) = if l[i].f0 = true then tree_words.j1 k l (l.length : Int) (i : Int) false l[i].f0 l[i].f1 l[i].f2 l[i].f3 else tree_words.j1 k l (l.length : Int) (i : Int) (decide ((l[i].f2.length : Int) > 0)) l[i].f0 l[i].f1 l[i].f2 l[i].f3 := by
   intro k
   simp only [tree_words.l0]
   rw [if_pos (by omega), if_pos (by omega), if_pos (by omega), rd_T38_eq hi2]
  by_cases hb : l[i].f0 = true
  ·refine ⟨b2, hgo false rfl (fun k => by rw [hbase, if_pos hb]), ?_⟩
   rw [h4]; simp [hb]
  ·by_cases hz : l[i].f2 = []
   ·refine ⟨b2, hgo (decide ((l[i].f2.length : Int) > 0)) (by rw [hz]; rfl) (fun k => by rw [hbase, if_neg hb]), ?_⟩
    rw [h4]; simp [hz]
   ·refine ⟨false, Ev.step (f := fun k => tree_words.j1 k l (l.length : Int) (i : Int) (decide ((l[i].f2.length : Int) > 0)) l[i].f0 l[i].f1 l[i].f2 l[i].f3) (fun k => by rw [hbase, if_neg hb]) (Ev.step (f := fun _ => some false) (fun k => ?_) (Ev.now _)), ?_⟩
    ·have : 0 < l[i].f2.length := List.length_pos_iff.2 hz
     simp only [tree_words.j1]
     rw [if_pos (by simpa using this)]
    ·have : l[i].f0 = false := by simpa using hb
     simp [this, hz]
theorem tree_words_ev (l : List S38) (h : szL l ≤ 4294967296) : ∃ b, Ev (fun k => tree_words.f k l) b ∧ (b = true ↔ okL l) := by
 obtain ⟨b, h1, h2⟩ := tree_words_l0 (Nat.le_trans (szL_len l) h) (fun n hn => by have := szL_mem hn; have := szA_len n.f2; omega) (fun n hn a ha => by
  have := szL_arg hn ha
  exact tree_words_ev a (by omega)) _ 0 rfl (by omega)
 refine ⟨b, Ev.step (f := fun k => tree_words.l0 k l (l.length : Int) ((0 : Nat) : Int)) (fun k => ?_) h1, h2⟩
 simp only [tree_words.f]
 rfl
termination_by szL l
end Go.Proofs.Ytmpglkeoppbpgaa.PTree
