/- A part of the row's proof. -/
import Derived.Test.YtmpglkeoppbpgaaCTreeSpecC
namespace Go.Proofs.Ytmpglkeoppbpgaa.PTree
open Go.RowKit Go.Proofs.YtmpglkeoppbpgaaW.PrintWords Go.Proofs.YtmpglkeoppbpgaaW.PrintLast Go.Proofs.YtmpglkeoppbpgaaW.PrintMore
set_option linter.unusedVariables false
set_option linter.unusedSimpArgs false
def dp : Nat → List S38 → Nat
 | 0, _ => 0
 | m + 1, l => l.foldr (fun n r => max (n.f2.foldr (fun a s => max (1 + dp m a) s) 0) r) 0
def dpA (m : Nat) (al : List (List S38)) : Nat := match m with | 0 => 0 | m + 1 => al.foldr (fun a s => max (1 + dp m a) s) 0
theorem dp_nil (m : Nat) : dp m [] = 0 := by cases m <;> rfl
theorem dp_cons (m : Nat) (n : S38) (l : List S38) : dp m (n :: l) = max (dpA m n.f2) (dp m l) := by cases m <;> simp [dp, dpA]
theorem dpA_nil (m : Nat) : dpA m [] = 0 := by cases m <;> rfl
theorem dpA_cons (m : Nat) (a : List S38) (l : List (List S38)) : dpA (m + 1) (a :: l) = max (1 + dp m a) (dpA (m + 1) l) := rfl
theorem dp_append (m : Nat) (l r : List S38) : dp m (l ++ r) = max (dp m l) (dp m r) := by
 induction l with
 | nil => simp [dp_nil]
 | cons n l ih => rw [List.cons_append, dp_cons, dp_cons, ih]; omega
theorem dp_le (m : Nat) : ∀ l, dp m l ≤ m := by
 induction m with
 | zero => intro l; simp [dp]
 | succ m ih =>
  intro l
  induction l with
  | nil => simp [dp_nil]
  | cons n l ih2 =>
   rw [dp_cons]
   have : dpA (m + 1) n.f2 ≤ m + 1 := by
    generalize n.f2 = al
    induction al with
    | nil => simp [dpA_nil]
    | cons a al ih3 => rw [dpA_cons]; have := ih a; omega
   omega
theorem mxN (a b : Nat) : mx (a : Int) (b : Int) = ((max a b : Nat) : Int) := by unfold mx; split <;> omega
theorem tree_depth_l1 {l : List S38} {i : Nat} {al : List (List S38)} {a1 R : Nat} (h1 : a1 ≤ 101) (hi : i < 4294967296) (ha : al.length ≤ 4294967296)
  (h0 : ∀ d : Nat, d ≤ 101 → Ev (fun k => tree_depth.l0 k (a1 : Int) (d : Int) l (l.length : Int) ((i + 1 : Nat) : Int)) ((max d R : Nat) : Int))
  (hF : ∀ m, a1 = m + 1 → ∀ a ∈ al, Ev (fun k => tree_depth.f k a (m : Int)) ((dp m a : Nat) : Int)) : ∀ (m j d : Nat), d ≤ 101 → al.length - j = m → j ≤ al.length → Ev (fun k => tree_depth.l1 k (a1 : Int) (d : Int) l (l.length : Int) (i : Int) al (al.length : Int) (j : Int)) ((max d (max (dpA a1 (al.drop j)) R) : Nat) : Int) := by
 intro m
 induction m with
 | zero =>
  intro j d hd hm hj
  refine Ev.step (f := fun k => tree_depth.l0 k (a1 : Int) (d : Int) l (l.length : Int) ((i + 1 : Nat) : Int)) (fun k => ?_) ?_
  ·simp only [tree_depth.l1]
   rw [if_neg (by omega), w64 (by omega)]
  ·rw [List.drop_eq_nil_of_le (by omega), dpA_nil, Nat.zero_max]; exact h0 d hd
 | succ m ih =>
  intro j d hd hm hj
  have hj2 : j < al.length := by omega
  rw [List.drop_eq_getElem_cons hj2]
  cases a1 with
  | zero =>
   refine Ev.step (f := fun k => tree_depth.l1 k ((0 : Nat) : Int) (d : Int) l (l.length : Int) (i : Int) al (al.length : Int) ((j + 1 : Nat) : Int)) (fun k => ?_) (ih (j + 1) d hd (by omega) (by omega))
   simp only [tree_depth.l1]
   rw [if_pos (by omega), if_pos (by omega), if_pos (by omega), if_neg (by omega), w64 (by omega)]
  | succ a1 =>
   have hb := dp_le a1 al[j]
   refine Ev.step (f := fun k => (tree_depth.f k al[j] (a1 : Int)).bind fun t => tree_depth.l1 k ((a1 + 1 : Nat) : Int) (mx (d : Int) (wrap64 (1 + t))) l (l.length : Int) (i : Int) al (al.length : Int) ((j + 1 : Nat) : Int)) (fun k => ?_) (Ev.bind (hF a1 rfl _ (List.getElem_mem hj2)) ?_)
   ·simp only [tree_depth.l1]
    rw [if_pos (by omega), if_pos (by omega), if_pos (by omega), if_pos (by omega), rd_L6_eq hj2, w64 (by omega), show wrap64 (((a1 + 1 : Nat) : Int) - 1) = (a1 : Int) by unfold wrap64; omega]
   ·have e : mx (d : Int) (wrap64 (1 + ((dp a1 al[j] : Nat) : Int))) = ((max d (1 + dp a1 al[j]) : Nat) : Int) := by
     rw [show wrap64 (1 + ((dp a1 al[j] : Nat) : Int)) = ((1 + dp a1 al[j] : Nat) : Int) by unfold wrap64; omega, mxN]
    simp only [e]
    have := ih (j + 1) (max d (1 + dp a1 al[j])) (by omega) (by omega) (by omega)
    rw [dpA_cons, show max d (max (max (1 + dp a1 al[j]) (dpA (a1 + 1) (al.drop (j + 1)))) R) = max (max d (1 + dp a1 al[j])) (max (dpA (a1 + 1) (al.drop (j + 1))) R) by omega]
    exact this
theorem tree_depth_l0 {l : List S38} {a1 : Nat} (h1 : a1 ≤ 101) (hl : l.length ≤ 4294967296) (ha : ∀ n ∈ l, n.f2.length ≤ 4294967296) (hF : ∀ n ∈ l, ∀ m, a1 = m + 1 → ∀ a ∈ n.f2, Ev (fun k => tree_depth.f k a (m : Int)) ((dp m a : Nat) : Int)) : ∀ (m i d : Nat), d ≤ 101 → l.length - i = m → i ≤ l.length → Ev (fun k => tree_depth.l0 k (a1 : Int) (d : Int) l (l.length : Int) (i : Int)) ((max d (dp a1 (l.drop i)) : Nat) : Int) := by
 intro m
 induction m with
 | zero =>
  intro i d hd hm hi
  refine Ev.step (f := fun _ => some (d : Int)) (fun k => ?_) ?_
  ·simp only [tree_depth.l0]
   rw [if_neg (by omega)]
  ·rw [List.drop_eq_nil_of_le (by omega), dp_nil, Nat.max_zero]; exact Ev.now _
 | succ m ih =>
  intro i d hd hm hi
  have hi2 : i < l.length := by omega
  have hm2 := List.getElem_mem hi2
  refine Ev.step (f := fun k => tree_depth.l1 k (a1 : Int) (d : Int) l (l.length : Int) (i : Int) l[i].f2 (l[i].f2.length : Int) ((0 : Nat) : Int)) (fun k => ?_) ?_
  ·simp only [tree_depth.l0]
   rw [if_pos (by omega), if_pos (by omega), if_pos (by omega), rd_T38_eq hi2]
   rfl
  ·have := tree_depth_l1 (l := l) (i := i) (al := l[i].f2) (a1 := a1) (R := dp a1 (l.drop (i + 1))) h1 (by omega) (ha _ hm2) (fun d hd => ih (i + 1) d hd (by omega) (by omega)) (hF _ hm2) _ 0 d hd rfl (by omega)
   rw [List.drop_eq_getElem_cons hi2, dp_cons]
   exact this
theorem tree_depth_ev (a1 : Nat) : ∀ (l : List S38), a1 ≤ 101 → szL l ≤ 4294967296 → Ev (fun k => tree_depth.f k l (a1 : Int)) ((dp a1 l : Nat) : Int) := by
 induction a1 with
 | zero =>
  intro l h1 h
  have := tree_depth_l0 h1 (Nat.le_trans (szL_len l) h) (fun n hn => by have := szL_mem hn; have := szA_len n.f2; omega) (fun n hn m hm => by omega) _ 0 0 (by omega) rfl (by omega)
  rw [List.drop_zero, Nat.zero_max] at this
  exact Ev.step (fun k => by simp only [tree_depth.f]; rfl) this
 | succ a1 ih =>
  intro l h1 h
  have := tree_depth_l0 h1 (Nat.le_trans (szL_len l) h) (fun n hn => by have := szL_mem hn; have := szA_len n.f2; omega) (fun n hn m hm a ha => by
   obtain rfl : a1 = m := by omega
   have := szL_arg hn ha
   exact ih a (by omega) (by omega)) _ 0 0 (by omega) rfl (by omega)
  rw [List.drop_zero, Nat.zero_max] at this
  exact Ev.step (fun k => by simp only [tree_depth.f]; rfl) this
theorem tree_Depth_ev (l : List S38) (h : szL l ≤ 4294967296) : Ev (fun k => tree_Depth.f k l) ((dp 101 l : Nat) : Int) := by
 refine Ev.congr (f := fun k => (tree_depth.f k l ((101 : Nat) : Int)).bind fun t => some t) (fun k => rfl) (Ev.bind (tree_depth_ev 101 l (by omega) h) (Ev.now _))
theorem dpA_mem {m : Nat} {a : List S38} {al : List (List S38)} (h : a ∈ al) : 1 + dp m a ≤ dpA (m + 1) al := by
 induction al with
 | nil => cases h
 | cons x al ih =>
  rw [dpA_cons]
  rcases List.mem_cons.1 h with h | h
  ·subst h; omega
  ·have := ih h; omega
theorem dp_mem {m : Nat} {n : S38} {l : List S38} (h : n ∈ l) : dpA m n.f2 ≤ dp m l := by
 induction l with
 | nil => cases h
 | cons x al ih =>
  rw [dp_cons]
  rcases List.mem_cons.1 h with h | h
  ·subst h; omega
  ·have := ih h; omega
theorem Lv_of_dp (m : Nat) : ∀ (k : Nat) (l : List S38), m < k → dp k l ≤ m → Lv m l := by
 induction m with
 | zero =>
  intro k l hk h n hn
  obtain ⟨k, rfl⟩ : ∃ k', k = k' + 1 := ⟨k - 1, by omega⟩
  have h1 := dp_mem (m := k + 1) hn
  cases h2 : n.f2 with
  | nil => rfl
  | cons a al => rw [h2, dpA_cons] at h1; omega
 | succ m ih =>
  intro k l hk h n hn a ha
  obtain ⟨k, rfl⟩ : ∃ k', k = k' + 1 := ⟨k - 1, by omega⟩
  have h1 := dp_mem (m := k + 1) hn
  have h2 := dpA_mem (m := k) ha
  exact ih k a (by omega) (by omega)
theorem dp_of_Lv (m : Nat) : ∀ (k : Nat) (l : List S38), Lv m l → dp k l ≤ m := by
 induction m with
 | zero =>
  intro k l h
  induction l with
  | nil => rw [dp_nil]; omega
  | cons n l ih2 =>
   rw [dp_cons, h n (by simp), dpA_nil]
   have := ih2 (fun x hx => h x (by simp [hx]))
   omega
 | succ m ih =>
  intro k l h
  induction l with
  | nil => rw [dp_nil]; omega
  | cons n l ih2 =>
   rw [dp_cons]
   have h1 := ih2 (fun x hx => h x (by simp [hx]))
   have h2 : dpA k n.f2 ≤ m + 1 := by
    cases k with
    | zero => simp [dpA]
    | succ k =>
     have h3 : ∀ a ∈ n.f2, Lv m a := h n (by simp)
     generalize n.f2 = al at h3
     induction al with
     | nil => rw [dpA_nil]; omega
     | cons a al ih3 =>
      rw [dpA_cons]
      have := ih k a (h3 a (by simp))
      have := ih3 (fun x hx => h3 x (by simp [hx]))
      omega
   omega
theorem dp_same (m : Nat) : ∀ (k k' : Nat) (l : List S38), m < k → m < k' → Lv m l → dp k l = dp k' l := by
 induction m with
 | zero =>
  intro k k' l hk hk' h
  have := dp_of_Lv 0 k l h; have := dp_of_Lv 0 k' l h; omega
 | succ m ih =>
  intro k k' l hk hk' h
  obtain ⟨k, rfl⟩ : ∃ j, k = j + 1 := ⟨k - 1, by omega⟩
  obtain ⟨k', rfl⟩ : ∃ j, k' = j + 1 := ⟨k' - 1, by omega⟩
  induction l with
  | nil => rw [dp_nil, dp_nil]
  | cons n l ih2 =>
   rw [dp_cons, dp_cons, ih2 (fun x hx => h x (by simp [hx]))]
   congr 1
   have h3 : ∀ a ∈ n.f2, Lv m a := h n (by simp)
   generalize n.f2 = al at h3
   induction al with
   | nil => rw [dpA_nil, dpA_nil]
   | cons a al ih3 => rw [dpA_cons, dpA_cons, ih3 (fun x hx => h3 x (by simp [hx])), ih k k' a (by omega) (by omega) (h3 a (by simp))]
theorem tree_May_ev (l : List S38) (h : szL l ≤ 4294967296) : ∃ b, Ev (fun k => tree_May.f k l) b ∧ (b = true ↔ Lv 64 l ∧ okL l) := by
 obtain ⟨b, h1, h2⟩ := tree_words_ev l h
 have h3 := tree_Depth_ev l h
 by_cases hd : dp 101 l ≤ 64
 ·refine ⟨b, Ev.congr (f := fun k => (tree_Depth.f k l).bind fun t376 => if t376 ≤ 64 then ((tree_words.f k l).bind fun t377 => (some t377)) else (some false)) (fun k => rfl) (Ev.bind h3 ?_), ?_⟩
  ·exact Ev.congr (f := fun k => (tree_words.f k l).bind fun t377 => (some t377)) (fun k => by rw [if_pos (by omega)]) (Ev.bind h1 (Ev.now _))
  ·rw [h2]; exact ⟨fun h => ⟨Lv_of_dp 64 101 l (by omega) hd, h⟩, fun h => h.2⟩
 ·refine ⟨false, Ev.congr (f := fun k => (tree_Depth.f k l).bind fun t376 => if t376 ≤ 64 then ((tree_words.f k l).bind fun t377 => (some t377)) else (some false)) (fun k => rfl) (Ev.bind h3 ?_), ?_⟩
  ·exact Ev.congr (f := fun k => some false) (fun k => by rw [if_neg (by omega)]) (Ev.now _)
  ·simp only [Bool.false_eq_true, false_iff]
   intro h
   exact hd (dp_of_Lv 64 101 l h.1)
end Go.Proofs.Ytmpglkeoppbpgaa.PTree
