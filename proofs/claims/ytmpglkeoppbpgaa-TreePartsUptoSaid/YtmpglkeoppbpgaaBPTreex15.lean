/- A part of the row's proof. -/
import Derived.Test.YtmpglkeoppbpgaaBPTreex0
namespace Go.Proofs.Ytmpglkeoppbpgaa.PTree
open Go.RowKit Go.Proofs.YtmpglkeoppbpgaaW.PrintWords Go.Proofs.YtmpglkeoppbpgaaW.PrintLast Go.Proofs.YtmpglkeoppbpgaaW.PrintMore
attribute [local go_sem] max2_int min2_int max_two min_two max_three min_three max_four min_four
set_option linter.unusedVariables false
set_option linter.unusedSimpArgs false
mutual
def tree_Same.l0 : Nat → List (S38) → List (S38) → Int → Int → Option (Bool)
 | 0, _, _, _, _ => none
 | k + 1, x1, x14, x15, x16 => if x16 < x15 then (if 0 ≤ x16 then (if x16 < (x14.length : Int) then (if x16 < (x1.length : Int) then (if (((rd_T38 x14 x16).f0) != ((rd_T38 x1 x16).f0)) = true then (tree_Same.j1 k x1 x14 x15 x16 true ((rd_T38 x14 x16).f0) ((rd_T38 x14 x16).f1) ((rd_T38 x14 x16).f2) ((rd_T38 x14 x16).f3) ((rd_T38 x1 x16).f0) ((rd_T38 x1 x16).f1) ((rd_T38 x1 x16).f2) ((rd_T38 x1 x16).f3)) else (if ((rd_T38 x14 x16).f1).toList = ((rd_T38 x1 x16).f1).toList then (tree_Same.j1 k x1 x14 x15 x16 ((((rd_T38 x14 x16).f2).length : Int) != (((rd_T38 x1 x16).f2).length : Int)) ((rd_T38 x14 x16).f0) ((rd_T38 x14 x16).f1) ((rd_T38 x14 x16).f2) ((rd_T38 x14 x16).f3) ((rd_T38 x1 x16).f0) ((rd_T38 x1 x16).f1) ((rd_T38 x1 x16).f2) ((rd_T38 x1 x16).f3)) else (tree_Same.j1 k x1 x14 x15 x16 true ((rd_T38 x14 x16).f0) ((rd_T38 x14 x16).f1) ((rd_T38 x14 x16).f2) ((rd_T38 x14 x16).f3) ((rd_T38 x1 x16).f0) ((rd_T38 x1 x16).f1) ((rd_T38 x1 x16).f2) ((rd_T38 x1 x16).f3)))) else (none)) else (none)) else (none)) else (some true)
def tree_Same.j1 : Nat → List (S38) → List (S38) → Int → Int → Bool → Bool → ByteArray → List (List (S38)) → Int → Bool → ByteArray → List (List (S38)) → Int → Option (Bool)
 | 0, _, _, _, _, _, _, _, _, _, _, _, _, _ => none
 | k + 1, x1, x14, x15, x16, x45, x427000, x427001, x427002, x427003, x429000, x429001, x429002, x429003 => if x45 = true then (some false) else (tree_Same.l1 k x1 x14 x15 x16 (x427002.length : Int) 0 x427000 x427001 x427002 x427003 x429000 x429001 x429002 x429003)
def tree_Same.l1 : Nat → List (S38) → List (S38) → Int → Int → Int → Int → Bool → ByteArray → List (List (S38)) → Int → Bool → ByteArray → List (List (S38)) → Int → Option (Bool)
 | 0, _, _, _, _, _, _, _, _, _, _, _, _, _, _ => none
 | k + 1, x1, x14, x15, x16, x48, x49, x427000, x427001, x427002, x427003, x429000, x429001, x429002, x429003 => if x49 < x48 then (if 0 ≤ x49 then (if x49 < (x427002.length : Int) then (if x49 < (x429002.length : Int) then ((tree_Same.f k (rd_L5 x427002 x49) (rd_L5 x429002 x49)).bind fun t431 => (if t431 = true then (tree_Same.l1 k x1 x14 x15 x16 x48 (wrap64 (x49 + 1)) x427000 x427001 x427002 x427003 x429000 x429001 x429002 x429003) else (some false))) else (none)) else (none)) else (none)) else (tree_Same.l0 k x1 x14 x15 (wrap64 (x16 + 1)))
def tree_Same.f : Nat → List (S38) → List (S38) → Option (Bool)
 | 0, _, _ => none
 | k + 1, l0, l1 => if (l0.length : Int) = (l1.length : Int) then (tree_Same.l0 k l1 l0 (l0.length : Int) 0) else (some false)
end
theorem tree_Same.mono_l : ∀ k, (∀ y0 y1, LeO (tree_Same.f k y0 y1) (tree_Same.f (k + 1) y0 y1)) ∧ (∀ y0 y1 y2 y3, LeO (tree_Same.l0 k y0 y1 y2 y3) (tree_Same.l0 (k + 1) y0 y1 y2 y3)) ∧ (∀ y0 y1 y2 y3 y4 y5 y6 y7 y8 y9 y10 y11 y12, LeO (tree_Same.j1 k y0 y1 y2 y3 y4 y5 y6 y7 y8 y9 y10 y11 y12) (tree_Same.j1 (k + 1) y0 y1 y2 y3 y4 y5 y6 y7 y8 y9 y10 y11 y12)) ∧ (∀ y0 y1 y2 y3 y4 y5 y6 y7 y8 y9 y10 y11 y12 y13, LeO (tree_Same.l1 k y0 y1 y2 y3 y4 y5 y6 y7 y8 y9 y10 y11 y12 y13) (tree_Same.l1 (k + 1) y0 y1 y2 y3 y4 y5 y6 y7 y8 y9 y10 y11 y12 y13))
 | 0 => ⟨fun _ _ r h => by simp [tree_Same.f] at h, fun _ _ _ _ r h => by simp [tree_Same.l0] at h, fun _ _ _ _ _ _ _ _ _ _ _ _ _ r h => by simp [tree_Same.j1] at h, fun _ _ _ _ _ _ _ _ _ _ _ _ _ _ r h => by simp [tree_Same.l1] at h⟩
 | k + 1 => by
  obtain ⟨ih0, ih1, ih2, ih3⟩ := tree_Same.mono_l k
  refine ⟨?_, ?_, ?_, ?_⟩
  ·intro y0 y1
   unfold tree_Same.f
   repeat' first
   | (with_reducible exact ih0 _ _)
   | (with_reducible exact ih1 _ _ _ _)
   | (with_reducible exact ih2 _ _ _ _ _ _ _ _ _ _ _ _ _)
   | (with_reducible exact ih3 _ _ _ _ _ _ _ _ _ _ _ _ _ _)
   | (with_reducible exact LeO.refl _)
   | (with_reducible exact LeO.none _)
   | (with_reducible refine LeO.ite ?_ ?_)
   | (with_reducible refine LeO.bind ?_ (fun _ => ?_))
   | exact ih0 _ _
   | exact ih1 _ _ _ _
   | exact ih2 _ _ _ _ _ _ _ _ _ _ _ _ _
   | exact ih3 _ _ _ _ _ _ _ _ _ _ _ _ _ _
   | exact LeO.none _
   | refine LeO.ite ?_ ?_
   | refine LeO.bind ?_ (fun _ => ?_)
  ·intro y0 y1 y2 y3
   unfold tree_Same.l0
   repeat' first
   | (with_reducible exact ih0 _ _)
   | (with_reducible exact ih1 _ _ _ _)
   | (with_reducible exact ih2 _ _ _ _ _ _ _ _ _ _ _ _ _)
   | (with_reducible exact ih3 _ _ _ _ _ _ _ _ _ _ _ _ _ _)
   | (with_reducible exact LeO.refl _)
   | (with_reducible exact LeO.none _)
   | (with_reducible refine LeO.ite ?_ ?_)
   | (with_reducible refine LeO.bind ?_ (fun _ => ?_))
   | exact ih0 _ _
   | exact ih1 _ _ _ _
   | exact ih2 _ _ _ _ _ _ _ _ _ _ _ _ _
   | exact ih3 _ _ _ _ _ _ _ _ _ _ _ _ _ _
   | exact LeO.none _
   | refine LeO.ite ?_ ?_
   | refine LeO.bind ?_ (fun _ => ?_)
  ·intro y0 y1 y2 y3 y4 y5 y6 y7 y8 y9 y10 y11 y12
   unfold tree_Same.j1
   repeat' first
   | (with_reducible exact ih0 _ _)
   | (with_reducible exact ih1 _ _ _ _)
   | (with_reducible exact ih2 _ _ _ _ _ _ _ _ _ _ _ _ _)
   | (with_reducible exact ih3 _ _ _ _ _ _ _ _ _ _ _ _ _ _)
   | (with_reducible exact LeO.refl _)
   | (with_reducible exact LeO.none _)
   | (with_reducible refine LeO.ite ?_ ?_)
   | (with_reducible refine LeO.bind ?_ (fun _ => ?_))
   | exact ih0 _ _
   | exact ih1 _ _ _ _
   | exact ih2 _ _ _ _ _ _ _ _ _ _ _ _ _
   | exact ih3 _ _ _ _ _ _ _ _ _ _ _ _ _ _
   | exact LeO.none _
   | refine LeO.ite ?_ ?_
   | refine LeO.bind ?_ (fun _ => ?_)
  ·intro y0 y1 y2 y3 y4 y5 y6 y7 y8 y9 y10 y11 y12 y13
   unfold tree_Same.l1
   repeat' first
   | (with_reducible exact ih0 _ _)
   | (with_reducible exact ih1 _ _ _ _)
   | (with_reducible exact ih2 _ _ _ _ _ _ _ _ _ _ _ _ _)
   | (with_reducible exact ih3 _ _ _ _ _ _ _ _ _ _ _ _ _ _)
   | (with_reducible exact LeO.refl _)
   | (with_reducible exact LeO.none _)
   | (with_reducible refine LeO.ite ?_ ?_)
   | (with_reducible refine LeO.bind ?_ (fun _ => ?_))
   | exact ih0 _ _
   | exact ih1 _ _ _ _
   | exact ih2 _ _ _ _ _ _ _ _ _ _ _ _ _
   | exact ih3 _ _ _ _ _ _ _ _ _ _ _ _ _ _
   | exact LeO.none _
   | refine LeO.ite ?_ ?_
   | refine LeO.bind ?_ (fun _ => ?_)
theorem tree_Same.mono : ∀ a0 a1 k, LeO (tree_Same.f k a0 a1) (tree_Same.f (k + 1) a0 a1) := by
 intro a0 a1 k
 obtain ⟨ih0, ih1, ih2, ih3⟩ := tree_Same.mono_l k
 exact ih0 a0 a1
end Go.Proofs.Ytmpglkeoppbpgaa.PTree
