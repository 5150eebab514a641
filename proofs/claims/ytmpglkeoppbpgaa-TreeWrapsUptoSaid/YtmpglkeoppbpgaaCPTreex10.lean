/- A part of the row's proof. -/
import Derived.Test.YtmpglkeoppbpgaaCPTreex0
namespace Go.Proofs.Ytmpglkeoppbpgaa.PTree
open Go.RowKit Go.Proofs.YtmpglkeoppbpgaaW.PrintWords Go.Proofs.YtmpglkeoppbpgaaW.PrintLast Go.Proofs.YtmpglkeoppbpgaaW.PrintMore
attribute [local go_sem] max2_int min2_int max_two min_two max_three min_three max_four min_four
set_option linter.unusedVariables false
set_option linter.unusedSimpArgs false
mutual
def variorumref06_Same.l0 : Nat → List (S38) → List (S38) → Int → Option (Bool)
 | 0, _, _, _ => none
 | k + 1, x0, x1, x5 => if x5 < (x0.length : Int) then (if 0 ≤ x5 then (if x5 < (x1.length : Int) then (if (((rd_T38 x0 x5).f0) != ((rd_T38 x1 x5).f0)) = true then (variorumref06_Same.j1 k x0 x1 x5 true) else (if ((rd_T38 x0 x5).f1).toList = ((rd_T38 x1 x5).f1).toList then (variorumref06_Same.j1 k x0 x1 x5 ((((rd_T38 x0 x5).f2).length : Int) != (((rd_T38 x1 x5).f2).length : Int))) else (variorumref06_Same.j1 k x0 x1 x5 true))) else (none)) else (none)) else (some true)
def variorumref06_Same.j1 : Nat → List (S38) → List (S38) → Int → Bool → Option (Bool)
 | 0, _, _, _, _ => none
 | k + 1, x0, x1, x5, x56 => if x56 = true then (some false) else (variorumref06_Same.l1 k x0 x1 x5 0)
def variorumref06_Same.l1 : Nat → List (S38) → List (S38) → Int → Int → Option (Bool)
 | 0, _, _, _, _ => none
 | k + 1, x0, x1, x5, x6 => if 0 ≤ x5 then (if x5 < (x0.length : Int) then (if x6 < (((rd_T38 x0 x5).f2).length : Int) then (if 0 ≤ x6 then (if x5 < (x1.length : Int) then (if x6 < (((rd_T38 x1 x5).f2).length : Int) then ((variorumref06_Same.f k (rd_L5 ((rd_T38 x0 x5).f2) x6) (rd_L5 ((rd_T38 x1 x5).f2) x6)).bind fun t309 => (if t309 = true then (variorumref06_Same.l1 k x0 x1 x5 (wrap64 (x6 + 1))) else (some false))) else (none)) else (none)) else (none)) else (variorumref06_Same.l0 k x0 x1 (wrap64 (x5 + 1)))) else (none)) else (none)
def variorumref06_Same.f : Nat → List (S38) → List (S38) → Option (Bool)
 | 0, _, _ => none
 | k + 1, l0, l1 => if (l0.length : Int) = (l1.length : Int) then (variorumref06_Same.l0 k l0 l1 0) else (some false)
end
theorem variorumref06_Same.mono_l : ∀ k, (∀ y0 y1, LeO (variorumref06_Same.f k y0 y1) (variorumref06_Same.f (k + 1) y0 y1)) ∧ (∀ y0 y1 y2, LeO (variorumref06_Same.l0 k y0 y1 y2) (variorumref06_Same.l0 (k + 1) y0 y1 y2)) ∧ (∀ y0 y1 y2 y3, LeO (variorumref06_Same.j1 k y0 y1 y2 y3) (variorumref06_Same.j1 (k + 1) y0 y1 y2 y3)) ∧ (∀ y0 y1 y2 y3, LeO (variorumref06_Same.l1 k y0 y1 y2 y3) (variorumref06_Same.l1 (k + 1) y0 y1 y2 y3))
 | 0 => ⟨fun _ _ r h => by simp [variorumref06_Same.f] at h, fun _ _ _ r h => by simp [variorumref06_Same.l0] at h, fun _ _ _ _ r h => by simp [variorumref06_Same.j1] at h, fun _ _ _ _ r h => by simp [variorumref06_Same.l1] at h⟩
 | k + 1 => by
  obtain ⟨ih0, ih1, ih2, ih3⟩ := variorumref06_Same.mono_l k
  refine ⟨?_, ?_, ?_, ?_⟩
  ·intro y0 y1
   unfold variorumref06_Same.f
   repeat' first
   | (with_reducible exact ih0 _ _)
   | (with_reducible exact ih1 _ _ _)
   | (with_reducible exact ih2 _ _ _ _)
   | (with_reducible exact ih3 _ _ _ _)
   | (with_reducible exact LeO.refl _)
   | (with_reducible exact LeO.none _)
   | (with_reducible refine LeO.ite ?_ ?_)
   | (with_reducible refine LeO.bind ?_ (fun _ => ?_))
   | exact ih0 _ _
   | exact ih1 _ _ _
   | exact ih2 _ _ _ _
   | exact ih3 _ _ _ _
   | exact LeO.none _
   | refine LeO.ite ?_ ?_
   | refine LeO.bind ?_ (fun _ => ?_)
  ·intro y0 y1 y2
   unfold variorumref06_Same.l0
   repeat' first
   | (with_reducible exact ih0 _ _)
   | (with_reducible exact ih1 _ _ _)
   | (with_reducible exact ih2 _ _ _ _)
   | (with_reducible exact ih3 _ _ _ _)
   | (with_reducible exact LeO.refl _)
   | (with_reducible exact LeO.none _)
   | (with_reducible refine LeO.ite ?_ ?_)
   | (with_reducible refine LeO.bind ?_ (fun _ => ?_))
   | exact ih0 _ _
   | exact ih1 _ _ _
   | exact ih2 _ _ _ _
   | exact ih3 _ _ _ _
   | exact LeO.none _
   | refine LeO.ite ?_ ?_
   | refine LeO.bind ?_ (fun _ => ?_)
  ·intro y0 y1 y2 y3
   unfold variorumref06_Same.j1
   repeat' first
   | (with_reducible exact ih0 _ _)
   | (with_reducible exact ih1 _ _ _)
   | (with_reducible exact ih2 _ _ _ _)
   | (with_reducible exact ih3 _ _ _ _)
   | (with_reducible exact LeO.refl _)
   | (with_reducible exact LeO.none _)
   | (with_reducible refine LeO.ite ?_ ?_)
   | (with_reducible refine LeO.bind ?_ (fun _ => ?_))
   | exact ih0 _ _
   | exact ih1 _ _ _
   | exact ih2 _ _ _ _
   | exact ih3 _ _ _ _
   | exact LeO.none _
   | refine LeO.ite ?_ ?_
   | refine LeO.bind ?_ (fun _ => ?_)
  ·intro y0 y1 y2 y3
   unfold variorumref06_Same.l1
   repeat' first
   | (with_reducible exact ih0 _ _)
   | (with_reducible exact ih1 _ _ _)
   | (with_reducible exact ih2 _ _ _ _)
   | (with_reducible exact ih3 _ _ _ _)
   | (with_reducible exact LeO.refl _)
   | (with_reducible exact LeO.none _)
   | (with_reducible refine LeO.ite ?_ ?_)
   | (with_reducible refine LeO.bind ?_ (fun _ => ?_))
   | exact ih0 _ _
   | exact ih1 _ _ _
   | exact ih2 _ _ _ _
   | exact ih3 _ _ _ _
   | exact LeO.none _
   | refine LeO.ite ?_ ?_
   | refine LeO.bind ?_ (fun _ => ?_)
theorem variorumref06_Same.mono : ∀ a0 a1 k, LeO (variorumref06_Same.f k a0 a1) (variorumref06_Same.f (k + 1) a0 a1) := by
 intro a0 a1 k
 obtain ⟨ih0, ih1, ih2, ih3⟩ := variorumref06_Same.mono_l k
 exact ih0 a0 a1
end Go.Proofs.Ytmpglkeoppbpgaa.PTree
