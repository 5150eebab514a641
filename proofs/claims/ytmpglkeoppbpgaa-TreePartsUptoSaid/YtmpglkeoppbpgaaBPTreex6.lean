/- A part of the row's proof. -/
import Derived.Test.YtmpglkeoppbpgaaBPTreex0
namespace Go.Proofs.Ytmpglkeoppbpgaa.PTree
open Go.RowKit Go.Proofs.YtmpglkeoppbpgaaW.PrintWords Go.Proofs.YtmpglkeoppbpgaaW.PrintLast Go.Proofs.YtmpglkeoppbpgaaW.PrintMore
attribute [local go_sem] max2_int min2_int max_two min_two max_three min_three max_four min_four
set_option linter.unusedVariables false
set_option linter.unusedSimpArgs false
def variorumref06_Real.l0 : Nat → List (S44) → List (S44) → Int → Option ((List (S44)))
 | 0, _, _, _ => none
 | k + 1, x0, x3, x4 => if x4 < (x0.length : Int) then (if 0 ≤ x4 then (if ((rd_T44 x0 x4).f0) ≥ 0 then (if ((rd_T44 x0 x4).f0) ≤ 3 then (if x3.length < 4398046511104 then (variorumref06_Real.l0 k x0 (x3 ++ [(⟨(rd_T44 x0 x4).f0, (rd_T44 x0 x4).f1, (rd_T44 x0 x4).f2⟩ : S44)]) (wrap64 (x4 + 1))) else (none)) else (variorumref06_Real.l0 k x0 x3 (wrap64 (x4 + 1)))) else (variorumref06_Real.l0 k x0 x3 (wrap64 (x4 + 1)))) else (none)) else (some x3)
def variorumref06_Real.f (k : Nat) (l0 : List (S44)) : Option ((List (S44))) := variorumref06_Real.l0 k l0 (([] : List (S44))) 0
theorem variorumref06_Real.mono_l : ∀ k, (∀ y0 y1 y2, LeO (variorumref06_Real.l0 k y0 y1 y2) (variorumref06_Real.l0 (k + 1) y0 y1 y2))
 | 0 => fun _ _ _ r h => by simp [variorumref06_Real.l0] at h
 | k + 1 => by
  have ih0 := variorumref06_Real.mono_l k
  ·intro y0 y1 y2
   unfold variorumref06_Real.l0
   repeat' first
   | (with_reducible exact ih0 _ _ _)
   | (with_reducible exact LeO.refl _)
   | (with_reducible exact LeO.none _)
   | (with_reducible refine LeO.ite ?_ ?_)
   | (with_reducible refine LeO.bind ?_ (fun _ => ?_))
   | exact ih0 _ _ _
   | exact LeO.none _
   | refine LeO.ite ?_ ?_
   | refine LeO.bind ?_ (fun _ => ?_)
theorem variorumref06_Real.mono : ∀ a0 k, LeO (variorumref06_Real.f k a0) (variorumref06_Real.f (k + 1) a0) := by
 intro a0 k
 have ih0 := variorumref06_Real.mono_l k
 unfold variorumref06_Real.f
 repeat' first
   | (with_reducible exact ih0 _ _ _)
   | (with_reducible exact LeO.refl _)
   | (with_reducible exact LeO.none _)
   | (with_reducible refine LeO.ite ?_ ?_)
   | (with_reducible refine LeO.bind ?_ (fun _ => ?_))
   | exact ih0 _ _ _
   | exact LeO.none _
   | refine LeO.ite ?_ ?_
   | refine LeO.bind ?_ (fun _ => ?_)
def variorumref06_Fault.l0 : Nat → List (S44) → List Int → Bool → Int → Option (Int × Int)
 | 0, _, _, _, _ => none
 | k + 1, x0, x3, x4, x5 => if x5 < (x0.length : Int) then (if 0 ≤ x5 then (if ((rd_T44 x0 x5).f0) = 2 then (if x4 = true then (if (x3.length : Int) = 64 then (some (63, (rd_T44 x0 x5).f2)) else (if x3.length < 17592186044416 then ((some (x3 ++ [(rd_T44 x0 x5).f2] : List Int)).bind fun y180 => (if ((rd_T44 x0 x5).f0) = 1 then (variorumref06_Fault.l0 k x0 y180 true (wrap64 (x5 + 1))) else (variorumref06_Fault.l0 k x0 y180 (((rd_T44 x0 x5).f0) == 3) (wrap64 (x5 + 1))))) else (none))) else (some (60, (rd_T44 x0 x5).f2))) else (if ((rd_T44 x0 x5).f0) = 3 then (if (x3.length : Int) = 0 then (some (61, (rd_T44 x0 x5).f2)) else (if 0 ≤ (wrap64 ((x3.length : Int) - 1)) then (if (wrap64 ((x3.length : Int) - 1)) ≤ (x3.length : Int) then ((some (x3.take ((wrap64 ((x3.length : Int) - 1)) : Int).toNat : List Int)).bind fun y183 => (if ((rd_T44 x0 x5).f0) = 1 then (variorumref06_Fault.l0 k x0 y183 true (wrap64 (x5 + 1))) else (variorumref06_Fault.l0 k x0 y183 (((rd_T44 x0 x5).f0) == 3) (wrap64 (x5 + 1))))) else (none)) else (none))) else (if ((rd_T44 x0 x5).f0) = 1 then (variorumref06_Fault.l0 k x0 x3 true (wrap64 (x5 + 1))) else (variorumref06_Fault.l0 k x0 x3 (((rd_T44 x0 x5).f0) == 3) (wrap64 (x5 + 1)))))) else (none)) else (if (x3.length : Int) > 0 then (if 0 ≤ (wrap64 ((x3.length : Int) - 1)) then (if (wrap64 ((x3.length : Int) - 1)) < (x3.length : Int) then (some (62, rd x3 (wrap64 ((x3.length : Int) - 1)))) else (none)) else (none)) else (some (0, 0)))
def variorumref06_Fault.f (k : Nat) (l0 : List (S44)) : Option (Int × Int) := variorumref06_Fault.l0 k l0 (([] : List Int)) false 0
theorem variorumref06_Fault.mono_l : ∀ k, (∀ y0 y1 y2 y3, LeO (variorumref06_Fault.l0 k y0 y1 y2 y3) (variorumref06_Fault.l0 (k + 1) y0 y1 y2 y3))
 | 0 => fun _ _ _ _ r h => by simp [variorumref06_Fault.l0] at h
 | k + 1 => by
  have ih0 := variorumref06_Fault.mono_l k
  ·intro y0 y1 y2 y3
   unfold variorumref06_Fault.l0
   repeat' first
   | (with_reducible exact ih0 _ _ _ _)
   | (with_reducible exact LeO.refl _)
   | (with_reducible exact LeO.none _)
   | (with_reducible refine LeO.ite ?_ ?_)
   | (with_reducible refine LeO.bind ?_ (fun _ => ?_))
   | exact ih0 _ _ _ _
   | exact LeO.none _
   | refine LeO.ite ?_ ?_
   | refine LeO.bind ?_ (fun _ => ?_)
theorem variorumref06_Fault.mono : ∀ a0 k, LeO (variorumref06_Fault.f k a0) (variorumref06_Fault.f (k + 1) a0) := by
 intro a0 k
 have ih0 := variorumref06_Fault.mono_l k
 unfold variorumref06_Fault.f
 repeat' first
   | (with_reducible exact ih0 _ _ _ _)
   | (with_reducible exact LeO.refl _)
   | (with_reducible exact LeO.none _)
   | (with_reducible refine LeO.ite ?_ ?_)
   | (with_reducible refine LeO.bind ?_ (fun _ => ?_))
   | exact ih0 _ _ _ _
   | exact LeO.none _
   | refine LeO.ite ?_ ?_
   | refine LeO.bind ?_ (fun _ => ?_)
mutual
def variorumref06_End.l0 : Nat → List (S44) → Int → Int → Option (Int)
 | 0, _, _, _ => none
 | k + 1, x0, x5, x6 => if x6 < (x0.length : Int) then (if 0 ≤ x6 then (if ((rd_T44 x0 x6).f0) = 2 then (variorumref06_End.j1 k x0 (wrap64 (x5 + 1)) x6) else (variorumref06_End.j1 k x0 x5 x6)) else (none)) else (some (-1))
def variorumref06_End.j1 : Nat → List (S44) → Int → Int → Option (Int)
 | 0, _, _, _ => none
 | k + 1, x0, x5, x6 => if 0 ≤ x6 then (if x6 < (x0.length : Int) then (if ((rd_T44 x0 x6).f0) = 3 then (if (wrap64 (x5 - 1)) = 0 then (some x6) else (variorumref06_End.l0 k x0 (wrap64 (x5 - 1)) (wrap64 (x6 + 1)))) else (if x5 = 0 then (some x6) else (variorumref06_End.l0 k x0 x5 (wrap64 (x6 + 1))))) else (none)) else (none)
end
def variorumref06_End.f (k : Nat) (l0 : List (S44)) (a1 : Int) : Option (Int) := variorumref06_End.l0 k l0 0 a1
theorem variorumref06_End.mono_l : ∀ k, (∀ y0 y1 y2, LeO (variorumref06_End.l0 k y0 y1 y2) (variorumref06_End.l0 (k + 1) y0 y1 y2)) ∧ (∀ y0 y1 y2, LeO (variorumref06_End.j1 k y0 y1 y2) (variorumref06_End.j1 (k + 1) y0 y1 y2))
 | 0 => ⟨fun _ _ _ r h => by simp [variorumref06_End.l0] at h, fun _ _ _ r h => by simp [variorumref06_End.j1] at h⟩
 | k + 1 => by
  obtain ⟨ih0, ih1⟩ := variorumref06_End.mono_l k
  refine ⟨?_, ?_⟩
  ·intro y0 y1 y2
   unfold variorumref06_End.l0
   repeat' first
   | (with_reducible exact ih0 _ _ _)
   | (with_reducible exact ih1 _ _ _)
   | (with_reducible exact LeO.refl _)
   | (with_reducible exact LeO.none _)
   | (with_reducible refine LeO.ite ?_ ?_)
   | (with_reducible refine LeO.bind ?_ (fun _ => ?_))
   | exact ih0 _ _ _
   | exact ih1 _ _ _
   | exact LeO.none _
   | refine LeO.ite ?_ ?_
   | refine LeO.bind ?_ (fun _ => ?_)
  ·intro y0 y1 y2
   unfold variorumref06_End.j1
   repeat' first
   | (with_reducible exact ih0 _ _ _)
   | (with_reducible exact ih1 _ _ _)
   | (with_reducible exact LeO.refl _)
   | (with_reducible exact LeO.none _)
   | (with_reducible refine LeO.ite ?_ ?_)
   | (with_reducible refine LeO.bind ?_ (fun _ => ?_))
   | exact ih0 _ _ _
   | exact ih1 _ _ _
   | exact LeO.none _
   | refine LeO.ite ?_ ?_
   | refine LeO.bind ?_ (fun _ => ?_)
theorem variorumref06_End.mono : ∀ a0 a1 k, LeO (variorumref06_End.f k a0 a1) (variorumref06_End.f (k + 1) a0 a1) := by
 intro a0 a1 k
 obtain ⟨ih0, ih1⟩ := variorumref06_End.mono_l k
 unfold variorumref06_End.f
 repeat' first
   | (with_reducible exact ih0 _ _ _)
   | (with_reducible exact ih1 _ _ _)
   | (with_reducible exact LeO.refl _)
   | (with_reducible exact LeO.none _)
   | (with_reducible refine LeO.ite ?_ ?_)
   | (with_reducible refine LeO.bind ?_ (fun _ => ?_))
   | exact ih0 _ _ _
   | exact ih1 _ _ _
   | exact LeO.none _
   | refine LeO.ite ?_ ?_
   | refine LeO.bind ?_ (fun _ => ?_)
end Go.Proofs.Ytmpglkeoppbpgaa.PTree
