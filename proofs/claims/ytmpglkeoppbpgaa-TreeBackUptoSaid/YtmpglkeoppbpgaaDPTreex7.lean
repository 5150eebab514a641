/- A part of the row's proof. -/
import Derived.Test.YtmpglkeoppbpgaaDPTreex0
import Derived.Test.YtmpglkeoppbpgaaDPTreex6
namespace Go.Proofs.Ytmpglkeoppbpgaa.PTree
open Go.RowKit Go.Proofs.YtmpglkeoppbpgaaW.PrintWords Go.Proofs.YtmpglkeoppbpgaaW.PrintLast Go.Proofs.YtmpglkeoppbpgaaW.PrintMore
attribute [local go_sem] max2_int min2_int max_two min_two max_three min_three max_four min_four
set_option linter.unusedVariables false
set_option linter.unusedSimpArgs false
mutual
def variorumref06_nodes.l0 : Nat → List (S44) → List (S38) → Int → Option ((List (S38)))
 | 0, _, _, _ => none
 | k + 1, x0, x3, x4 => if x4 < (x0.length : Int) then (if 0 ≤ x4 then (variorumref06_nodes.l1 k x0 x3 (wrap64 (x4 + 1)) (((rd_T44 x0 x4).f0) == 1) ((rd_T44 x0 x4).f1) ([] : List (List (S38))) ((rd_T44 x0 x4).f2)) else (none)) else (some x3)
def variorumref06_nodes.l1 : Nat → List (S44) → List (S38) → Int → Bool → ByteArray → List (List (S38)) → Int → Option ((List (S38)))
 | 0, _, _, _, _, _, _, _ => none
 | k + 1, x0, x3, x4, x195000, x195001, x195002, x195003 => if x195000 = true then (if x4 < (x0.length : Int) then (if 0 ≤ x4 then (variorumref06_nodes.j2 k x0 x3 x4 (((rd_T44 x0 x4).f0) == 2) x195000 x195001 x195002 x195003) else (none)) else (variorumref06_nodes.j2 k x0 x3 x4 false x195000 x195001 x195002 x195003)) else (variorumref06_nodes.j2 k x0 x3 x4 false x195000 x195001 x195002 x195003)
def variorumref06_nodes.j2 : Nat → List (S44) → List (S38) → Int → Bool → Bool → ByteArray → List (List (S38)) → Int → Option ((List (S38)))
 | 0, _, _, _, _, _, _, _, _ => none
 | k + 1, x0, x3, x4, x46, x195000, x195001, x195002, x195003 => if x46 = true then ((variorumref06_End.f k x0 x4).bind fun t196 => (if 0 ≤ (wrap64 (x4 + 1)) then (if (wrap64 (x4 + 1)) ≤ t196 then (if t196 ≤ (x0.length : Int) then ((variorumref06_nodes.f k ((x0.take (t196 : Int).toNat).drop ((wrap64 (x4 + 1)) : Int).toNat)).bind fun t201 => (if x195002.length < 5864062014805 then (variorumref06_nodes.l1 k x0 x3 (wrap64 (t196 + 1)) x195000 x195001 (x195002 ++ [t201]) x195003) else (none))) else (none)) else (none)) else (none))) else (if x3.length < 2513169434916 then (variorumref06_nodes.l0 k x0 (x3 ++ [(⟨x195000, x195001, x195002, x195003⟩ : S38)]) x4) else (none))
def variorumref06_nodes.f : Nat → List (S44) → Option ((List (S38)))
 | 0, _ => none
 | k + 1, l0 => variorumref06_nodes.l0 k l0 (([] : List (S38))) 0
end
theorem variorumref06_nodes.mono_l : ∀ k, (∀ y0, LeO (variorumref06_nodes.f k y0) (variorumref06_nodes.f (k + 1) y0)) ∧ (∀ y0 y1 y2, LeO (variorumref06_nodes.l0 k y0 y1 y2) (variorumref06_nodes.l0 (k + 1) y0 y1 y2)) ∧ (∀ y0 y1 y2 y3 y4 y5 y6, LeO (variorumref06_nodes.l1 k y0 y1 y2 y3 y4 y5 y6) (variorumref06_nodes.l1 (k + 1) y0 y1 y2 y3 y4 y5 y6)) ∧ (∀ y0 y1 y2 y3 y4 y5 y6 y7, LeO (variorumref06_nodes.j2 k y0 y1 y2 y3 y4 y5 y6 y7) (variorumref06_nodes.j2 (k + 1) y0 y1 y2 y3 y4 y5 y6 y7))
 | 0 => ⟨fun _ r h => by simp [variorumref06_nodes.f] at h, fun _ _ _ r h => by simp [variorumref06_nodes.l0] at h, fun _ _ _ _ _ _ _ r h => by simp [variorumref06_nodes.l1] at h, fun _ _ _ _ _ _ _ _ r h => by simp [variorumref06_nodes.j2] at h⟩
 | k + 1 => by
  obtain ⟨ih0, ih1, ih2, ih3⟩ := variorumref06_nodes.mono_l k
  refine ⟨?_, ?_, ?_, ?_⟩
  ·intro y0
   unfold variorumref06_nodes.f
   repeat' first
   | (with_reducible exact ih0 _)
   | (with_reducible exact ih1 _ _ _)
   | (with_reducible exact ih2 _ _ _ _ _ _ _)
   | (with_reducible exact ih3 _ _ _ _ _ _ _ _)
   | (with_reducible exact variorumref06_End.mono _ _ _)
   | (with_reducible exact LeO.refl _)
   | (with_reducible exact LeO.none _)
   | (with_reducible refine LeO.ite ?_ ?_)
   | (with_reducible refine LeO.bind ?_ (fun _ => ?_))
   | exact ih0 _
   | exact ih1 _ _ _
   | exact ih2 _ _ _ _ _ _ _
   | exact ih3 _ _ _ _ _ _ _ _
   | exact variorumref06_End.mono _ _ _
   | exact LeO.none _
   | refine LeO.ite ?_ ?_
   | refine LeO.bind ?_ (fun _ => ?_)
  ·intro y0 y1 y2
   unfold variorumref06_nodes.l0
   repeat' first
   | (with_reducible exact ih0 _)
   | (with_reducible exact ih1 _ _ _)
   | (with_reducible exact ih2 _ _ _ _ _ _ _)
   | (with_reducible exact ih3 _ _ _ _ _ _ _ _)
   | (with_reducible exact variorumref06_End.mono _ _ _)
   | (with_reducible exact LeO.refl _)
   | (with_reducible exact LeO.none _)
   | (with_reducible refine LeO.ite ?_ ?_)
   | (with_reducible refine LeO.bind ?_ (fun _ => ?_))
   | exact ih0 _
   | exact ih1 _ _ _
   | exact ih2 _ _ _ _ _ _ _
   | exact ih3 _ _ _ _ _ _ _ _
   | exact variorumref06_End.mono _ _ _
   | exact LeO.none _
   | refine LeO.ite ?_ ?_
   | refine LeO.bind ?_ (fun _ => ?_)
  ·intro y0 y1 y2 y3 y4 y5 y6
   unfold variorumref06_nodes.l1
   repeat' first
   | (with_reducible exact ih0 _)
   | (with_reducible exact ih1 _ _ _)
   | (with_reducible exact ih2 _ _ _ _ _ _ _)
   | (with_reducible exact ih3 _ _ _ _ _ _ _ _)
   | (with_reducible exact variorumref06_End.mono _ _ _)
   | (with_reducible exact LeO.refl _)
   | (with_reducible exact LeO.none _)
   | (with_reducible refine LeO.ite ?_ ?_)
   | (with_reducible refine LeO.bind ?_ (fun _ => ?_))
   | exact ih0 _
   | exact ih1 _ _ _
   | exact ih2 _ _ _ _ _ _ _
   | exact ih3 _ _ _ _ _ _ _ _
   | exact variorumref06_End.mono _ _ _
   | exact LeO.none _
   | refine LeO.ite ?_ ?_
   | refine LeO.bind ?_ (fun _ => ?_)
  ·intro y0 y1 y2 y3 y4 y5 y6 y7
   unfold variorumref06_nodes.j2
   repeat' first
   | (with_reducible exact ih0 _)
   | (with_reducible exact ih1 _ _ _)
   | (with_reducible exact ih2 _ _ _ _ _ _ _)
   | (with_reducible exact ih3 _ _ _ _ _ _ _ _)
   | (with_reducible exact variorumref06_End.mono _ _ _)
   | (with_reducible exact LeO.refl _)
   | (with_reducible exact LeO.none _)
   | (with_reducible refine LeO.ite ?_ ?_)
   | (with_reducible refine LeO.bind ?_ (fun _ => ?_))
   | exact ih0 _
   | exact ih1 _ _ _
   | exact ih2 _ _ _ _ _ _ _
   | exact ih3 _ _ _ _ _ _ _ _
   | exact variorumref06_End.mono _ _ _
   | exact LeO.none _
   | refine LeO.ite ?_ ?_
   | refine LeO.bind ?_ (fun _ => ?_)
theorem variorumref06_nodes.mono : ∀ a0 k, LeO (variorumref06_nodes.f k a0) (variorumref06_nodes.f (k + 1) a0) := by
 intro a0 k
 obtain ⟨ih0, ih1, ih2, ih3⟩ := variorumref06_nodes.mono_l k
 exact ih0 a0
end Go.Proofs.Ytmpglkeoppbpgaa.PTree
