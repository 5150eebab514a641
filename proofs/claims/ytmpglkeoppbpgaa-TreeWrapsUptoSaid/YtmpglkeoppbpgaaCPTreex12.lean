/- A part of the row's proof. -/
import Derived.Test.YtmpglkeoppbpgaaCPTreex0
import Derived.Test.YtmpglkeoppbpgaaCPTreex1
import Derived.Test.YtmpglkeoppbpgaaCPTreex8
import Derived.Test.YtmpglkeoppbpgaaCPTreex9
import Derived.Test.YtmpglkeoppbpgaaCPTreex11
import Derived.Test.YtmpglkeoppbpgaaCOwnParse
namespace Go.Proofs.Ytmpglkeoppbpgaa.PTree
open Go.RowKit Go.Proofs.YtmpglkeoppbpgaaW.PrintWords Go.Proofs.YtmpglkeoppbpgaaW.PrintLast Go.Proofs.YtmpglkeoppbpgaaW.PrintMore
attribute [local go_sem] max2_int min2_int max_two min_two max_three min_three max_four min_four
set_option linter.unusedVariables false
set_option linter.unusedSimpArgs false
attribute [local go_sem high] eqA26
def variorumlaw06_TreeParses.f (k : Nat) (l0 : List (S44)) : Option (Bool) := (tree_Parse.f k l0).bind fun bt319 => ((variorumref06_Parse.f k l0).bind fun bt325 => ((variorumlaw06_fixed.f k).bind fun t331 => (if t331 = true then ((variorumref06_Places.f k bt319.1 bt325.1).bind fun t332 => (if t332 = true then (some (bt319.2.1 == bt325.2.1 && (bt319.2.2 == bt325.2.2))) else (some false))) else (some false))))
theorem variorumlaw06_TreeParses.mono : ∀ a0 k, LeO (variorumlaw06_TreeParses.f k a0) (variorumlaw06_TreeParses.f (k + 1) a0) := by
 intro a0 k
 unfold variorumlaw06_TreeParses.f
 repeat' first
   | (with_reducible exact tree_Parse.mono _ _)
   | (with_reducible exact variorumlaw06_fixed.mono _)
   | (with_reducible exact variorumref06_Parse.mono _ _)
   | (with_reducible exact variorumref06_Places.mono _ _ _)
   | (with_reducible exact LeO.refl _)
   | (with_reducible exact LeO.none _)
   | (with_reducible refine LeO.ite ?_ ?_)
   | (with_reducible refine LeO.bind ?_ (fun _ => ?_))
   | exact tree_Parse.mono _ _
   | exact variorumlaw06_fixed.mono _
   | exact variorumref06_Parse.mono _ _
   | exact variorumref06_Places.mono _ _ _
   | exact LeO.none _
   | refine LeO.ite ?_ ?_
   | refine LeO.bind ?_ (fun _ => ?_)
def variorumlaw06_TreeParts.j0 : Nat → List (S44) → List (S44) → List (S38) → List (S38) → Bool → Option (Bool)
 | 0, _, _, _, _, _ => none
 | k + 1, x0, x1, x5, x7, x32 => if x32 = true then ((variorumlaw06_fixed.f k).bind fun t346 => (some t346)) else ((some (([] : List (S44)) : List (S44))).bind fun y347 => (if y347.length + x0.length < 4398046511104 then ((some (y347 ++ x0 : List (S44))).bind fun y350 => (if y350.length + x1.length < 4398046511104 then ((tree_Parse.f k (y350 ++ x1)).bind fun bt356 => (if bt356.2.1 = 0 then ((some (([] : List (S38)) : List (S38))).bind fun y362 => (if y362.length + x5.length < 2513169434916 then ((some (y362 ++ x5 : List (S38))).bind fun y365 => (if y365.length + x7.length < 2513169434916 then ((variorumref06_Places.f k bt356.1 (y365 ++ x7)).bind fun t371 => (some t371)) else (none))) else (none))) else (some false))) else (none))) else (none)))
def variorumlaw06_TreeParts.f (k : Nat) (l0 : List (S44)) (l1 : List (S44)) : Option (Bool) := (tree_Parse.f k l0).bind fun bt333 => ((tree_Parse.f k l1).bind fun bt339 => ((variorumlaw06_fixed.f k).bind fun t345 => (if t345 = true then (if bt333.2.1 = 0 then (variorumlaw06_TreeParts.j0 k l0 l1 bt333.1 bt339.1 (bt339.2.1 != 0)) else (variorumlaw06_TreeParts.j0 k l0 l1 bt333.1 bt339.1 true)) else (variorumlaw06_TreeParts.j0 k l0 l1 bt333.1 bt339.1 true))))
theorem variorumlaw06_TreeParts.mono_l : ∀ k, (∀ y0 y1 y2 y3 y4, LeO (variorumlaw06_TreeParts.j0 k y0 y1 y2 y3 y4) (variorumlaw06_TreeParts.j0 (k + 1) y0 y1 y2 y3 y4))
 | 0 => fun _ _ _ _ _ r h => by simp [variorumlaw06_TreeParts.j0] at h
 | k + 1 => by
  have ih0 := variorumlaw06_TreeParts.mono_l k
  ·intro y0 y1 y2 y3 y4
   unfold variorumlaw06_TreeParts.j0
   repeat' first
   | (with_reducible exact ih0 _ _ _ _ _)
   | (with_reducible exact tree_Parse.mono _ _)
   | (with_reducible exact variorumlaw06_fixed.mono _)
   | (with_reducible exact variorumref06_Places.mono _ _ _)
   | (with_reducible exact LeO.refl _)
   | (with_reducible exact LeO.none _)
   | (with_reducible refine LeO.ite ?_ ?_)
   | (with_reducible refine LeO.bind ?_ (fun _ => ?_))
   | exact ih0 _ _ _ _ _
   | exact tree_Parse.mono _ _
   | exact variorumlaw06_fixed.mono _
   | exact variorumref06_Places.mono _ _ _
   | exact LeO.none _
   | refine LeO.ite ?_ ?_
   | refine LeO.bind ?_ (fun _ => ?_)
theorem variorumlaw06_TreeParts.mono : ∀ a0 a1 k, LeO (variorumlaw06_TreeParts.f k a0 a1) (variorumlaw06_TreeParts.f (k + 1) a0 a1) := by
 intro a0 a1 k
 have ih0 := variorumlaw06_TreeParts.mono_l k
 unfold variorumlaw06_TreeParts.f
 repeat' first
   | (with_reducible exact ih0 _ _ _ _ _)
   | (with_reducible exact tree_Parse.mono _ _)
   | (with_reducible exact variorumlaw06_fixed.mono _)
   | (with_reducible exact variorumref06_Places.mono _ _ _)
   | (with_reducible exact LeO.refl _)
   | (with_reducible exact LeO.none _)
   | (with_reducible refine LeO.ite ?_ ?_)
   | (with_reducible refine LeO.bind ?_ (fun _ => ?_))
   | exact ih0 _ _ _ _ _
   | exact tree_Parse.mono _ _
   | exact variorumlaw06_fixed.mono _
   | exact variorumref06_Places.mono _ _ _
   | exact LeO.none _
   | refine LeO.ite ?_ ?_
   | refine LeO.bind ?_ (fun _ => ?_)
end Go.Proofs.Ytmpglkeoppbpgaa.PTree
