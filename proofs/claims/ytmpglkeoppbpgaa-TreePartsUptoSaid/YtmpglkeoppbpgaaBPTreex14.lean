/- A part of the row's proof. -/
import Derived.Test.YtmpglkeoppbpgaaBPTreex0
import Derived.Test.YtmpglkeoppbpgaaBPTreex8
import Derived.Test.YtmpglkeoppbpgaaBPTreex9
import Derived.Test.YtmpglkeoppbpgaaBPTreex13
import Derived.Test.YtmpglkeoppbpgaaBOwnFlat
namespace Go.Proofs.Ytmpglkeoppbpgaa.PTree
open Go.RowKit Go.Proofs.YtmpglkeoppbpgaaW.PrintWords Go.Proofs.YtmpglkeoppbpgaaW.PrintLast Go.Proofs.YtmpglkeoppbpgaaW.PrintMore
attribute [local go_sem] max2_int min2_int max_two min_two max_three min_three max_four min_four
set_option linter.unusedVariables false
set_option linter.unusedSimpArgs false
def variorumlaw06_TreeWraps.j0 : Nat → List (S38) → List (S38) → Bool → Option (Bool)
 | 0, _, _, _ => none
 | k + 1, x0, x1, x20 => if x20 = true then ((variorumlaw06_fixed.f k).bind fun t381 => (some t381)) else ((some (([] : List (S38)) : List (S38))).bind fun y382 => (if y382.length + x0.length < 2513169434916 then ((some (y382 ++ x0 : List (S38))).bind fun y385 => (if y385.length + x1.length < 2513169434916 then ((some (y385 ++ x1 : List (S38))).bind fun y388 => ((some (([] : List ByteArray) : List ByteArray)).bind fun y391 => ((tree_Words.f k x0).bind fun t394 => (if y391.length + t394.length < 8796093022208 then ((some (y391 ++ t394 : List ByteArray)).bind fun y397 => ((tree_Words.f k x1).bind fun t400 => (if y397.length + t400.length < 8796093022208 then ((some (y397 ++ t400 : List ByteArray)).bind fun y403 => ((some (([(⟨true, (⟨#[112]⟩ : ByteArray), (([x0, x1] : List (List (S38)))), 0⟩ : S38)] : List (S38)) : List (S38))).bind fun y409 => ((tree_Depth.f k x0).bind fun t412 => ((tree_Depth.f k x1).bind fun t413 => ((tree_Words.f k y388).bind fun t414 => ((variorumref06_Texts.f k t414 y403).bind fun t417 => (if t417 = true then ((tree_Words.f k y409).bind fun t418 => ((variorumref06_Texts.f k t418 y403).bind fun t421 => (if t421 = true then ((tree_Depth.f k y409).bind fun t422 => (if t422 = (wrap64 ((mx t412 t413) + 1)) then ((tree_Depth.f k y388).bind fun t423 => (if t423 = (mx t412 t413) then ((tree_May.f k y409).bind fun t424 => (some (t424 == (decide ((mx t412 t413) < 64))))) else (some false))) else (some false))) else (some false)))) else (some false)))))))) else (none)))) else (none))))) else (none))) else (none)))
def variorumlaw06_TreeWraps.f (k : Nat) (l0 : List (S38)) (l1 : List (S38)) : Option (Bool) := (variorumlaw06_fixed.f k).bind fun t378 => (if t378 = true then ((tree_May.f k l0).bind fun t379 => (if t379 = true then ((tree_May.f k l1).bind fun t380 => (variorumlaw06_TreeWraps.j0 k l0 l1 (!t380))) else (variorumlaw06_TreeWraps.j0 k l0 l1 true))) else (variorumlaw06_TreeWraps.j0 k l0 l1 true))
theorem variorumlaw06_TreeWraps.mono_l : ∀ k, (∀ y0 y1 y2, LeO (variorumlaw06_TreeWraps.j0 k y0 y1 y2) (variorumlaw06_TreeWraps.j0 (k + 1) y0 y1 y2))
 | 0 => fun _ _ _ r h => by simp [variorumlaw06_TreeWraps.j0] at h
 | k + 1 => by
  have ih0 := variorumlaw06_TreeWraps.mono_l k
  ·intro y0 y1 y2
   unfold variorumlaw06_TreeWraps.j0
   repeat' first
   | (with_reducible exact ih0 _ _ _)
   | (with_reducible exact tree_Depth.mono _ _)
   | (with_reducible exact tree_May.mono _ _)
   | (with_reducible exact tree_Words.mono _ _)
   | (with_reducible exact variorumlaw06_fixed.mono _)
   | (with_reducible exact variorumref06_Texts.mono _ _ _)
   | (with_reducible exact LeO.refl _)
   | (with_reducible exact LeO.none _)
   | (with_reducible refine LeO.ite ?_ ?_)
   | (with_reducible refine LeO.bind ?_ (fun _ => ?_))
   | exact ih0 _ _ _
   | exact tree_Depth.mono _ _
   | exact tree_May.mono _ _
   | exact tree_Words.mono _ _
   | exact variorumlaw06_fixed.mono _
   | exact variorumref06_Texts.mono _ _ _
   | exact LeO.none _
   | refine LeO.ite ?_ ?_
   | refine LeO.bind ?_ (fun _ => ?_)
theorem variorumlaw06_TreeWraps.mono : ∀ a0 a1 k, LeO (variorumlaw06_TreeWraps.f k a0 a1) (variorumlaw06_TreeWraps.f (k + 1) a0 a1) := by
 intro a0 a1 k
 have ih0 := variorumlaw06_TreeWraps.mono_l k
 unfold variorumlaw06_TreeWraps.f
 repeat' first
   | (with_reducible exact ih0 _ _ _)
   | (with_reducible exact tree_Depth.mono _ _)
   | (with_reducible exact tree_May.mono _ _)
   | (with_reducible exact tree_Words.mono _ _)
   | (with_reducible exact variorumlaw06_fixed.mono _)
   | (with_reducible exact variorumref06_Texts.mono _ _ _)
   | (with_reducible exact LeO.refl _)
   | (with_reducible exact LeO.none _)
   | (with_reducible refine LeO.ite ?_ ?_)
   | (with_reducible refine LeO.bind ?_ (fun _ => ?_))
   | exact ih0 _ _ _
   | exact tree_Depth.mono _ _
   | exact tree_May.mono _ _
   | exact tree_Words.mono _ _
   | exact variorumlaw06_fixed.mono _
   | exact variorumref06_Texts.mono _ _ _
   | exact LeO.none _
   | refine LeO.ite ?_ ?_
   | refine LeO.bind ?_ (fun _ => ?_)
end Go.Proofs.Ytmpglkeoppbpgaa.PTree
