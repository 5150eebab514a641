/- A part of the row's proof. -/
import Derived.Test.YtmpglkeoppbpgaaCPTreex0
import Derived.Test.YtmpglkeoppbpgaaCPTreex6
import Derived.Test.YtmpglkeoppbpgaaCPTreex9
import Derived.Test.YtmpglkeoppbpgaaCPTreex13
import Derived.Test.YtmpglkeoppbpgaaCPTreex15
import Derived.Test.YtmpglkeoppbpgaaCPTreex16
import Derived.Test.YtmpglkeoppbpgaaCOwnFlat
import Derived.Test.YtmpglkeoppbpgaaCOwnParse
namespace Go.Proofs.Ytmpglkeoppbpgaa.PTree
open Go.RowKit Go.Proofs.YtmpglkeoppbpgaaW.PrintWords Go.Proofs.YtmpglkeoppbpgaaW.PrintLast Go.Proofs.YtmpglkeoppbpgaaW.PrintMore
attribute [local go_sem] max2_int min2_int max_two min_two max_three min_three max_four min_four
set_option linter.unusedVariables false
set_option linter.unusedSimpArgs false
mutual
def variorumlaw06_TreeBack.j0 : Nat → List (S44) → Bool → Option (Bool)
 | 0, _, _ => none
 | k + 1, x1, x33 => if x33 = true then (some false) else ((tree_Parse.f k x1).bind fun bt454 => (if bt454.2.1 = 0 then ((variorumref06_Real.f k x1).bind fun t460 => (variorumlaw06_TreeBack.l0 k bt454.1 t460 0)) else (some ((bt454.1.length : Int) == 0))))
def variorumlaw06_TreeBack.l0 : Nat → List (S38) → List (S44) → Int → Option (Bool)
 | 0, _, _, _ => none
 | k + 1, x7, x9, x10 => if x10 < (x9.length : Int) then (if 0 ≤ x10 then (if ((rd_T44 x9 x10).f0) > 1 then (variorumlaw06_TreeBack.l0 k x7 (x9.set (x10 : Int).toNat (⟨(rd_T44 x9 x10).f0, (⟨#[]⟩ : ByteArray), (rd_T44 x9 x10).f2⟩ : S44)) (wrap64 (x10 + 1))) else (variorumlaw06_TreeBack.l0 k x7 x9 (wrap64 (x10 + 1)))) else (none)) else ((tree_May.f k x7).bind fun t465 => (if t465 = true then ((tree_Flat.f k x7).bind fun t466 => ((variorumref05_Plain.f k t466).bind fun t469 => ((variorumref05_Plain.f k x9).bind fun t472 => ((variorumref05_Same.f k t469 t472).bind fun t475 => (some t475))))) else (some false)))
end
def variorumlaw06_TreeBack.f (k : Nat) (l0 : List (S38)) (l1 : List (S44)) : Option (Bool) := (tree_Flat.f k l0).bind fun t442 => ((tree_Parse.f k t442).bind fun bt445 => ((variorumlaw06_fixed.f k).bind fun t451 => (if t451 = true then ((tree_May.f k l0).bind fun t452 => (if t452 = true then (if bt445.2.1 = 0 then ((tree_Same.f k bt445.1 l0).bind fun t453 => (variorumlaw06_TreeBack.j0 k l1 (!t453))) else (variorumlaw06_TreeBack.j0 k l1 true)) else (variorumlaw06_TreeBack.j0 k l1 false))) else (variorumlaw06_TreeBack.j0 k l1 true))))
theorem variorumlaw06_TreeBack.mono_l : ∀ k, (∀ y0 y1, LeO (variorumlaw06_TreeBack.j0 k y0 y1) (variorumlaw06_TreeBack.j0 (k + 1) y0 y1)) ∧ (∀ y0 y1 y2, LeO (variorumlaw06_TreeBack.l0 k y0 y1 y2) (variorumlaw06_TreeBack.l0 (k + 1) y0 y1 y2))
 | 0 => ⟨fun _ _ r h => by simp [variorumlaw06_TreeBack.j0] at h, fun _ _ _ r h => by simp [variorumlaw06_TreeBack.l0] at h⟩
 | k + 1 => by
  obtain ⟨ih0, ih1⟩ := variorumlaw06_TreeBack.mono_l k
  refine ⟨?_, ?_⟩
  ·intro y0 y1
   unfold variorumlaw06_TreeBack.j0
   repeat' first
   | (with_reducible exact ih0 _ _)
   | (with_reducible exact ih1 _ _ _)
   | (with_reducible exact tree_Flat.mono _ _)
   | (with_reducible exact tree_May.mono _ _)
   | (with_reducible exact tree_Parse.mono _ _)
   | (with_reducible exact tree_Same.mono _ _ _)
   | (with_reducible exact variorumlaw06_fixed.mono _)
   | (with_reducible exact variorumref05_Plain.mono _ _)
   | (with_reducible exact variorumref05_Same.mono _ _ _)
   | (with_reducible exact variorumref06_Real.mono _ _)
   | (with_reducible exact LeO.refl _)
   | (with_reducible exact LeO.none _)
   | (with_reducible refine LeO.ite ?_ ?_)
   | (with_reducible refine LeO.bind ?_ (fun _ => ?_))
   | exact ih0 _ _
   | exact ih1 _ _ _
   | exact tree_Flat.mono _ _
   | exact tree_May.mono _ _
   | exact tree_Parse.mono _ _
   | exact tree_Same.mono _ _ _
   | exact variorumlaw06_fixed.mono _
   | exact variorumref05_Plain.mono _ _
   | exact variorumref05_Same.mono _ _ _
   | exact variorumref06_Real.mono _ _
   | exact LeO.none _
   | refine LeO.ite ?_ ?_
   | refine LeO.bind ?_ (fun _ => ?_)
  ·intro y0 y1 y2
   unfold variorumlaw06_TreeBack.l0
   repeat' first
   | (with_reducible exact ih0 _ _)
   | (with_reducible exact ih1 _ _ _)
   | (with_reducible exact tree_Flat.mono _ _)
   | (with_reducible exact tree_May.mono _ _)
   | (with_reducible exact tree_Parse.mono _ _)
   | (with_reducible exact tree_Same.mono _ _ _)
   | (with_reducible exact variorumlaw06_fixed.mono _)
   | (with_reducible exact variorumref05_Plain.mono _ _)
   | (with_reducible exact variorumref05_Same.mono _ _ _)
   | (with_reducible exact variorumref06_Real.mono _ _)
   | (with_reducible exact LeO.refl _)
   | (with_reducible exact LeO.none _)
   | (with_reducible refine LeO.ite ?_ ?_)
   | (with_reducible refine LeO.bind ?_ (fun _ => ?_))
   | exact ih0 _ _
   | exact ih1 _ _ _
   | exact tree_Flat.mono _ _
   | exact tree_May.mono _ _
   | exact tree_Parse.mono _ _
   | exact tree_Same.mono _ _ _
   | exact variorumlaw06_fixed.mono _
   | exact variorumref05_Plain.mono _ _
   | exact variorumref05_Same.mono _ _ _
   | exact variorumref06_Real.mono _ _
   | exact LeO.none _
   | refine LeO.ite ?_ ?_
   | refine LeO.bind ?_ (fun _ => ?_)
theorem variorumlaw06_TreeBack.mono : ∀ a0 a1 k, LeO (variorumlaw06_TreeBack.f k a0 a1) (variorumlaw06_TreeBack.f (k + 1) a0 a1) := by
 intro a0 a1 k
 obtain ⟨ih0, ih1⟩ := variorumlaw06_TreeBack.mono_l k
 unfold variorumlaw06_TreeBack.f
 repeat' first
   | (with_reducible exact ih0 _ _)
   | (with_reducible exact ih1 _ _ _)
   | (with_reducible exact tree_Flat.mono _ _)
   | (with_reducible exact tree_May.mono _ _)
   | (with_reducible exact tree_Parse.mono _ _)
   | (with_reducible exact tree_Same.mono _ _ _)
   | (with_reducible exact variorumlaw06_fixed.mono _)
   | (with_reducible exact variorumref05_Plain.mono _ _)
   | (with_reducible exact variorumref05_Same.mono _ _ _)
   | (with_reducible exact variorumref06_Real.mono _ _)
   | (with_reducible exact LeO.refl _)
   | (with_reducible exact LeO.none _)
   | (with_reducible refine LeO.ite ?_ ?_)
   | (with_reducible refine LeO.bind ?_ (fun _ => ?_))
   | exact ih0 _ _
   | exact ih1 _ _ _
   | exact tree_Flat.mono _ _
   | exact tree_May.mono _ _
   | exact tree_Parse.mono _ _
   | exact tree_Same.mono _ _ _
   | exact variorumlaw06_fixed.mono _
   | exact variorumref05_Plain.mono _ _
   | exact variorumref05_Same.mono _ _ _
   | exact variorumref06_Real.mono _ _
   | exact LeO.none _
   | refine LeO.ite ?_ ?_
   | refine LeO.bind ?_ (fun _ => ?_)
end Go.Proofs.Ytmpglkeoppbpgaa.PTree
