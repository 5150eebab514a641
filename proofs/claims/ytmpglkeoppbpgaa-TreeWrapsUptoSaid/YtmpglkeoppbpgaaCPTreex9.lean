/- A part of the row's proof. -/
import Derived.Test.YtmpglkeoppbpgaaCPTreex0
import Derived.Test.YtmpglkeoppbpgaaCPTreex1
import Derived.Test.YtmpglkeoppbpgaaCPTreex8
import Derived.Test.YtmpglkeoppbpgaaCOwnFlat
import Derived.Test.YtmpglkeoppbpgaaCOwnParse
namespace Go.Proofs.Ytmpglkeoppbpgaa.PTree
open Go.RowKit Go.Proofs.YtmpglkeoppbpgaaW.PrintWords Go.Proofs.YtmpglkeoppbpgaaW.PrintLast Go.Proofs.YtmpglkeoppbpgaaW.PrintMore
attribute [local go_sem] max2_int min2_int max_two min_two max_three min_three max_four min_four
set_option linter.unusedVariables false
set_option linter.unusedSimpArgs false
attribute [local go_sem high] eqA26
def variorumlaw06_fixed.f (k : Nat)  : Option (Bool) := (variorumlaw06_command.f (⟨#[101, 100]⟩ : ByteArray)).bind fun bt231 => ((variorumlaw06_word.f (⟨#[97]⟩ : ByteArray)).bind fun bt234 => ((variorumlaw06_word.f (⟨#[98]⟩ : ByteArray)).bind fun bt237 => ((variorumlaw06_command.f (⟨#[65]⟩ : ByteArray)).bind fun bt240 => ((variorumlaw06_word.f (⟨#[99]⟩ : ByteArray)).bind fun bt243 => ((variorumlaw06_word.f (⟨#[100]⟩ : ByteArray)).bind fun bt246 => ((tree_Parse.f k (([(⟨bt231.1, bt231.2.1, bt231.2.2⟩ : S44), (⟨2, (⟨#[]⟩ : ByteArray), 0⟩ : S44), (⟨bt234.1, bt234.2.1, bt234.2.2⟩ : S44), (⟨bt237.1, bt237.2.1, bt237.2.2⟩ : S44), (⟨3, (⟨#[]⟩ : ByteArray), 0⟩ : S44), (⟨2, (⟨#[]⟩ : ByteArray), 0⟩ : S44), (⟨bt240.1, bt240.2.1, bt240.2.2⟩ : S44), (⟨2, (⟨#[]⟩ : ByteArray), 0⟩ : S44), (⟨bt243.1, bt243.2.1, bt243.2.2⟩ : S44), (⟨3, (⟨#[]⟩ : ByteArray), 0⟩ : S44), (⟨3, (⟨#[]⟩ : ByteArray), 0⟩ : S44), (⟨bt246.1, bt246.2.1, bt246.2.2⟩ : S44)] : List (S44)))).bind fun bt252 => ((tree_Parse.f k (([(⟨2, (⟨#[]⟩ : ByteArray), 3⟩ : S44)] : List (S44)))).bind fun bt261 => ((variorumlaw06_command.f (⟨#[112]⟩ : ByteArray)).bind fun bt267 => ((tree_Parse.f k (([(⟨bt267.1, bt267.2.1, bt267.2.2⟩ : S44), (⟨2, (⟨#[]⟩ : ByteArray), 2⟩ : S44)] : List (S44)))).bind fun bt273 => ((tree_Parse.f k (([(⟨3, (⟨#[]⟩ : ByteArray), 4⟩ : S44)] : List (S44)))).bind fun bt282 => (if bt252.2.1 = 0 then (if (bt252.1.length : Int) = 2 then (if 0 < (bt252.1.length : Int) then (if (((rd_T38 bt252.1 0).f2).length : Int) = 2 then (if 1 < (bt252.1.length : Int) then (if ((rd_T38 bt252.1 1).f1).toList = ([100] : List UInt8) then (if (bt261.2.1 == 60 && (bt261.2.2 == 3)) = true then (if (bt273.2.1 == 62 && (bt273.2.2 == 2)) = true then (if (bt282.2.1 == 61 && (bt282.2.2 == 4)) = true then ((tree_Depth.f k bt252.1).bind fun t290 => (if t290 = 2 then ((tree_Words.f k bt252.1).bind fun t291 => ((variorumref06_Texts.f k t291 (([(⟨#[97]⟩ : ByteArray), (⟨#[98]⟩ : ByteArray), (⟨#[99]⟩ : ByteArray), (⟨#[100]⟩ : ByteArray)] : List ByteArray))).bind fun t297 => (some t297))) else (none))) else (none)) else (none)) else (none)) else (none)) else (none)) else (none)) else (none)) else (none)) else (none))))))))))))
theorem variorumlaw06_fixed.mono : ∀ k, LeO (variorumlaw06_fixed.f k ) (variorumlaw06_fixed.f (k + 1) ) := by
 intro  k
 unfold variorumlaw06_fixed.f
 repeat' first
   | (with_reducible exact tree_Depth.mono _ _)
   | (with_reducible exact tree_Parse.mono _ _)
   | (with_reducible exact tree_Words.mono _ _)
   | (with_reducible exact variorumref06_Texts.mono _ _ _)
   | (with_reducible exact LeO.refl _)
   | (with_reducible exact LeO.none _)
   | (with_reducible refine LeO.ite ?_ ?_)
   | (with_reducible refine LeO.bind ?_ (fun _ => ?_))
   | exact tree_Depth.mono _ _
   | exact tree_Parse.mono _ _
   | exact tree_Words.mono _ _
   | exact variorumref06_Texts.mono _ _ _
   | exact LeO.none _
   | refine LeO.ite ?_ ?_
   | refine LeO.bind ?_ (fun _ => ?_)
def variorumlaw06_fixed.T2 : Bool × List (List Nat × List Nat) := (true, [([], []), ([], []), ([0], []), ([2], []), ([], []), ([], []), ([3], []), ([], []), ([6], []), ([], []), ([], []), ([8], []), ([0, 1, 2, 3, 4, 5, 6, 7, 8, 9, 10, 11], [0, 1, 2, 3, 4, 5, 6, 7, 8, 9, 10, 11]), ([12, 11], [12]), ([13], [13]), ([14], [14]), ([14], [14]), ([], []), ([15, 13, 0, 1, 2, 3, 4, 5, 6, 7, 8, 9, 10, 11, 12, 13, 14, 15, 17], [15]), ([17, 16, 18, 0, 1, 2, 3, 4, 5, 6, 7, 8, 9, 10, 11, 12, 13, 14, 15, 16, 17, 18], [16, 17])])
def variorumlaw06_fixed.B2 : List Nat := [0, 0, 1, 5, 0, 0, 13, 0, 77, 0, 0, 333, 4095, 8191, 16383, 32767, 32767, 0, 196607, 524287]
theorem variorumlaw06_fixed.tab2 : rtab .any (opsOf Try.f9 2) = variorumlaw06_fixed.T2 := by kernel_rfl
theorem variorumlaw06_fixed.bits2 : waitsOk variorumlaw06_fixed.T2.2 variorumlaw06_fixed.B2 = true := by kernel_rfl
set_option maxHeartbeats 8000000 in
set_option maxRecDepth 100000 in
theorem variorumlaw06_fixed.calls (k : Nat)  (r : Bool) (w : World) (h : variorumlaw06_fixed.f k  = some r) :
  Calls Try.prog 9 #[] w fun e w' => e = .returned (.bool r) ∧ Below w.heap.size w w' := by
 have hu44 := Try.underlying44
 have hu26 := Try.underlying26
 have HB := am (Below.refl w.heap.size w)
 have H : ((variorumlaw06_command.f (⟨#[101, 100]⟩ : ByteArray)).bind fun bt231 => ((variorumlaw06_word.f (⟨#[97]⟩ : ByteArray)).bind fun bt234 => ((variorumlaw06_word.f (⟨#[98]⟩ : ByteArray)).bind fun bt237 => ((variorumlaw06_command.f (⟨#[65]⟩ : ByteArray)).bind fun bt240 => ((variorumlaw06_word.f (⟨#[99]⟩ : ByteArray)).bind fun bt243 => ((variorumlaw06_word.f (⟨#[100]⟩ : ByteArray)).bind fun bt246 => ((tree_Parse.f k (([(⟨bt231.1, bt231.2.1, bt231.2.2⟩ : S44), (⟨2, (⟨#[]⟩ : ByteArray), 0⟩ : S44), (⟨bt234.1, bt234.2.1, bt234.2.2⟩ : S44), (⟨bt237.1, bt237.2.1, bt237.2.2⟩ : S44), (⟨3, (⟨#[]⟩ : ByteArray), 0⟩ : S44), (⟨2, (⟨#[]⟩ : ByteArray), 0⟩ : S44), (⟨bt240.1, bt240.2.1, bt240.2.2⟩ : S44), (⟨2, (⟨#[]⟩ : ByteArray), 0⟩ : S44), (⟨bt243.1, bt243.2.1, bt243.2.2⟩ : S44), (⟨3, (⟨#[]⟩ : ByteArray), 0⟩ : S44), (⟨3, (⟨#[]⟩ : ByteArray), 0⟩ : S44), (⟨bt246.1, bt246.2.1, bt246.2.2⟩ : S44)] : List (S44)))).bind fun bt252 => ((tree_Parse.f k (([(⟨2, (⟨#[]⟩ : ByteArray), 3⟩ : S44)] : List (S44)))).bind fun bt261 => ((variorumlaw06_command.f (⟨#[112]⟩ : ByteArray)).bind fun bt267 => ((tree_Parse.f k (([(⟨bt267.1, bt267.2.1, bt267.2.2⟩ : S44), (⟨2, (⟨#[]⟩ : ByteArray), 2⟩ : S44)] : List (S44)))).bind fun bt273 => ((tree_Parse.f k (([(⟨3, (⟨#[]⟩ : ByteArray), 4⟩ : S44)] : List (S44)))).bind fun bt282 => (if bt252.2.1 = 0 then (if (bt252.1.length : Int) = 2 then (if 0 < (bt252.1.length : Int) then (if (((rd_T38 bt252.1 0).f2).length : Int) = 2 then (if 1 < (bt252.1.length : Int) then (if ((rd_T38 bt252.1 1).f1).toList = ([100] : List UInt8) then (if (bt261.2.1 == 60 && (bt261.2.2 == 3)) = true then (if (bt273.2.1 == 62 && (bt273.2.2 == 2)) = true then (if (bt282.2.1 == 61 && (bt282.2.2 == 4)) = true then ((tree_Depth.f k bt252.1).bind fun t290 => (if t290 = 2 then ((tree_Words.f k bt252.1).bind fun t291 => ((variorumref06_Texts.f k t291 (([(⟨#[97]⟩ : ByteArray), (⟨#[98]⟩ : ByteArray), (⟨#[99]⟩ : ByteArray), (⟨#[100]⟩ : ByteArray)] : List ByteArray))).bind fun t297 => (some t297))) else (none))) else (none)) else (none)) else (none)) else (none)) else (none)) else (none)) else (none)) else (none)) else (none))))))))))))) = some r := h
 clear h
 replace H := Option.bind_eq_some_iff.mp H
 obtain ⟨⟨t231, t232, t233⟩, A10, H⟩ := H
 replace H : ((variorumlaw06_word.f (⟨#[97]⟩ : ByteArray)).bind fun bt234 => ((variorumlaw06_word.f (⟨#[98]⟩ : ByteArray)).bind fun bt237 => ((variorumlaw06_command.f (⟨#[65]⟩ : ByteArray)).bind fun bt240 => ((variorumlaw06_word.f (⟨#[99]⟩ : ByteArray)).bind fun bt243 => ((variorumlaw06_word.f (⟨#[100]⟩ : ByteArray)).bind fun bt246 => ((tree_Parse.f k (([(⟨t231, t232, t233⟩ : S44), (⟨2, (⟨#[]⟩ : ByteArray), 0⟩ : S44), (⟨bt234.1, bt234.2.1, bt234.2.2⟩ : S44), (⟨bt237.1, bt237.2.1, bt237.2.2⟩ : S44), (⟨3, (⟨#[]⟩ : ByteArray), 0⟩ : S44), (⟨2, (⟨#[]⟩ : ByteArray), 0⟩ : S44), (⟨bt240.1, bt240.2.1, bt240.2.2⟩ : S44), (⟨2, (⟨#[]⟩ : ByteArray), 0⟩ : S44), (⟨bt243.1, bt243.2.1, bt243.2.2⟩ : S44), (⟨3, (⟨#[]⟩ : ByteArray), 0⟩ : S44), (⟨3, (⟨#[]⟩ : ByteArray), 0⟩ : S44), (⟨bt246.1, bt246.2.1, bt246.2.2⟩ : S44)] : List (S44)))).bind fun bt252 => ((tree_Parse.f k (([(⟨2, (⟨#[]⟩ : ByteArray), 3⟩ : S44)] : List (S44)))).bind fun bt261 => ((variorumlaw06_command.f (⟨#[112]⟩ : ByteArray)).bind fun bt267 => ((tree_Parse.f k (([(⟨bt267.1, bt267.2.1, bt267.2.2⟩ : S44), (⟨2, (⟨#[]⟩ : ByteArray), 2⟩ : S44)] : List (S44)))).bind fun bt273 => ((tree_Parse.f k (([(⟨3, (⟨#[]⟩ : ByteArray), 4⟩ : S44)] : List (S44)))).bind fun bt282 => (if bt252.2.1 = 0 then (if (bt252.1.length : Int) = 2 then (if 0 < (bt252.1.length : Int) then (if (((rd_T38 bt252.1 0).f2).length : Int) = 2 then (if 1 < (bt252.1.length : Int) then (if ((rd_T38 bt252.1 1).f1).toList = ([100] : List UInt8) then (if (bt261.2.1 == 60 && (bt261.2.2 == 3)) = true then (if (bt273.2.1 == 62 && (bt273.2.2 == 2)) = true then (if (bt282.2.1 == 61 && (bt282.2.2 == 4)) = true then ((tree_Depth.f k bt252.1).bind fun t290 => (if t290 = 2 then ((tree_Words.f k bt252.1).bind fun t291 => ((variorumref06_Texts.f k t291 (([(⟨#[97]⟩ : ByteArray), (⟨#[98]⟩ : ByteArray), (⟨#[99]⟩ : ByteArray), (⟨#[100]⟩ : ByteArray)] : List ByteArray))).bind fun t297 => (some t297))) else (none))) else (none)) else (none)) else (none)) else (none)) else (none)) else (none)) else (none)) else (none)) else (none)))))))))))) = some r := H
 have A1 := am A10
 clear A10
 replace H := Option.bind_eq_some_iff.mp H
 obtain ⟨⟨t234, t235, t236⟩, A20, H⟩ := H
 replace H : ((variorumlaw06_word.f (⟨#[98]⟩ : ByteArray)).bind fun bt237 => ((variorumlaw06_command.f (⟨#[65]⟩ : ByteArray)).bind fun bt240 => ((variorumlaw06_word.f (⟨#[99]⟩ : ByteArray)).bind fun bt243 => ((variorumlaw06_word.f (⟨#[100]⟩ : ByteArray)).bind fun bt246 => ((tree_Parse.f k (([(⟨t231, t232, t233⟩ : S44), (⟨2, (⟨#[]⟩ : ByteArray), 0⟩ : S44), (⟨t234, t235, t236⟩ : S44), (⟨bt237.1, bt237.2.1, bt237.2.2⟩ : S44), (⟨3, (⟨#[]⟩ : ByteArray), 0⟩ : S44), (⟨2, (⟨#[]⟩ : ByteArray), 0⟩ : S44), (⟨bt240.1, bt240.2.1, bt240.2.2⟩ : S44), (⟨2, (⟨#[]⟩ : ByteArray), 0⟩ : S44), (⟨bt243.1, bt243.2.1, bt243.2.2⟩ : S44), (⟨3, (⟨#[]⟩ : ByteArray), 0⟩ : S44), (⟨3, (⟨#[]⟩ : ByteArray), 0⟩ : S44), (⟨bt246.1, bt246.2.1, bt246.2.2⟩ : S44)] : List (S44)))).bind fun bt252 => ((tree_Parse.f k (([(⟨2, (⟨#[]⟩ : ByteArray), 3⟩ : S44)] : List (S44)))).bind fun bt261 => ((variorumlaw06_command.f (⟨#[112]⟩ : ByteArray)).bind fun bt267 => ((tree_Parse.f k (([(⟨bt267.1, bt267.2.1, bt267.2.2⟩ : S44), (⟨2, (⟨#[]⟩ : ByteArray), 2⟩ : S44)] : List (S44)))).bind fun bt273 => ((tree_Parse.f k (([(⟨3, (⟨#[]⟩ : ByteArray), 4⟩ : S44)] : List (S44)))).bind fun bt282 => (if bt252.2.1 = 0 then (if (bt252.1.length : Int) = 2 then (if 0 < (bt252.1.length : Int) then (if (((rd_T38 bt252.1 0).f2).length : Int) = 2 then (if 1 < (bt252.1.length : Int) then (if ((rd_T38 bt252.1 1).f1).toList = ([100] : List UInt8) then (if (bt261.2.1 == 60 && (bt261.2.2 == 3)) = true then (if (bt273.2.1 == 62 && (bt273.2.2 == 2)) = true then (if (bt282.2.1 == 61 && (bt282.2.2 == 4)) = true then ((tree_Depth.f k bt252.1).bind fun t290 => (if t290 = 2 then ((tree_Words.f k bt252.1).bind fun t291 => ((variorumref06_Texts.f k t291 (([(⟨#[97]⟩ : ByteArray), (⟨#[98]⟩ : ByteArray), (⟨#[99]⟩ : ByteArray), (⟨#[100]⟩ : ByteArray)] : List ByteArray))).bind fun t297 => (some t297))) else (none))) else (none)) else (none)) else (none)) else (none)) else (none)) else (none)) else (none)) else (none)) else (none))))))))))) = some r := H
 have A2 := am A20
 clear A20
 replace H := Option.bind_eq_some_iff.mp H
 obtain ⟨⟨t237, t238, t239⟩, A30, H⟩ := H
 replace H : ((variorumlaw06_command.f (⟨#[65]⟩ : ByteArray)).bind fun bt240 => ((variorumlaw06_word.f (⟨#[99]⟩ : ByteArray)).bind fun bt243 => ((variorumlaw06_word.f (⟨#[100]⟩ : ByteArray)).bind fun bt246 => ((tree_Parse.f k (([(⟨t231, t232, t233⟩ : S44), (⟨2, (⟨#[]⟩ : ByteArray), 0⟩ : S44), (⟨t234, t235, t236⟩ : S44), (⟨t237, t238, t239⟩ : S44), (⟨3, (⟨#[]⟩ : ByteArray), 0⟩ : S44), (⟨2, (⟨#[]⟩ : ByteArray), 0⟩ : S44), (⟨bt240.1, bt240.2.1, bt240.2.2⟩ : S44), (⟨2, (⟨#[]⟩ : ByteArray), 0⟩ : S44), (⟨bt243.1, bt243.2.1, bt243.2.2⟩ : S44), (⟨3, (⟨#[]⟩ : ByteArray), 0⟩ : S44), (⟨3, (⟨#[]⟩ : ByteArray), 0⟩ : S44), (⟨bt246.1, bt246.2.1, bt246.2.2⟩ : S44)] : List (S44)))).bind fun bt252 => ((tree_Parse.f k (([(⟨2, (⟨#[]⟩ : ByteArray), 3⟩ : S44)] : List (S44)))).bind fun bt261 => ((variorumlaw06_command.f (⟨#[112]⟩ : ByteArray)).bind fun bt267 => ((tree_Parse.f k (([(⟨bt267.1, bt267.2.1, bt267.2.2⟩ : S44), (⟨2, (⟨#[]⟩ : ByteArray), 2⟩ : S44)] : List (S44)))).bind fun bt273 => ((tree_Parse.f k (([(⟨3, (⟨#[]⟩ : ByteArray), 4⟩ : S44)] : List (S44)))).bind fun bt282 => (if bt252.2.1 = 0 then (if (bt252.1.length : Int) = 2 then (if 0 < (bt252.1.length : Int) then (if (((rd_T38 bt252.1 0).f2).length : Int) = 2 then (if 1 < (bt252.1.length : Int) then (if ((rd_T38 bt252.1 1).f1).toList = ([100] : List UInt8) then (if (bt261.2.1 == 60 && (bt261.2.2 == 3)) = true then (if (bt273.2.1 == 62 && (bt273.2.2 == 2)) = true then (if (bt282.2.1 == 61 && (bt282.2.2 == 4)) = true then ((tree_Depth.f k bt252.1).bind fun t290 => (if t290 = 2 then ((tree_Words.f k bt252.1).bind fun t291 => ((variorumref06_Texts.f k t291 (([(⟨#[97]⟩ : ByteArray), (⟨#[98]⟩ : ByteArray), (⟨#[99]⟩ : ByteArray), (⟨#[100]⟩ : ByteArray)] : List ByteArray))).bind fun t297 => (some t297))) else (none))) else (none)) else (none)) else (none)) else (none)) else (none)) else (none)) else (none)) else (none)) else (none)))))))))) = some r := H
 have A3 := am A30
 clear A30
 replace H := Option.bind_eq_some_iff.mp H
 obtain ⟨⟨t240, t241, t242⟩, A40, H⟩ := H
 replace H : ((variorumlaw06_word.f (⟨#[99]⟩ : ByteArray)).bind fun bt243 => ((variorumlaw06_word.f (⟨#[100]⟩ : ByteArray)).bind fun bt246 => ((tree_Parse.f k (([(⟨t231, t232, t233⟩ : S44), (⟨2, (⟨#[]⟩ : ByteArray), 0⟩ : S44), (⟨t234, t235, t236⟩ : S44), (⟨t237, t238, t239⟩ : S44), (⟨3, (⟨#[]⟩ : ByteArray), 0⟩ : S44), (⟨2, (⟨#[]⟩ : ByteArray), 0⟩ : S44), (⟨t240, t241, t242⟩ : S44), (⟨2, (⟨#[]⟩ : ByteArray), 0⟩ : S44), (⟨bt243.1, bt243.2.1, bt243.2.2⟩ : S44), (⟨3, (⟨#[]⟩ : ByteArray), 0⟩ : S44), (⟨3, (⟨#[]⟩ : ByteArray), 0⟩ : S44), (⟨bt246.1, bt246.2.1, bt246.2.2⟩ : S44)] : List (S44)))).bind fun bt252 => ((tree_Parse.f k (([(⟨2, (⟨#[]⟩ : ByteArray), 3⟩ : S44)] : List (S44)))).bind fun bt261 => ((variorumlaw06_command.f (⟨#[112]⟩ : ByteArray)).bind fun bt267 => ((tree_Parse.f k (([(⟨bt267.1, bt267.2.1, bt267.2.2⟩ : S44), (⟨2, (⟨#[]⟩ : ByteArray), 2⟩ : S44)] : List (S44)))).bind fun bt273 => ((tree_Parse.f k (([(⟨3, (⟨#[]⟩ : ByteArray), 4⟩ : S44)] : List (S44)))).bind fun bt282 => (if bt252.2.1 = 0 then (if (bt252.1.length : Int) = 2 then (if 0 < (bt252.1.length : Int) then (if (((rd_T38 bt252.1 0).f2).length : Int) = 2 then (if 1 < (bt252.1.length : Int) then (if ((rd_T38 bt252.1 1).f1).toList = ([100] : List UInt8) then (if (bt261.2.1 == 60 && (bt261.2.2 == 3)) = true then (if (bt273.2.1 == 62 && (bt273.2.2 == 2)) = true then (if (bt282.2.1 == 61 && (bt282.2.2 == 4)) = true then ((tree_Depth.f k bt252.1).bind fun t290 => (if t290 = 2 then ((tree_Words.f k bt252.1).bind fun t291 => ((variorumref06_Texts.f k t291 (([(⟨#[97]⟩ : ByteArray), (⟨#[98]⟩ : ByteArray), (⟨#[99]⟩ : ByteArray), (⟨#[100]⟩ : ByteArray)] : List ByteArray))).bind fun t297 => (some t297))) else (none))) else (none)) else (none)) else (none)) else (none)) else (none)) else (none)) else (none)) else (none)) else (none))))))))) = some r := H
 have A4 := am A40
 clear A40
 replace H := Option.bind_eq_some_iff.mp H
 obtain ⟨⟨t243, t244, t245⟩, A50, H⟩ := H
 replace H : ((variorumlaw06_word.f (⟨#[100]⟩ : ByteArray)).bind fun bt246 => ((tree_Parse.f k (([(⟨t231, t232, t233⟩ : S44), (⟨2, (⟨#[]⟩ : ByteArray), 0⟩ : S44), (⟨t234, t235, t236⟩ : S44), (⟨t237, t238, t239⟩ : S44), (⟨3, (⟨#[]⟩ : ByteArray), 0⟩ : S44), (⟨2, (⟨#[]⟩ : ByteArray), 0⟩ : S44), (⟨t240, t241, t242⟩ : S44), (⟨2, (⟨#[]⟩ : ByteArray), 0⟩ : S44), (⟨t243, t244, t245⟩ : S44), (⟨3, (⟨#[]⟩ : ByteArray), 0⟩ : S44), (⟨3, (⟨#[]⟩ : ByteArray), 0⟩ : S44), (⟨bt246.1, bt246.2.1, bt246.2.2⟩ : S44)] : List (S44)))).bind fun bt252 => ((tree_Parse.f k (([(⟨2, (⟨#[]⟩ : ByteArray), 3⟩ : S44)] : List (S44)))).bind fun bt261 => ((variorumlaw06_command.f (⟨#[112]⟩ : ByteArray)).bind fun bt267 => ((tree_Parse.f k (([(⟨bt267.1, bt267.2.1, bt267.2.2⟩ : S44), (⟨2, (⟨#[]⟩ : ByteArray), 2⟩ : S44)] : List (S44)))).bind fun bt273 => ((tree_Parse.f k (([(⟨3, (⟨#[]⟩ : ByteArray), 4⟩ : S44)] : List (S44)))).bind fun bt282 => (if bt252.2.1 = 0 then (if (bt252.1.length : Int) = 2 then (if 0 < (bt252.1.length : Int) then (if (((rd_T38 bt252.1 0).f2).length : Int) = 2 then (if 1 < (bt252.1.length : Int) then (if ((rd_T38 bt252.1 1).f1).toList = ([100] : List UInt8) then (if (bt261.2.1 == 60 && (bt261.2.2 == 3)) = true then (if (bt273.2.1 == 62 && (bt273.2.2 == 2)) = true then (if (bt282.2.1 == 61 && (bt282.2.2 == 4)) = true then ((tree_Depth.f k bt252.1).bind fun t290 => (if t290 = 2 then ((tree_Words.f k bt252.1).bind fun t291 => ((variorumref06_Texts.f k t291 (([(⟨#[97]⟩ : ByteArray), (⟨#[98]⟩ : ByteArray), (⟨#[99]⟩ : ByteArray), (⟨#[100]⟩ : ByteArray)] : List ByteArray))).bind fun t297 => (some t297))) else (none))) else (none)) else (none)) else (none)) else (none)) else (none)) else (none)) else (none)) else (none)) else (none)))))))) = some r := H
 have A5 := am A50
 clear A50
 replace H := Option.bind_eq_some_iff.mp H
 obtain ⟨⟨t246, t247, t248⟩, A60, H⟩ := H
 replace H : ((tree_Parse.f k (([(⟨t231, t232, t233⟩ : S44), (⟨2, (⟨#[]⟩ : ByteArray), 0⟩ : S44), (⟨t234, t235, t236⟩ : S44), (⟨t237, t238, t239⟩ : S44), (⟨3, (⟨#[]⟩ : ByteArray), 0⟩ : S44), (⟨2, (⟨#[]⟩ : ByteArray), 0⟩ : S44), (⟨t240, t241, t242⟩ : S44), (⟨2, (⟨#[]⟩ : ByteArray), 0⟩ : S44), (⟨t243, t244, t245⟩ : S44), (⟨3, (⟨#[]⟩ : ByteArray), 0⟩ : S44), (⟨3, (⟨#[]⟩ : ByteArray), 0⟩ : S44), (⟨t246, t247, t248⟩ : S44)] : List (S44)))).bind fun bt252 => ((tree_Parse.f k (([(⟨2, (⟨#[]⟩ : ByteArray), 3⟩ : S44)] : List (S44)))).bind fun bt261 => ((variorumlaw06_command.f (⟨#[112]⟩ : ByteArray)).bind fun bt267 => ((tree_Parse.f k (([(⟨bt267.1, bt267.2.1, bt267.2.2⟩ : S44), (⟨2, (⟨#[]⟩ : ByteArray), 2⟩ : S44)] : List (S44)))).bind fun bt273 => ((tree_Parse.f k (([(⟨3, (⟨#[]⟩ : ByteArray), 4⟩ : S44)] : List (S44)))).bind fun bt282 => (if bt252.2.1 = 0 then (if (bt252.1.length : Int) = 2 then (if 0 < (bt252.1.length : Int) then (if (((rd_T38 bt252.1 0).f2).length : Int) = 2 then (if 1 < (bt252.1.length : Int) then (if ((rd_T38 bt252.1 1).f1).toList = ([100] : List UInt8) then (if (bt261.2.1 == 60 && (bt261.2.2 == 3)) = true then (if (bt273.2.1 == 62 && (bt273.2.2 == 2)) = true then (if (bt282.2.1 == 61 && (bt282.2.2 == 4)) = true then ((tree_Depth.f k bt252.1).bind fun t290 => (if t290 = 2 then ((tree_Words.f k bt252.1).bind fun t291 => ((variorumref06_Texts.f k t291 (([(⟨#[97]⟩ : ByteArray), (⟨#[98]⟩ : ByteArray), (⟨#[99]⟩ : ByteArray), (⟨#[100]⟩ : ByteArray)] : List ByteArray))).bind fun t297 => (some t297))) else (none))) else (none)) else (none)) else (none)) else (none)) else (none)) else (none)) else (none)) else (none)) else (none))))))) = some r := H
 have A6 := am A60
 clear A60
 obtain ⟨y249, hy249⟩ : ∃ y_ : List (S44), y_ = (([(⟨t231, t232, t233⟩ : S44), (⟨2, (⟨#[]⟩ : ByteArray), 0⟩ : S44), (⟨t234, t235, t236⟩ : S44), (⟨t237, t238, t239⟩ : S44), (⟨3, (⟨#[]⟩ : ByteArray), 0⟩ : S44), (⟨2, (⟨#[]⟩ : ByteArray), 0⟩ : S44), (⟨t240, t241, t242⟩ : S44), (⟨2, (⟨#[]⟩ : ByteArray), 0⟩ : S44), (⟨t243, t244, t245⟩ : S44), (⟨3, (⟨#[]⟩ : ByteArray), 0⟩ : S44), (⟨3, (⟨#[]⟩ : ByteArray), 0⟩ : S44), (⟨t246, t247, t248⟩ : S44)] : List (S44))) := ⟨_, rfl⟩
 replace H : ((tree_Parse.f k y249).bind fun bt252 => ((tree_Parse.f k (([(⟨2, (⟨#[]⟩ : ByteArray), 3⟩ : S44)] : List (S44)))).bind fun bt261 => ((variorumlaw06_command.f (⟨#[112]⟩ : ByteArray)).bind fun bt267 => ((tree_Parse.f k (([(⟨bt267.1, bt267.2.1, bt267.2.2⟩ : S44), (⟨2, (⟨#[]⟩ : ByteArray), 2⟩ : S44)] : List (S44)))).bind fun bt273 => ((tree_Parse.f k (([(⟨3, (⟨#[]⟩ : ByteArray), 4⟩ : S44)] : List (S44)))).bind fun bt282 => (if bt252.2.1 = 0 then (if (bt252.1.length : Int) = 2 then (if 0 < (bt252.1.length : Int) then (if (((rd_T38 bt252.1 0).f2).length : Int) = 2 then (if 1 < (bt252.1.length : Int) then (if ((rd_T38 bt252.1 1).f1).toList = ([100] : List UInt8) then (if (bt261.2.1 == 60 && (bt261.2.2 == 3)) = true then (if (bt273.2.1 == 62 && (bt273.2.2 == 2)) = true then (if (bt282.2.1 == 61 && (bt282.2.2 == 4)) = true then ((tree_Depth.f k bt252.1).bind fun t290 => (if t290 = 2 then ((tree_Words.f k bt252.1).bind fun t291 => ((variorumref06_Texts.f k t291 (([(⟨#[97]⟩ : ByteArray), (⟨#[98]⟩ : ByteArray), (⟨#[99]⟩ : ByteArray), (⟨#[100]⟩ : ByteArray)] : List ByteArray))).bind fun t297 => (some t297))) else (none))) else (none)) else (none)) else (none)) else (none)) else (none)) else (none)) else (none)) else (none)) else (none))))))) = some r := by first | (rw [hy249]; with_reducible exact H) | (have H2_ := (Option.bind_some _ _).symm.trans H; rw [hy249]; with_reducible exact H2_) | (have H2_ := (Option.bind_some _ _).symm.trans H; with_reducible exact H2_) | with_reducible exact H | (rw [hy249]; exact H) | exact H
 have Ny249 := am hy249
 clear hy249
 replace H := Option.bind_eq_some_iff.mp H
 obtain ⟨⟨t252, t255, t256⟩, A70, H⟩ := H
 replace H : ((tree_Parse.f k (([(⟨2, (⟨#[]⟩ : ByteArray), 3⟩ : S44)] : List (S44)))).bind fun bt261 => ((variorumlaw06_command.f (⟨#[112]⟩ : ByteArray)).bind fun bt267 => ((tree_Parse.f k (([(⟨bt267.1, bt267.2.1, bt267.2.2⟩ : S44), (⟨2, (⟨#[]⟩ : ByteArray), 2⟩ : S44)] : List (S44)))).bind fun bt273 => ((tree_Parse.f k (([(⟨3, (⟨#[]⟩ : ByteArray), 4⟩ : S44)] : List (S44)))).bind fun bt282 => (if t255 = 0 then (if (t252.length : Int) = 2 then (if 0 < (t252.length : Int) then (if (((rd_T38 t252 0).f2).length : Int) = 2 then (if 1 < (t252.length : Int) then (if ((rd_T38 t252 1).f1).toList = ([100] : List UInt8) then (if (bt261.2.1 == 60 && (bt261.2.2 == 3)) = true then (if (bt273.2.1 == 62 && (bt273.2.2 == 2)) = true then (if (bt282.2.1 == 61 && (bt282.2.2 == 4)) = true then ((tree_Depth.f k t252).bind fun t290 => (if t290 = 2 then ((tree_Words.f k t252).bind fun t291 => ((variorumref06_Texts.f k t291 (([(⟨#[97]⟩ : ByteArray), (⟨#[98]⟩ : ByteArray), (⟨#[99]⟩ : ByteArray), (⟨#[100]⟩ : ByteArray)] : List ByteArray))).bind fun t297 => (some t297))) else (none))) else (none)) else (none)) else (none)) else (none)) else (none)) else (none)) else (none)) else (none)) else (none)))))) = some r := H
 have A7 := am A70
 clear A70
 obtain ⟨y258, hy258⟩ : ∃ y_ : List (S44), y_ = (([(⟨2, (⟨#[]⟩ : ByteArray), 3⟩ : S44)] : List (S44))) := ⟨_, rfl⟩
 replace H : ((tree_Parse.f k y258).bind fun bt261 => ((variorumlaw06_command.f (⟨#[112]⟩ : ByteArray)).bind fun bt267 => ((tree_Parse.f k (([(⟨bt267.1, bt267.2.1, bt267.2.2⟩ : S44), (⟨2, (⟨#[]⟩ : ByteArray), 2⟩ : S44)] : List (S44)))).bind fun bt273 => ((tree_Parse.f k (([(⟨3, (⟨#[]⟩ : ByteArray), 4⟩ : S44)] : List (S44)))).bind fun bt282 => (if t255 = 0 then (if (t252.length : Int) = 2 then (if 0 < (t252.length : Int) then (if (((rd_T38 t252 0).f2).length : Int) = 2 then (if 1 < (t252.length : Int) then (if ((rd_T38 t252 1).f1).toList = ([100] : List UInt8) then (if (bt261.2.1 == 60 && (bt261.2.2 == 3)) = true then (if (bt273.2.1 == 62 && (bt273.2.2 == 2)) = true then (if (bt282.2.1 == 61 && (bt282.2.2 == 4)) = true then ((tree_Depth.f k t252).bind fun t290 => (if t290 = 2 then ((tree_Words.f k t252).bind fun t291 => ((variorumref06_Texts.f k t291 (([(⟨#[97]⟩ : ByteArray), (⟨#[98]⟩ : ByteArray), (⟨#[99]⟩ : ByteArray), (⟨#[100]⟩ : ByteArray)] : List ByteArray))).bind fun t297 => (some t297))) else (none))) else (none)) else (none)) else (none)) else (none)) else (none)) else (none)) else (none)) else (none)) else (none)))))) = some r := by first | (rw [hy258]; with_reducible exact H) | (have H2_ := (Option.bind_some _ _).symm.trans H; rw [hy258]; with_reducible exact H2_) | (have H2_ := (Option.bind_some _ _).symm.trans H; with_reducible exact H2_) | with_reducible exact H | (rw [hy258]; exact H) | exact H
 have Ny258 := am hy258
 clear hy258
 replace H := Option.bind_eq_some_iff.mp H
 obtain ⟨⟨t261, t264, t265⟩, A80, H⟩ := H
 replace H : ((variorumlaw06_command.f (⟨#[112]⟩ : ByteArray)).bind fun bt267 => ((tree_Parse.f k (([(⟨bt267.1, bt267.2.1, bt267.2.2⟩ : S44), (⟨2, (⟨#[]⟩ : ByteArray), 2⟩ : S44)] : List (S44)))).bind fun bt273 => ((tree_Parse.f k (([(⟨3, (⟨#[]⟩ : ByteArray), 4⟩ : S44)] : List (S44)))).bind fun bt282 => (if t255 = 0 then (if (t252.length : Int) = 2 then (if 0 < (t252.length : Int) then (if (((rd_T38 t252 0).f2).length : Int) = 2 then (if 1 < (t252.length : Int) then (if ((rd_T38 t252 1).f1).toList = ([100] : List UInt8) then (if (t264 == 60 && (t265 == 3)) = true then (if (bt273.2.1 == 62 && (bt273.2.2 == 2)) = true then (if (bt282.2.1 == 61 && (bt282.2.2 == 4)) = true then ((tree_Depth.f k t252).bind fun t290 => (if t290 = 2 then ((tree_Words.f k t252).bind fun t291 => ((variorumref06_Texts.f k t291 (([(⟨#[97]⟩ : ByteArray), (⟨#[98]⟩ : ByteArray), (⟨#[99]⟩ : ByteArray), (⟨#[100]⟩ : ByteArray)] : List ByteArray))).bind fun t297 => (some t297))) else (none))) else (none)) else (none)) else (none)) else (none)) else (none)) else (none)) else (none)) else (none)) else (none))))) = some r := H
 have A8 := am A80
 clear A80
 replace H := Option.bind_eq_some_iff.mp H
 obtain ⟨⟨t267, t268, t269⟩, A90, H⟩ := H
 replace H : ((tree_Parse.f k (([(⟨t267, t268, t269⟩ : S44), (⟨2, (⟨#[]⟩ : ByteArray), 2⟩ : S44)] : List (S44)))).bind fun bt273 => ((tree_Parse.f k (([(⟨3, (⟨#[]⟩ : ByteArray), 4⟩ : S44)] : List (S44)))).bind fun bt282 => (if t255 = 0 then (if (t252.length : Int) = 2 then (if 0 < (t252.length : Int) then (if (((rd_T38 t252 0).f2).length : Int) = 2 then (if 1 < (t252.length : Int) then (if ((rd_T38 t252 1).f1).toList = ([100] : List UInt8) then (if (t264 == 60 && (t265 == 3)) = true then (if (bt273.2.1 == 62 && (bt273.2.2 == 2)) = true then (if (bt282.2.1 == 61 && (bt282.2.2 == 4)) = true then ((tree_Depth.f k t252).bind fun t290 => (if t290 = 2 then ((tree_Words.f k t252).bind fun t291 => ((variorumref06_Texts.f k t291 (([(⟨#[97]⟩ : ByteArray), (⟨#[98]⟩ : ByteArray), (⟨#[99]⟩ : ByteArray), (⟨#[100]⟩ : ByteArray)] : List ByteArray))).bind fun t297 => (some t297))) else (none))) else (none)) else (none)) else (none)) else (none)) else (none)) else (none)) else (none)) else (none)) else (none)))) = some r := H
 have A9 := am A90
 clear A90
 obtain ⟨y270, hy270⟩ : ∃ y_ : List (S44), y_ = (([(⟨t267, t268, t269⟩ : S44), (⟨2, (⟨#[]⟩ : ByteArray), 2⟩ : S44)] : List (S44))) := ⟨_, rfl⟩
 replace H : ((tree_Parse.f k y270).bind fun bt273 => ((tree_Parse.f k (([(⟨3, (⟨#[]⟩ : ByteArray), 4⟩ : S44)] : List (S44)))).bind fun bt282 => (if t255 = 0 then (if (t252.length : Int) = 2 then (if 0 < (t252.length : Int) then (if (((rd_T38 t252 0).f2).length : Int) = 2 then (if 1 < (t252.length : Int) then (if ((rd_T38 t252 1).f1).toList = ([100] : List UInt8) then (if (t264 == 60 && (t265 == 3)) = true then (if (bt273.2.1 == 62 && (bt273.2.2 == 2)) = true then (if (bt282.2.1 == 61 && (bt282.2.2 == 4)) = true then ((tree_Depth.f k t252).bind fun t290 => (if t290 = 2 then ((tree_Words.f k t252).bind fun t291 => ((variorumref06_Texts.f k t291 (([(⟨#[97]⟩ : ByteArray), (⟨#[98]⟩ : ByteArray), (⟨#[99]⟩ : ByteArray), (⟨#[100]⟩ : ByteArray)] : List ByteArray))).bind fun t297 => (some t297))) else (none))) else (none)) else (none)) else (none)) else (none)) else (none)) else (none)) else (none)) else (none)) else (none)))) = some r := by first | (rw [hy270]; with_reducible exact H) | (have H2_ := (Option.bind_some _ _).symm.trans H; rw [hy270]; with_reducible exact H2_) | (have H2_ := (Option.bind_some _ _).symm.trans H; with_reducible exact H2_) | with_reducible exact H | (rw [hy270]; exact H) | exact H
 have Ny270 := am hy270
 clear hy270
 replace H := Option.bind_eq_some_iff.mp H
 obtain ⟨⟨t273, t276, t277⟩, A100, H⟩ := H
 replace H : ((tree_Parse.f k (([(⟨3, (⟨#[]⟩ : ByteArray), 4⟩ : S44)] : List (S44)))).bind fun bt282 => (if t255 = 0 then (if (t252.length : Int) = 2 then (if 0 < (t252.length : Int) then (if (((rd_T38 t252 0).f2).length : Int) = 2 then (if 1 < (t252.length : Int) then (if ((rd_T38 t252 1).f1).toList = ([100] : List UInt8) then (if (t264 == 60 && (t265 == 3)) = true then (if (t276 == 62 && (t277 == 2)) = true then (if (bt282.2.1 == 61 && (bt282.2.2 == 4)) = true then ((tree_Depth.f k t252).bind fun t290 => (if t290 = 2 then ((tree_Words.f k t252).bind fun t291 => ((variorumref06_Texts.f k t291 (([(⟨#[97]⟩ : ByteArray), (⟨#[98]⟩ : ByteArray), (⟨#[99]⟩ : ByteArray), (⟨#[100]⟩ : ByteArray)] : List ByteArray))).bind fun t297 => (some t297))) else (none))) else (none)) else (none)) else (none)) else (none)) else (none)) else (none)) else (none)) else (none)) else (none))) = some r := H
 have A10 := am A100
 clear A100
 obtain ⟨y279, hy279⟩ : ∃ y_ : List (S44), y_ = (([(⟨3, (⟨#[]⟩ : ByteArray), 4⟩ : S44)] : List (S44))) := ⟨_, rfl⟩
 replace H : ((tree_Parse.f k y279).bind fun bt282 => (if t255 = 0 then (if (t252.length : Int) = 2 then (if 0 < (t252.length : Int) then (if (((rd_T38 t252 0).f2).length : Int) = 2 then (if 1 < (t252.length : Int) then (if ((rd_T38 t252 1).f1).toList = ([100] : List UInt8) then (if (t264 == 60 && (t265 == 3)) = true then (if (t276 == 62 && (t277 == 2)) = true then (if (bt282.2.1 == 61 && (bt282.2.2 == 4)) = true then ((tree_Depth.f k t252).bind fun t290 => (if t290 = 2 then ((tree_Words.f k t252).bind fun t291 => ((variorumref06_Texts.f k t291 (([(⟨#[97]⟩ : ByteArray), (⟨#[98]⟩ : ByteArray), (⟨#[99]⟩ : ByteArray), (⟨#[100]⟩ : ByteArray)] : List ByteArray))).bind fun t297 => (some t297))) else (none))) else (none)) else (none)) else (none)) else (none)) else (none)) else (none)) else (none)) else (none)) else (none))) = some r := by first | (rw [hy279]; with_reducible exact H) | (have H2_ := (Option.bind_some _ _).symm.trans H; rw [hy279]; with_reducible exact H2_) | (have H2_ := (Option.bind_some _ _).symm.trans H; with_reducible exact H2_) | with_reducible exact H | (rw [hy279]; exact H) | exact H
 have Ny279 := am hy279
 clear hy279
 replace H := Option.bind_eq_some_iff.mp H
 obtain ⟨⟨t282, t285, t286⟩, A110, H⟩ := H
 replace H : (if t255 = 0 then (if (t252.length : Int) = 2 then (if 0 < (t252.length : Int) then (if (((rd_T38 t252 0).f2).length : Int) = 2 then (if 1 < (t252.length : Int) then (if ((rd_T38 t252 1).f1).toList = ([100] : List UInt8) then (if (t264 == 60 && (t265 == 3)) = true then (if (t276 == 62 && (t277 == 2)) = true then (if (t285 == 61 && (t286 == 4)) = true then ((tree_Depth.f k t252).bind fun t290 => (if t290 = 2 then ((tree_Words.f k t252).bind fun t291 => ((variorumref06_Texts.f k t291 (([(⟨#[97]⟩ : ByteArray), (⟨#[98]⟩ : ByteArray), (⟨#[99]⟩ : ByteArray), (⟨#[100]⟩ : ByteArray)] : List ByteArray))).bind fun t297 => (some t297))) else (none))) else (none)) else (none)) else (none)) else (none)) else (none)) else (none)) else (none)) else (none)) else (none)) = some r := H
 have A11 := am A110
 clear A110
 by_cases c12 : t255 = 0
 ·rw [if_pos c12] at H
  have c12b0 : (t255 == 0) = true := beq_iff_eq.mpr c12
  have c12b1 : (t255 != 0) = false := bne_eq_false_iff_eq.mpr c12
  clear c12
  by_cases c13 : (t252.length : Int) = 2
  ·rw [if_pos c13] at H
   have c13b0 : ((t252.length : Int) == 2) = true := beq_iff_eq.mpr c13
   have c13b1 : ((t252.length : Int) != 2) = false := bne_eq_false_iff_eq.mpr c13
   clear c13
   by_cases c14 : 0 < (t252.length : Int)
   ·rw [if_pos c14] at H
    have c14b0 : decide (0 < (t252.length : Int)) = true := decide_eq_true c14
    have c14b1 : decide (0 < t252.length) = true := decide_eq_true (by omega)
    clear c14
    by_cases c15 : (((rd_T38 t252 0).f2).length : Int) = 2
    ·rw [if_pos c15] at H
     have c15b0 : ((((rd_T38 t252 0).f2).length : Int) == 2) = true := beq_iff_eq.mpr c15
     have c15b1 : ((((rd_T38 t252 0).f2).length : Int) != 2) = false := bne_eq_false_iff_eq.mpr c15
     clear c15
     by_cases c16 : 1 < (t252.length : Int)
     ·rw [if_pos c16] at H
      have c16b0 : decide (1 < (t252.length : Int)) = true := decide_eq_true c16
      have c16b1 : decide (1 < t252.length) = true := decide_eq_true (by omega)
      clear c16
      by_cases c17 : ((rd_T38 t252 1).f1).toList = ([100] : List UInt8)
      ·rw [if_pos c17] at H
       have c17b0 : (((rd_T38 t252 1).f1).toList == ([100] : List UInt8)) = true := beq_iff_eq.mpr c17
       have c17b1 : (((rd_T38 t252 1).f1).toList != ([100] : List UInt8)) = false := bne_eq_false_iff_eq.mpr c17
       clear c17
       by_cases c18 : (t264 == 60 && (t265 == 3)) = true
       ·rw [if_pos c18] at H
        have c18b0 : (t264 == 60 && (t265 == 3)) = true := c18
        (try (have c18b1 : decide (t264 = 60 && (t265 == 3)) = true := by simpa using c18))
        (try (have c18b2 : (t264 == 60 && (t265 == 3)) = true := by simpa using c18))
        clear c18
        by_cases c19 : (t276 == 62 && (t277 == 2)) = true
        ·rw [if_pos c19] at H
         have c19b0 : (t276 == 62 && (t277 == 2)) = true := c19
         (try (have c19b1 : decide (t276 = 62 && (t277 == 2)) = true := by simpa using c19))
         (try (have c19b2 : (t276 == 62 && (t277 == 2)) = true := by simpa using c19))
         clear c19
         by_cases c20 : (t285 == 61 && (t286 == 4)) = true
         ·rw [if_pos c20] at H
          have c20b0 : (t285 == 61 && (t286 == 4)) = true := c20
          (try (have c20b1 : decide (t285 = 61 && (t286 == 4)) = true := by simpa using c20))
          (try (have c20b2 : (t285 == 61 && (t286 == 4)) = true := by simpa using c20))
          clear c20
          replace H := Option.bind_eq_some_iff.mp H
          obtain ⟨t290, A210, H⟩ := H
          replace H : (if t290 = 2 then ((tree_Words.f k t252).bind fun t291 => ((variorumref06_Texts.f k t291 (([(⟨#[97]⟩ : ByteArray), (⟨#[98]⟩ : ByteArray), (⟨#[99]⟩ : ByteArray), (⟨#[100]⟩ : ByteArray)] : List ByteArray))).bind fun t297 => (some t297))) else (none)) = some r := H
          have A21 := am A210
          clear A210
          by_cases c22 : t290 = 2
          ·rw [if_pos c22] at H
           have c22b0 : (t290 == 2) = true := beq_iff_eq.mpr c22
           have c22b1 : (t290 != 2) = false := bne_eq_false_iff_eq.mpr c22
           clear c22
           replace H := Option.bind_eq_some_iff.mp H
           obtain ⟨t291, A230, H⟩ := H
           replace H : ((variorumref06_Texts.f k t291 (([(⟨#[97]⟩ : ByteArray), (⟨#[98]⟩ : ByteArray), (⟨#[99]⟩ : ByteArray), (⟨#[100]⟩ : ByteArray)] : List ByteArray))).bind fun t297 => (some t297)) = some r := H
           have A23 := am A230
           clear A230
           obtain ⟨y294, hy294⟩ : ∃ y_ : List ByteArray, y_ = (([(⟨#[97]⟩ : ByteArray), (⟨#[98]⟩ : ByteArray), (⟨#[99]⟩ : ByteArray), (⟨#[100]⟩ : ByteArray)] : List ByteArray)) := ⟨_, rfl⟩
           replace H : ((variorumref06_Texts.f k t291 y294).bind fun t297 => (some t297)) = some r := by first | (rw [hy294]; with_reducible exact H) | (have H2_ := (Option.bind_some _ _).symm.trans H; rw [hy294]; with_reducible exact H2_) | (have H2_ := (Option.bind_some _ _).symm.trans H; with_reducible exact H2_) | with_reducible exact H | (rw [hy294]; exact H) | exact H
           have Ny294 := am hy294
           clear hy294
           replace H := Option.bind_eq_some_iff.mp H
           obtain ⟨t297, A240, H⟩ := H
           replace H : (some t297) = some r := H
           have A24 := am A240
           clear A240
           obtain rfl := Option.some.inj H
           go_enter Try.func9, Try.ntmps9
           try go_wp2_with (first | ((with_reducible refine gate_dst (N := 1) rfl ?_); (try (refine gate_guard (by rfl) ?_; dsimp only)); refine box_event ?hg (N := 1) ?hd (cs := #[.int .i64 0, .string (⟨#[]⟩ : ByteArray), .int .i64 0]) (t := 44) ?hr ?_; (case hd => rfl); (case hg => rfl); (case hr => first | (go_simp; done) | (go_simp; rfl)); intro gb229 hg w25 hbox hb; have n0_ := am (below_step (by repeat (with_reducible first | exact HB.out | apply lA | apply lN | apply lD)) hb); have n1_ := am (hbox); have n2_ := am ((by rw [hg]; exact (below_size (by repeat (with_reducible first | exact HB.out | apply lA | apply lN | apply lD))) : w.heap.size ≤ gb229)); have n3_ := am ((by rw [hg]; exact (below_size (by repeat (with_reducible first | exact HB.out | apply lA | apply lN | apply lD))) : w.heap.size ≤ gb229)); clear HB; have HB := n0_; have BK229 := n1_; have GW229 := n2_; have GE229 := n3_; clear n0_ n1_ n2_ n3_; clear hb hbox hg) | ((with_reducible refine gate_dst (N := 2) rfl ?_); (try (refine gate_guard (by rfl) ?_; dsimp only)); refine box_event ?hg (N := 2) ?hd (cs := #[.int .i64 0, .string (⟨#[]⟩ : ByteArray), .int .i64 0]) (t := 44) ?hr ?_; (case hd => rfl); (case hg => rfl); (case hr => first | (go_simp; done) | (go_simp; rfl)); intro gb230 hg w26 hbox hb; have n0_ := am (bB (g := gb229) (o := .cells #[.int .i64 0, .string (⟨#[]⟩ : ByteArray), .int .i64 0] 44 (0, 0)) (by (with_reducible repeat (first | refine bN ?_ _ | refine bD ?_ | refine bA ?_ _)); exact BK229.out) hb); have n1_ := am (below_step (by repeat (with_reducible first | exact HB.out | apply lA | apply lN | apply lD | refine lS ?_ GE229.out)) hb); have n2_ := am (hbox); have n3_ := am ((by rw [hg]; exact (below_size (by repeat (with_reducible first | exact HB.out | apply lA | apply lN | apply lD | refine lS ?_ GE229.out))) : w.heap.size ≤ gb230)); have n4_ := am ((by rw [hg]; exact (below_size (by repeat (with_reducible first | exact HB.out | apply lA | apply lN | apply lD | refine lS ?_ GE229.out))) : w.heap.size ≤ gb230)); have n5_ := am ((by rw [hg]; exact Nat.ne_of_lt (blk_lt (g := gb229) (o := .cells #[.int .i64 0, .string (⟨#[]⟩ : ByteArray), .int .i64 0] 44 (0, 0)) (by (with_reducible repeat (first | refine bN ?_ _ | refine bD ?_ | refine bA ?_ _)); exact BK229.out)) : gb229 ≠ gb230)); have n6_ := am ((by rw [hg]; exact Nat.ne_of_gt (blk_lt (g := gb229) (o := .cells #[.int .i64 0, .string (⟨#[]⟩ : ByteArray), .int .i64 0] 44 (0, 0)) (by (with_reducible repeat (first | refine bN ?_ _ | refine bD ?_ | refine bA ?_ _)); exact BK229.out)) : gb230 ≠ gb229)); clear BK229; clear HB; have BK229 := n0_; have HB := n1_; have BK230 := n2_; have GW230 := n3_; have GE230 := n4_; have NB229_230 := n5_; have NB230_229 := n6_; clear n0_ n1_ n2_ n3_ n4_ n5_ n6_; clear hb hbox hg; have hnb27 := NB229_230.out; have hnc27 := NB230_229.out; have hcz28_0 : w26.cell? ⟨gb229, 0, none⟩ = some (.int .i64 0) := (bC BK229.out 0).trans rfl; have hcz28_1 : w26.cell? ⟨gb229, 1, none⟩ = some (.string (⟨#[]⟩ : ByteArray)) := (bC BK229.out 1).trans rfl; have hcz28_2 : w26.cell? ⟨gb229, 2, none⟩ = some (.int .i64 0) := (bC BK229.out 2).trans rfl; have hfz28_0 := bF BK229.out 0; have hfz28_1 := bF BK229.out 1; have hfz28_2 := bF BK229.out 2; have hcz29_0 : w26.cell? ⟨gb230, 0, none⟩ = some (.int .i64 0) := (bC BK230.out 0).trans rfl; have hcz29_1 : w26.cell? ⟨gb230, 1, none⟩ = some (.string (⟨#[]⟩ : ByteArray)) := (bC BK230.out 1).trans rfl; have hcz29_2 : w26.cell? ⟨gb230, 2, none⟩ = some (.int .i64 0) := (bC BK230.out 2).trans rfl; have hfz29_0 := bF BK230.out 0; have hfz29_1 := bF BK230.out 1; have hfz29_2 := bF BK230.out 2))
           have n0_ : Aside0 (((((((w26.setCell ⟨gb229, 0, none⟩ (.int .i64 2)).setCell ⟨gb229, 1, none⟩ (.string (⟨#[]⟩ : ByteArray))).setCell ⟨gb229, 2, none⟩ (.int .i64 0)).setCell ⟨gb230, 0, none⟩ (.int .i64 3)).setCell ⟨gb230, 1, none⟩ (.string (⟨#[]⟩ : ByteArray))).setCell ⟨gb230, 2, none⟩ (.int .i64 0)).heap[gb229]? = some (.cells #[.int .i64 2, .string (⟨#[]⟩ : ByteArray), .int .i64 0] 44 (0, 0))) := ⟨by (with_reducible repeat (first | refine bN ?_ _ | refine bD ?_ | refine bA ?_ _)); refine bR ?_ NB229_230.out _; (with_reducible repeat (first | refine bN ?_ _ | refine bD ?_ | refine bA ?_ _)); refine bR ?_ NB229_230.out _; (with_reducible repeat (first | refine bN ?_ _ | refine bD ?_ | refine bA ?_ _)); refine bR ?_ NB229_230.out _; (with_reducible repeat (first | refine bN ?_ _ | refine bD ?_ | refine bA ?_ _)); refine bP (cs := #[.int .i64 2, .string (⟨#[]⟩ : ByteArray), .int .i64 0]) ?_ 2 _ rfl; (with_reducible repeat (first | refine bN ?_ _ | refine bD ?_ | refine bA ?_ _)); refine bP (cs := #[.int .i64 2, .string (⟨#[]⟩ : ByteArray), .int .i64 0]) ?_ 1 _ rfl; (with_reducible repeat (first | refine bN ?_ _ | refine bD ?_ | refine bA ?_ _)); refine bP (cs := #[.int .i64 0, .string (⟨#[]⟩ : ByteArray), .int .i64 0]) ?_ 0 _ rfl; (with_reducible repeat (first | refine bN ?_ _ | refine bD ?_ | refine bA ?_ _)); exact BK229.out⟩
           have n1_ : Aside0 (((((((w26.setCell ⟨gb229, 0, none⟩ (.int .i64 2)).setCell ⟨gb229, 1, none⟩ (.string (⟨#[]⟩ : ByteArray))).setCell ⟨gb229, 2, none⟩ (.int .i64 0)).setCell ⟨gb230, 0, none⟩ (.int .i64 3)).setCell ⟨gb230, 1, none⟩ (.string (⟨#[]⟩ : ByteArray))).setCell ⟨gb230, 2, none⟩ (.int .i64 0)).heap[gb230]? = some (.cells #[.int .i64 3, .string (⟨#[]⟩ : ByteArray), .int .i64 0] 44 (0, 0))) := ⟨by (with_reducible repeat (first | refine bN ?_ _ | refine bD ?_ | refine bA ?_ _)); refine bP (cs := #[.int .i64 3, .string (⟨#[]⟩ : ByteArray), .int .i64 0]) ?_ 2 _ rfl; (with_reducible repeat (first | refine bN ?_ _ | refine bD ?_ | refine bA ?_ _)); refine bP (cs := #[.int .i64 3, .string (⟨#[]⟩ : ByteArray), .int .i64 0]) ?_ 1 _ rfl; (with_reducible repeat (first | refine bN ?_ _ | refine bD ?_ | refine bA ?_ _)); refine bP (cs := #[.int .i64 0, .string (⟨#[]⟩ : ByteArray), .int .i64 0]) ?_ 0 _ rfl; (with_reducible repeat (first | refine bN ?_ _ | refine bD ?_ | refine bA ?_ _)); refine bR ?_ NB230_229.out _; (with_reducible repeat (first | refine bN ?_ _ | refine bD ?_ | refine bA ?_ _)); refine bR ?_ NB230_229.out _; (with_reducible repeat (first | refine bN ?_ _ | refine bD ?_ | refine bA ?_ _)); refine bR ?_ NB230_229.out _; (with_reducible repeat (first | refine bN ?_ _ | refine bD ?_ | refine bA ?_ _)); exact BK230.out⟩
           have n2_ : Aside0 (Below w.heap.size w ((((((w26.setCell ⟨gb229, 0, none⟩ (.int .i64 2)).setCell ⟨gb229, 1, none⟩ (.string (⟨#[]⟩ : ByteArray))).setCell ⟨gb229, 2, none⟩ (.int .i64 0)).setCell ⟨gb230, 0, none⟩ (.int .i64 3)).setCell ⟨gb230, 1, none⟩ (.string (⟨#[]⟩ : ByteArray))).setCell ⟨gb230, 2, none⟩ (.int .i64 0))) := ⟨by repeat (with_reducible first | exact HB.out | apply lA | apply lN | apply lD | refine lS ?_ GE229.out | refine lS ?_ GE230.out)⟩
           (try clear BK229)
           (try clear BK230)
           (try clear HB)
           generalize ((((((w26.setCell ⟨gb229, 0, none⟩ (.int .i64 2)).setCell ⟨gb229, 1, none⟩ (.string (⟨#[]⟩ : ByteArray))).setCell ⟨gb229, 2, none⟩ (.int .i64 0)).setCell ⟨gb230, 0, none⟩ (.int .i64 3)).setCell ⟨gb230, 1, none⟩ (.string (⟨#[]⟩ : ByteArray))).setCell ⟨gb230, 2, none⟩ (.int .i64 0)) = w30 at n0_ n1_ n2_ ⊢
           have BK229 := n0_
           have BK230 := n1_
           have HB := n2_
           clear n0_ n1_ n2_
           have n0_ := am (bD BK229.out)
           have n1_ := am (bD BK230.out)
           have n2_ := am (lD HB.out)
           clear BK229
           clear BK230
           clear HB
           have BK229 := n0_
           have BK230 := n1_
           have HB := n2_
           clear n0_ n1_ n2_
           refine start_ (n := 20) (S := fun w' => w'.cell? ⟨gb229, 0, none⟩ = some (.int .i64 2) ∧ w'.cell? ⟨gb229, 1, none⟩ = some (.string (⟨#[]⟩ : ByteArray)) ∧ w'.cell? ⟨gb229, 2, none⟩ = some (.int .i64 0) ∧ w'.cell? ⟨gb230, 0, none⟩ = some (.int .i64 3) ∧ w'.cell? ⟨gb230, 1, none⟩ = some (.string (⟨#[]⟩ : ByteArray)) ∧ w'.cell? ⟨gb230, 2, none⟩ = some (.int .i64 0)) (ds := []) #[false, false, false, false, false, false, false, false, false, false, false, false, false, false, false, false, false, false, false, false] (by kernel_rfl) rfl rfl ⟨(bC BK229.out 0).trans rfl, (bC BK229.out 1).trans rfl, (bC BK229.out 2).trans rfl, (bC BK230.out 0).trans rfl, (bC BK230.out 1).trans rfl, (bC BK230.out 2).trans rfl⟩ (fun hHeld => ?_); refine with_tabW variorumlaw06_fixed.tab2 variorumlaw06_fixed.bits2 (fun HT_ HW_ => ?_)
           generalize w30.drew = w31 at BK229 BK230 HB hHeld ⊢
           refine take_ (i := 1) (N := some 15) (v := ?_) (a' := ?_) #[false, true, false, false, false, false, false, false, false, false, false, false, false, false, false, false, false, false, false, false] rfl rfl (take_ofW HT_.out HW_.out (by kernel_rfl)) (fun _ _ _ h => h) (Or.inl ⟨by rfl, ?_⟩) hHeld ?_ ?_
           rotate_left
           ·rintro w' ⟨s0, s1, s2, s3, s4, s5⟩
            go_simp
            with_reducible rfl
           rotate_left
           ·simp only [Act.put, List.setIfInBounds_toArray, List.set_cons_zero, List.set_cons_succ, i64_w, i32_w]
            rfl
           refine take_ (i := 4) (N := some 18) (v := ?_) (a' := ?_) #[false, true, false, false, true, false, false, false, false, false, false, false, false, false, false, false, false, false, false, false] rfl rfl (take_ofW HT_.out HW_.out (by kernel_rfl)) (fun _ _ _ h => h) (Or.inl ⟨by rfl, ?_⟩) hHeld ?_ ?_
           rotate_left
           ·rintro w' ⟨s0, s1, s2, s3, s4, s5⟩
            go_simp
            with_reducible rfl
           rotate_left
           ·simp only [Act.put, List.setIfInBounds_toArray, List.set_cons_zero, List.set_cons_succ, i64_w, i32_w]
            rfl
           refine take_ (i := 5) (N := some 19) (v := ?_) (a' := ?_) #[false, true, false, false, true, true, false, false, false, false, false, false, false, false, false, false, false, false, false, false] rfl rfl (take_ofW HT_.out HW_.out (by kernel_rfl)) (fun _ _ _ h => h) (Or.inl ⟨by rfl, ?_⟩) hHeld ?_ ?_
           rotate_left
           ·rintro w' ⟨s0, s1, s2, s3, s4, s5⟩
            go_simp
            with_reducible rfl
           rotate_left
           ·simp only [Act.put, List.setIfInBounds_toArray, List.set_cons_zero, List.set_cons_succ, i64_w, i32_w]
            rfl
           refine take_ (i := 7) (N := some 21) (v := ?_) (a' := ?_) #[false, true, false, false, true, true, false, true, false, false, false, false, false, false, false, false, false, false, false, false] rfl rfl (take_ofW HT_.out HW_.out (by kernel_rfl)) (fun _ _ _ h => h) (Or.inl ⟨by rfl, ?_⟩) hHeld ?_ ?_
           rotate_left
           ·rintro w' ⟨s0, s1, s2, s3, s4, s5⟩
            go_simp
            with_reducible rfl
           rotate_left
           ·simp only [Act.put, List.setIfInBounds_toArray, List.set_cons_zero, List.set_cons_succ, i64_w, i32_w]
            rfl
           refine take_ (i := 9) (N := some 23) (v := ?_) (a' := ?_) #[false, true, false, false, true, true, false, true, false, true, false, false, false, false, false, false, false, false, false, false] rfl rfl (take_ofW HT_.out HW_.out (by kernel_rfl)) (fun _ _ _ h => h) (Or.inl ⟨by rfl, ?_⟩) hHeld ?_ ?_
           rotate_left
           ·rintro w' ⟨s0, s1, s2, s3, s4, s5⟩
            go_simp
            with_reducible rfl
           rotate_left
           ·simp only [Act.put, List.setIfInBounds_toArray, List.set_cons_zero, List.set_cons_succ, i64_w, i32_w]
            rfl
           refine take_ (i := 10) (N := some 24) (v := ?_) (a' := ?_) #[false, true, false, false, true, true, false, true, false, true, true, false, false, false, false, false, false, false, false, false] rfl rfl (take_ofW HT_.out HW_.out (by kernel_rfl)) (fun _ _ _ h => h) (Or.inl ⟨by rfl, ?_⟩) hHeld ?_ ?_
           rotate_left
           ·rintro w' ⟨s0, s1, s2, s3, s4, s5⟩
            go_simp
            with_reducible rfl
           rotate_left
           ·simp only [Act.put, List.setIfInBounds_toArray, List.set_cons_zero, List.set_cons_succ, i64_w, i32_w]
            rfl
           refine join_ (σ := Value × Value × Nat) 2 #[true, true, true, true, true, true, true, true, true, true, true, true, true, true, true, true, true, true, false, false] (fun s_ => [(14, .agg #[.int .i64 t231, .string t232, .int .i64 t233]), (16, .agg #[.int .i64 t234, .string t235, .int .i64 t236]), (17, .agg #[.int .i64 t237, .string t238, .int .i64 t239]), (20, .agg #[.int .i64 t240, .string t241, .int .i64 t242]), (22, .agg #[.int .i64 t243, .string t244, .int .i64 t245]), (25, .agg #[.int .i64 t246, .string t247, .int .i64 t248]), (26, s_.1), (27, .tuple #[s_.2.1, .agg #[.int .i64 t255, .int .i64 t256]]), (4, .pointer (some ⟨s_.2.2, 0, none⟩)), (13, .tuple #[s_.2.1, .agg #[.int .i64 t255, .int .i64 t256]]), (28, s_.2.1), (29, .agg #[.int .i64 t255, .int .i64 t256])]) (fun s_ w' => (w'.cell? ⟨gb229, 0, none⟩ = some (.int .i64 2) ∧ w'.cell? ⟨gb229, 1, none⟩ = some (.string (⟨#[]⟩ : ByteArray)) ∧ w'.cell? ⟨gb229, 2, none⟩ = some (.int .i64 0) ∧ w'.cell? ⟨gb230, 0, none⟩ = some (.int .i64 3) ∧ w'.cell? ⟨gb230, 1, none⟩ = some (.string (⟨#[]⟩ : ByteArray)) ∧ w'.cell? ⟨gb230, 2, none⟩ = some (.int .i64 0)) ∧ (Kd.R k44 44 w' w.heap.size (fun k_ => k_ ≠ gb229 ∧ k_ ≠ gb230) s_.1 y249) ∧ (Kd.R k38 38 w' w.heap.size (fun _ => True) s_.2.1 t252) ∧ (w'.heap[gb229]? = some (.cells #[.int .i64 2, .string (⟨#[]⟩ : ByteArray), .int .i64 0] 44 (0, 0))) ∧ (w'.heap[gb230]? = some (.cells #[.int .i64 3, .string (⟨#[]⟩ : ByteArray), .int .i64 0] 44 (0, 0))) ∧ (w'.heap[s_.2.2]? = some (.cells #[.int .i64 0, .int .i64 0] 26 (0, 0))) ∧ (w.heap.size ≤ s_.2.2) ∧ (w.heap.size ≤ s_.2.2) ∧ (gb229 ≠ s_.2.2) ∧ (s_.2.2 ≠ gb229) ∧ (gb230 ≠ s_.2.2) ∧ (s_.2.2 ≠ gb230) ∧ (Below w.heap.size w w')) ?_ ?_
           rotate_left
           ·intro hJ0_2_3_6_8_11_12_13_17
            refine join_ (σ := Value × Value) 3 #[true, true, true, true, true, true, true, true, true, true, true, true, true, true, true, true, true, false, false, false] (fun s_ => [(14, .agg #[.int .i64 t231, .string t232, .int .i64 t233]), (16, .agg #[.int .i64 t234, .string t235, .int .i64 t236]), (17, .agg #[.int .i64 t237, .string t238, .int .i64 t239]), (20, .agg #[.int .i64 t240, .string t241, .int .i64 t242]), (22, .agg #[.int .i64 t243, .string t244, .int .i64 t245]), (25, .agg #[.int .i64 t246, .string t247, .int .i64 t248]), (26, s_.1), (27, .tuple #[s_.2, .agg #[.int .i64 t255, .int .i64 t256]]), (13, .tuple #[s_.2, .agg #[.int .i64 t255, .int .i64 t256]]), (28, s_.2), (29, .agg #[.int .i64 t255, .int .i64 t256])]) (fun s_ w' => (w'.cell? ⟨gb229, 0, none⟩ = some (.int .i64 2) ∧ w'.cell? ⟨gb229, 1, none⟩ = some (.string (⟨#[]⟩ : ByteArray)) ∧ w'.cell? ⟨gb229, 2, none⟩ = some (.int .i64 0) ∧ w'.cell? ⟨gb230, 0, none⟩ = some (.int .i64 3) ∧ w'.cell? ⟨gb230, 1, none⟩ = some (.string (⟨#[]⟩ : ByteArray)) ∧ w'.cell? ⟨gb230, 2, none⟩ = some (.int .i64 0)) ∧ (Kd.R k44 44 w' w.heap.size (fun k_ => k_ ≠ gb229 ∧ k_ ≠ gb230) s_.1 y249) ∧ (Kd.R k38 38 w' w.heap.size (fun _ => True) s_.2 t252) ∧ (w'.heap[gb229]? = some (.cells #[.int .i64 2, .string (⟨#[]⟩ : ByteArray), .int .i64 0] 44 (0, 0))) ∧ (w'.heap[gb230]? = some (.cells #[.int .i64 3, .string (⟨#[]⟩ : ByteArray), .int .i64 0] 44 (0, 0))) ∧ (Below w.heap.size w w')) ?_ ?_
            rotate_left
            ·intro hJ0_2_3_6_8_11_12_13
             refine join_ (σ := Value × Nat) 6 #[true, true, true, true, true, true, true, true, true, true, true, true, true, false, false, false, false, true, false, false] (fun s_ => [(14, .agg #[.int .i64 t231, .string t232, .int .i64 t233]), (16, .agg #[.int .i64 t234, .string t235, .int .i64 t236]), (17, .agg #[.int .i64 t237, .string t238, .int .i64 t239]), (20, .agg #[.int .i64 t240, .string t241, .int .i64 t242]), (22, .agg #[.int .i64 t243, .string t244, .int .i64 t245]), (25, .agg #[.int .i64 t246, .string t247, .int .i64 t248]), (26, s_.1), (4, .pointer (some ⟨s_.2, 0, none⟩))]) (fun s_ w' => (w'.cell? ⟨gb229, 0, none⟩ = some (.int .i64 2) ∧ w'.cell? ⟨gb229, 1, none⟩ = some (.string (⟨#[]⟩ : ByteArray)) ∧ w'.cell? ⟨gb229, 2, none⟩ = some (.int .i64 0) ∧ w'.cell? ⟨gb230, 0, none⟩ = some (.int .i64 3) ∧ w'.cell? ⟨gb230, 1, none⟩ = some (.string (⟨#[]⟩ : ByteArray)) ∧ w'.cell? ⟨gb230, 2, none⟩ = some (.int .i64 0)) ∧ (Kd.R k44 44 w' w.heap.size (fun k_ => k_ ≠ gb229 ∧ k_ ≠ gb230) s_.1 y249) ∧ (w'.heap[gb229]? = some (.cells #[.int .i64 2, .string (⟨#[]⟩ : ByteArray), .int .i64 0] 44 (0, 0))) ∧ (w'.heap[gb230]? = some (.cells #[.int .i64 3, .string (⟨#[]⟩ : ByteArray), .int .i64 0] 44 (0, 0))) ∧ (w'.heap[s_.2]? = some (.cells #[.int .i64 0, .int .i64 0] 26 (0, 0))) ∧ (w.heap.size ≤ s_.2) ∧ (w.heap.size ≤ s_.2) ∧ (gb229 ≠ s_.2) ∧ (s_.2 ≠ gb229) ∧ (gb230 ≠ s_.2) ∧ (s_.2 ≠ gb230) ∧ (Below w.heap.size w w')) ?_ ?_
             rotate_left
             ·intro hJ0_2_3_6_8_11_12_17
              refine join_ (σ := Value) 7 #[true, true, true, true, true, true, true, true, true, true, true, true, true, false, false, false, false, false, false, false] (fun s_ => [(14, .agg #[.int .i64 t231, .string t232, .int .i64 t233]), (16, .agg #[.int .i64 t234, .string t235, .int .i64 t236]), (17, .agg #[.int .i64 t237, .string t238, .int .i64 t239]), (20, .agg #[.int .i64 t240, .string t241, .int .i64 t242]), (22, .agg #[.int .i64 t243, .string t244, .int .i64 t245]), (25, .agg #[.int .i64 t246, .string t247, .int .i64 t248]), (26, s_)]) (fun s_ w' => (w'.cell? ⟨gb229, 0, none⟩ = some (.int .i64 2) ∧ w'.cell? ⟨gb229, 1, none⟩ = some (.string (⟨#[]⟩ : ByteArray)) ∧ w'.cell? ⟨gb229, 2, none⟩ = some (.int .i64 0) ∧ w'.cell? ⟨gb230, 0, none⟩ = some (.int .i64 3) ∧ w'.cell? ⟨gb230, 1, none⟩ = some (.string (⟨#[]⟩ : ByteArray)) ∧ w'.cell? ⟨gb230, 2, none⟩ = some (.int .i64 0)) ∧ (Kd.R k44 44 w' w.heap.size (fun k_ => k_ ≠ gb229 ∧ k_ ≠ gb230) s_ y249) ∧ (w'.heap[gb229]? = some (.cells #[.int .i64 2, .string (⟨#[]⟩ : ByteArray), .int .i64 0] 44 (0, 0))) ∧ (w'.heap[gb230]? = some (.cells #[.int .i64 3, .string (⟨#[]⟩ : ByteArray), .int .i64 0] 44 (0, 0))) ∧ (Below w.heap.size w w')) ?_ ?_
              rotate_left
              ·intro hJ0_2_3_6_8_11_12
               refine join_ (σ := Nat) 7 #[true, true, true, true, true, true, true, true, true, true, true, true, false, false, false, false, false, true, false, false] (fun s_ => [(14, .agg #[.int .i64 t231, .string t232, .int .i64 t233]), (16, .agg #[.int .i64 t234, .string t235, .int .i64 t236]), (17, .agg #[.int .i64 t237, .string t238, .int .i64 t239]), (20, .agg #[.int .i64 t240, .string t241, .int .i64 t242]), (22, .agg #[.int .i64 t243, .string t244, .int .i64 t245]), (25, .agg #[.int .i64 t246, .string t247, .int .i64 t248]), (4, .pointer (some ⟨s_, 0, none⟩))]) (fun s_ w' => (w'.cell? ⟨gb229, 0, none⟩ = some (.int .i64 2) ∧ w'.cell? ⟨gb229, 1, none⟩ = some (.string (⟨#[]⟩ : ByteArray)) ∧ w'.cell? ⟨gb229, 2, none⟩ = some (.int .i64 0) ∧ w'.cell? ⟨gb230, 0, none⟩ = some (.int .i64 3) ∧ w'.cell? ⟨gb230, 1, none⟩ = some (.string (⟨#[]⟩ : ByteArray)) ∧ w'.cell? ⟨gb230, 2, none⟩ = some (.int .i64 0)) ∧ (w'.heap[gb229]? = some (.cells #[.int .i64 2, .string (⟨#[]⟩ : ByteArray), .int .i64 0] 44 (0, 0))) ∧ (w'.heap[gb230]? = some (.cells #[.int .i64 3, .string (⟨#[]⟩ : ByteArray), .int .i64 0] 44 (0, 0))) ∧ (w'.heap[s_]? = some (.cells #[.int .i64 0, .int .i64 0] 26 (0, 0))) ∧ (w.heap.size ≤ s_) ∧ (w.heap.size ≤ s_) ∧ (gb229 ≠ s_) ∧ (s_ ≠ gb229) ∧ (gb230 ≠ s_) ∧ (s_ ≠ gb230) ∧ (Below w.heap.size w w')) ?_ ?_
               rotate_left
               ·intro hJ0_2_3_6_8_11_17
                refine join_ (σ := Unit) 8 #[true, true, true, true, true, true, true, true, true, true, true, true, false, false, false, false, false, false, false, false] (fun s_ => [(14, .agg #[.int .i64 t231, .string t232, .int .i64 t233]), (16, .agg #[.int .i64 t234, .string t235, .int .i64 t236]), (17, .agg #[.int .i64 t237, .string t238, .int .i64 t239]), (20, .agg #[.int .i64 t240, .string t241, .int .i64 t242]), (22, .agg #[.int .i64 t243, .string t244, .int .i64 t245]), (25, .agg #[.int .i64 t246, .string t247, .int .i64 t248])]) (fun s_ w' => (w'.cell? ⟨gb229, 0, none⟩ = some (.int .i64 2) ∧ w'.cell? ⟨gb229, 1, none⟩ = some (.string (⟨#[]⟩ : ByteArray)) ∧ w'.cell? ⟨gb229, 2, none⟩ = some (.int .i64 0) ∧ w'.cell? ⟨gb230, 0, none⟩ = some (.int .i64 3) ∧ w'.cell? ⟨gb230, 1, none⟩ = some (.string (⟨#[]⟩ : ByteArray)) ∧ w'.cell? ⟨gb230, 2, none⟩ = some (.int .i64 0)) ∧ (w'.heap[gb229]? = some (.cells #[.int .i64 2, .string (⟨#[]⟩ : ByteArray), .int .i64 0] 44 (0, 0))) ∧ (w'.heap[gb230]? = some (.cells #[.int .i64 3, .string (⟨#[]⟩ : ByteArray), .int .i64 0] 44 (0, 0))) ∧ (Below w.heap.size w w')) ?_ ?_
                rotate_left
                ·intro hJ0_2_3_6_8_11
                 refine join_ (σ := Nat) 8 #[true, true, true, true, true, true, true, true, true, true, true, false, false, false, false, false, false, true, false, false] (fun s_ => [(14, .agg #[.int .i64 t231, .string t232, .int .i64 t233]), (16, .agg #[.int .i64 t234, .string t235, .int .i64 t236]), (17, .agg #[.int .i64 t237, .string t238, .int .i64 t239]), (20, .agg #[.int .i64 t240, .string t241, .int .i64 t242]), (22, .agg #[.int .i64 t243, .string t244, .int .i64 t245]), (4, .pointer (some ⟨s_, 0, none⟩))]) (fun s_ w' => (w'.cell? ⟨gb229, 0, none⟩ = some (.int .i64 2) ∧ w'.cell? ⟨gb229, 1, none⟩ = some (.string (⟨#[]⟩ : ByteArray)) ∧ w'.cell? ⟨gb229, 2, none⟩ = some (.int .i64 0) ∧ w'.cell? ⟨gb230, 0, none⟩ = some (.int .i64 3) ∧ w'.cell? ⟨gb230, 1, none⟩ = some (.string (⟨#[]⟩ : ByteArray)) ∧ w'.cell? ⟨gb230, 2, none⟩ = some (.int .i64 0)) ∧ (w'.heap[gb229]? = some (.cells #[.int .i64 2, .string (⟨#[]⟩ : ByteArray), .int .i64 0] 44 (0, 0))) ∧ (w'.heap[gb230]? = some (.cells #[.int .i64 3, .string (⟨#[]⟩ : ByteArray), .int .i64 0] 44 (0, 0))) ∧ (w'.heap[s_]? = some (.cells #[.int .i64 0, .int .i64 0] 26 (0, 0))) ∧ (w.heap.size ≤ s_) ∧ (w.heap.size ≤ s_) ∧ (gb229 ≠ s_) ∧ (s_ ≠ gb229) ∧ (gb230 ≠ s_) ∧ (s_ ≠ gb230) ∧ (Below w.heap.size w w')) ?_ ?_
                 rotate_left
                 ·intro hJ0_2_3_6_8_17
                  refine join_ (σ := Unit) 9 #[true, true, true, true, true, true, true, true, true, true, true, false, false, false, false, false, false, false, false, false] (fun s_ => [(14, .agg #[.int .i64 t231, .string t232, .int .i64 t233]), (16, .agg #[.int .i64 t234, .string t235, .int .i64 t236]), (17, .agg #[.int .i64 t237, .string t238, .int .i64 t239]), (20, .agg #[.int .i64 t240, .string t241, .int .i64 t242]), (22, .agg #[.int .i64 t243, .string t244, .int .i64 t245])]) (fun s_ w' => (w'.cell? ⟨gb229, 0, none⟩ = some (.int .i64 2) ∧ w'.cell? ⟨gb229, 1, none⟩ = some (.string (⟨#[]⟩ : ByteArray)) ∧ w'.cell? ⟨gb229, 2, none⟩ = some (.int .i64 0) ∧ w'.cell? ⟨gb230, 0, none⟩ = some (.int .i64 3) ∧ w'.cell? ⟨gb230, 1, none⟩ = some (.string (⟨#[]⟩ : ByteArray)) ∧ w'.cell? ⟨gb230, 2, none⟩ = some (.int .i64 0)) ∧ (w'.heap[gb229]? = some (.cells #[.int .i64 2, .string (⟨#[]⟩ : ByteArray), .int .i64 0] 44 (0, 0))) ∧ (w'.heap[gb230]? = some (.cells #[.int .i64 3, .string (⟨#[]⟩ : ByteArray), .int .i64 0] 44 (0, 0))) ∧ (Below w.heap.size w w')) ?_ ?_
                  rotate_left
                  ·intro hJ0_2_3_6_8
                   refine join_ (σ := Nat) 9 #[true, true, true, true, true, true, true, true, false, true, true, false, false, false, false, false, false, true, false, false] (fun s_ => [(14, .agg #[.int .i64 t231, .string t232, .int .i64 t233]), (16, .agg #[.int .i64 t234, .string t235, .int .i64 t236]), (17, .agg #[.int .i64 t237, .string t238, .int .i64 t239]), (20, .agg #[.int .i64 t240, .string t241, .int .i64 t242]), (4, .pointer (some ⟨s_, 0, none⟩))]) (fun s_ w' => (w'.cell? ⟨gb229, 0, none⟩ = some (.int .i64 2) ∧ w'.cell? ⟨gb229, 1, none⟩ = some (.string (⟨#[]⟩ : ByteArray)) ∧ w'.cell? ⟨gb229, 2, none⟩ = some (.int .i64 0) ∧ w'.cell? ⟨gb230, 0, none⟩ = some (.int .i64 3) ∧ w'.cell? ⟨gb230, 1, none⟩ = some (.string (⟨#[]⟩ : ByteArray)) ∧ w'.cell? ⟨gb230, 2, none⟩ = some (.int .i64 0)) ∧ (w'.heap[gb229]? = some (.cells #[.int .i64 2, .string (⟨#[]⟩ : ByteArray), .int .i64 0] 44 (0, 0))) ∧ (w'.heap[gb230]? = some (.cells #[.int .i64 3, .string (⟨#[]⟩ : ByteArray), .int .i64 0] 44 (0, 0))) ∧ (w'.heap[s_]? = some (.cells #[.int .i64 0, .int .i64 0] 26 (0, 0))) ∧ (w.heap.size ≤ s_) ∧ (w.heap.size ≤ s_) ∧ (gb229 ≠ s_) ∧ (s_ ≠ gb229) ∧ (gb230 ≠ s_) ∧ (s_ ≠ gb230) ∧ (Below w.heap.size w w')) ?_ ?_
                   rotate_left
                   ·intro hJ0_2_3_6_17
                    refine join_ (σ := Unit) 10 #[true, true, true, true, true, true, true, true, false, true, true, false, false, false, false, false, false, false, false, false] (fun s_ => [(14, .agg #[.int .i64 t231, .string t232, .int .i64 t233]), (16, .agg #[.int .i64 t234, .string t235, .int .i64 t236]), (17, .agg #[.int .i64 t237, .string t238, .int .i64 t239]), (20, .agg #[.int .i64 t240, .string t241, .int .i64 t242])]) (fun s_ w' => (w'.cell? ⟨gb229, 0, none⟩ = some (.int .i64 2) ∧ w'.cell? ⟨gb229, 1, none⟩ = some (.string (⟨#[]⟩ : ByteArray)) ∧ w'.cell? ⟨gb229, 2, none⟩ = some (.int .i64 0) ∧ w'.cell? ⟨gb230, 0, none⟩ = some (.int .i64 3) ∧ w'.cell? ⟨gb230, 1, none⟩ = some (.string (⟨#[]⟩ : ByteArray)) ∧ w'.cell? ⟨gb230, 2, none⟩ = some (.int .i64 0)) ∧ (w'.heap[gb229]? = some (.cells #[.int .i64 2, .string (⟨#[]⟩ : ByteArray), .int .i64 0] 44 (0, 0))) ∧ (w'.heap[gb230]? = some (.cells #[.int .i64 3, .string (⟨#[]⟩ : ByteArray), .int .i64 0] 44 (0, 0))) ∧ (Below w.heap.size w w')) ?_ ?_
                    rotate_left
                    ·intro hJ0_2_3_6
                     refine join_ (σ := Nat) 10 #[true, true, true, true, true, true, false, true, false, true, true, false, false, false, false, false, false, true, false, false] (fun s_ => [(14, .agg #[.int .i64 t231, .string t232, .int .i64 t233]), (16, .agg #[.int .i64 t234, .string t235, .int .i64 t236]), (17, .agg #[.int .i64 t237, .string t238, .int .i64 t239]), (4, .pointer (some ⟨s_, 0, none⟩))]) (fun s_ w' => (w'.cell? ⟨gb229, 0, none⟩ = some (.int .i64 2) ∧ w'.cell? ⟨gb229, 1, none⟩ = some (.string (⟨#[]⟩ : ByteArray)) ∧ w'.cell? ⟨gb229, 2, none⟩ = some (.int .i64 0) ∧ w'.cell? ⟨gb230, 0, none⟩ = some (.int .i64 3) ∧ w'.cell? ⟨gb230, 1, none⟩ = some (.string (⟨#[]⟩ : ByteArray)) ∧ w'.cell? ⟨gb230, 2, none⟩ = some (.int .i64 0)) ∧ (w'.heap[gb229]? = some (.cells #[.int .i64 2, .string (⟨#[]⟩ : ByteArray), .int .i64 0] 44 (0, 0))) ∧ (w'.heap[gb230]? = some (.cells #[.int .i64 3, .string (⟨#[]⟩ : ByteArray), .int .i64 0] 44 (0, 0))) ∧ (w'.heap[s_]? = some (.cells #[.int .i64 0, .int .i64 0] 26 (0, 0))) ∧ (w.heap.size ≤ s_) ∧ (w.heap.size ≤ s_) ∧ (gb229 ≠ s_) ∧ (s_ ≠ gb229) ∧ (gb230 ≠ s_) ∧ (s_ ≠ gb230) ∧ (Below w.heap.size w w')) ?_ ?_
                     rotate_left
                     ·intro hJ0_2_3_17
                      refine join_ (σ := Unit) 11 #[true, true, true, true, true, true, false, true, false, true, true, false, false, false, false, false, false, false, false, false] (fun s_ => [(14, .agg #[.int .i64 t231, .string t232, .int .i64 t233]), (16, .agg #[.int .i64 t234, .string t235, .int .i64 t236]), (17, .agg #[.int .i64 t237, .string t238, .int .i64 t239])]) (fun s_ w' => (w'.cell? ⟨gb229, 0, none⟩ = some (.int .i64 2) ∧ w'.cell? ⟨gb229, 1, none⟩ = some (.string (⟨#[]⟩ : ByteArray)) ∧ w'.cell? ⟨gb229, 2, none⟩ = some (.int .i64 0) ∧ w'.cell? ⟨gb230, 0, none⟩ = some (.int .i64 3) ∧ w'.cell? ⟨gb230, 1, none⟩ = some (.string (⟨#[]⟩ : ByteArray)) ∧ w'.cell? ⟨gb230, 2, none⟩ = some (.int .i64 0)) ∧ (w'.heap[gb229]? = some (.cells #[.int .i64 2, .string (⟨#[]⟩ : ByteArray), .int .i64 0] 44 (0, 0))) ∧ (w'.heap[gb230]? = some (.cells #[.int .i64 3, .string (⟨#[]⟩ : ByteArray), .int .i64 0] 44 (0, 0))) ∧ (Below w.heap.size w w')) ?_ ?_
                      rotate_left
                      ·intro hJ0_2_3
                       refine join_ (σ := Nat) 11 #[true, true, true, false, true, true, false, true, false, true, true, false, false, false, false, false, false, true, false, false] (fun s_ => [(14, .agg #[.int .i64 t231, .string t232, .int .i64 t233]), (16, .agg #[.int .i64 t234, .string t235, .int .i64 t236]), (4, .pointer (some ⟨s_, 0, none⟩))]) (fun s_ w' => (w'.cell? ⟨gb229, 0, none⟩ = some (.int .i64 2) ∧ w'.cell? ⟨gb229, 1, none⟩ = some (.string (⟨#[]⟩ : ByteArray)) ∧ w'.cell? ⟨gb229, 2, none⟩ = some (.int .i64 0) ∧ w'.cell? ⟨gb230, 0, none⟩ = some (.int .i64 3) ∧ w'.cell? ⟨gb230, 1, none⟩ = some (.string (⟨#[]⟩ : ByteArray)) ∧ w'.cell? ⟨gb230, 2, none⟩ = some (.int .i64 0)) ∧ (w'.heap[gb229]? = some (.cells #[.int .i64 2, .string (⟨#[]⟩ : ByteArray), .int .i64 0] 44 (0, 0))) ∧ (w'.heap[gb230]? = some (.cells #[.int .i64 3, .string (⟨#[]⟩ : ByteArray), .int .i64 0] 44 (0, 0))) ∧ (w'.heap[s_]? = some (.cells #[.int .i64 0, .int .i64 0] 26 (0, 0))) ∧ (w.heap.size ≤ s_) ∧ (w.heap.size ≤ s_) ∧ (gb229 ≠ s_) ∧ (s_ ≠ gb229) ∧ (gb230 ≠ s_) ∧ (s_ ≠ gb230) ∧ (Below w.heap.size w w')) ?_ ?_
                       rotate_left
                       ·intro hJ0_2_17
                        refine join_ (σ := Unit) 12 #[true, true, true, false, true, true, false, true, false, true, true, false, false, false, false, false, false, false, false, false] (fun s_ => [(14, .agg #[.int .i64 t231, .string t232, .int .i64 t233]), (16, .agg #[.int .i64 t234, .string t235, .int .i64 t236])]) (fun s_ w' => (w'.cell? ⟨gb229, 0, none⟩ = some (.int .i64 2) ∧ w'.cell? ⟨gb229, 1, none⟩ = some (.string (⟨#[]⟩ : ByteArray)) ∧ w'.cell? ⟨gb229, 2, none⟩ = some (.int .i64 0) ∧ w'.cell? ⟨gb230, 0, none⟩ = some (.int .i64 3) ∧ w'.cell? ⟨gb230, 1, none⟩ = some (.string (⟨#[]⟩ : ByteArray)) ∧ w'.cell? ⟨gb230, 2, none⟩ = some (.int .i64 0)) ∧ (w'.heap[gb229]? = some (.cells #[.int .i64 2, .string (⟨#[]⟩ : ByteArray), .int .i64 0] 44 (0, 0))) ∧ (w'.heap[gb230]? = some (.cells #[.int .i64 3, .string (⟨#[]⟩ : ByteArray), .int .i64 0] 44 (0, 0))) ∧ (Below w.heap.size w w')) ?_ ?_
                        rotate_left
                        ·intro hJ0_2
                         refine join_ (σ := Nat) 12 #[true, true, false, false, true, true, false, true, false, true, true, false, false, false, false, false, false, true, false, false] (fun s_ => [(14, .agg #[.int .i64 t231, .string t232, .int .i64 t233]), (4, .pointer (some ⟨s_, 0, none⟩))]) (fun s_ w' => (w'.cell? ⟨gb229, 0, none⟩ = some (.int .i64 2) ∧ w'.cell? ⟨gb229, 1, none⟩ = some (.string (⟨#[]⟩ : ByteArray)) ∧ w'.cell? ⟨gb229, 2, none⟩ = some (.int .i64 0) ∧ w'.cell? ⟨gb230, 0, none⟩ = some (.int .i64 3) ∧ w'.cell? ⟨gb230, 1, none⟩ = some (.string (⟨#[]⟩ : ByteArray)) ∧ w'.cell? ⟨gb230, 2, none⟩ = some (.int .i64 0)) ∧ (w'.heap[gb229]? = some (.cells #[.int .i64 2, .string (⟨#[]⟩ : ByteArray), .int .i64 0] 44 (0, 0))) ∧ (w'.heap[gb230]? = some (.cells #[.int .i64 3, .string (⟨#[]⟩ : ByteArray), .int .i64 0] 44 (0, 0))) ∧ (w'.heap[s_]? = some (.cells #[.int .i64 0, .int .i64 0] 26 (0, 0))) ∧ (w.heap.size ≤ s_) ∧ (w.heap.size ≤ s_) ∧ (gb229 ≠ s_) ∧ (s_ ≠ gb229) ∧ (gb230 ≠ s_) ∧ (s_ ≠ gb230) ∧ (Below w.heap.size w w')) ?_ ?_
                         rotate_left
                         ·intro hJ0_17
                          refine join_ (σ := Unit) 13 #[true, true, false, false, true, true, false, true, false, true, true, false, false, false, false, false, false, false, false, false] (fun s_ => [(14, .agg #[.int .i64 t231, .string t232, .int .i64 t233])]) (fun s_ w' => (w'.cell? ⟨gb229, 0, none⟩ = some (.int .i64 2) ∧ w'.cell? ⟨gb229, 1, none⟩ = some (.string (⟨#[]⟩ : ByteArray)) ∧ w'.cell? ⟨gb229, 2, none⟩ = some (.int .i64 0) ∧ w'.cell? ⟨gb230, 0, none⟩ = some (.int .i64 3) ∧ w'.cell? ⟨gb230, 1, none⟩ = some (.string (⟨#[]⟩ : ByteArray)) ∧ w'.cell? ⟨gb230, 2, none⟩ = some (.int .i64 0)) ∧ (w'.heap[gb229]? = some (.cells #[.int .i64 2, .string (⟨#[]⟩ : ByteArray), .int .i64 0] 44 (0, 0))) ∧ (w'.heap[gb230]? = some (.cells #[.int .i64 3, .string (⟨#[]⟩ : ByteArray), .int .i64 0] 44 (0, 0))) ∧ (Below w.heap.size w w')) ?_ ?_
                          rotate_left
                          ·intro hJ0
                           refine join_ (σ := Nat) 13 #[false, true, false, false, true, true, false, true, false, true, true, false, false, false, false, false, false, true, false, false] (fun s_ => [(4, .pointer (some ⟨s_, 0, none⟩))]) (fun s_ w' => (w'.cell? ⟨gb229, 0, none⟩ = some (.int .i64 2) ∧ w'.cell? ⟨gb229, 1, none⟩ = some (.string (⟨#[]⟩ : ByteArray)) ∧ w'.cell? ⟨gb229, 2, none⟩ = some (.int .i64 0) ∧ w'.cell? ⟨gb230, 0, none⟩ = some (.int .i64 3) ∧ w'.cell? ⟨gb230, 1, none⟩ = some (.string (⟨#[]⟩ : ByteArray)) ∧ w'.cell? ⟨gb230, 2, none⟩ = some (.int .i64 0)) ∧ (w'.heap[gb229]? = some (.cells #[.int .i64 2, .string (⟨#[]⟩ : ByteArray), .int .i64 0] 44 (0, 0))) ∧ (w'.heap[gb230]? = some (.cells #[.int .i64 3, .string (⟨#[]⟩ : ByteArray), .int .i64 0] 44 (0, 0))) ∧ (w'.heap[s_]? = some (.cells #[.int .i64 0, .int .i64 0] 26 (0, 0))) ∧ (w.heap.size ≤ s_) ∧ (w.heap.size ≤ s_) ∧ (gb229 ≠ s_) ∧ (s_ ≠ gb229) ∧ (gb230 ≠ s_) ∧ (s_ ≠ gb230) ∧ (Below w.heap.size w w')) ?_ ?_
                           rotate_left
                           ·intro hJ17
                            refine two_ (i := 0) (j := 17) (Ni := some 14) (Nj := some 4) #[true, true, false, false, true, true, false, true, false, true, true, false, false, false, false, false, false, false, false, false] #[false, true, false, false, true, true, false, true, false, true, true, false, false, false, false, false, false, true, false, false] rfl rfl rfl rfl (two_of HT_.out (by kernel_rfl)) (by decide) (by decide) (fun K hK => ?_) (fun K hK => ?_)
                            ·skip
                             refine goes_ Try.func23 (by kernel_rfl) rfl #[.string (⟨#[101, 100]⟩ : ByteArray)] (by rfl) rfl rfl (by (try simp only [List.map_toArray, List.map_cons, List.map_nil]); first | done | rfl | (simp only [List.length_drop, List.length_take]; rfl)) ?_
                             with_reducible refine (variorumlaw06_command.calls (⟨#[101, 100]⟩ : ByteArray) t231 t232 t233 _ A1.out).mono ?_
                             rintro e w32 ⟨rfl, hb⟩
                             refine ⟨_, rfl, ?_⟩
                             have n0_ := am (bB (g := gb229) (o := .cells #[.int .i64 2, .string (⟨#[]⟩ : ByteArray), .int .i64 0] 44 (0, 0)) (by (with_reducible repeat (first | refine bN ?_ _ | refine bD ?_ | refine bA ?_ _)); exact BK229.out) hb)
                             have n1_ := am (bB (g := gb230) (o := .cells #[.int .i64 3, .string (⟨#[]⟩ : ByteArray), .int .i64 0] 44 (0, 0)) (by (with_reducible repeat (first | refine bN ?_ _ | refine bD ?_ | refine bA ?_ _)); exact BK230.out) hb)
                             have n2_ := am (below_step (by repeat (with_reducible first | exact HB.out | apply lA | apply lN | apply lD | refine lS ?_ GE229.out | refine lS ?_ GE230.out)) hb)
                             clear BK229
                             clear BK230
                             clear HB
                             have BK229 := n0_
                             have BK230 := n1_
                             have HB := n2_
                             clear n0_ n1_ n2_
                             (try clear hb)
                             (try clear hb2)
                             (try clear hk)
                             (try clear hi)
                             refine hK.out _ _ ⟨(bC BK229.out 0).trans rfl, (bC BK229.out 1).trans rfl, (bC BK229.out 2).trans rfl, (bC BK230.out 0).trans rfl, (bC BK230.out 1).trans rfl, (bC BK230.out 2).trans rfl⟩ (fun hHeld => ?_)
                             clear hK K
                             refine norm_ (a' := ?_) ?_ ?_
                             rotate_left
                             ·show Act.put _ (some 14) _ = _
                              simp only [Act.put, List.setIfInBounds_toArray, List.set_cons_zero, List.set_cons_succ, i64_w, i32_w]
                              rfl
                             exact norm_ (by first | (simp only [putAll, Act.put, List.setIfInBounds_toArray, List.set_cons_zero, List.set_cons_succ]; done) | (simp only [putAll, Act.put, List.setIfInBounds_toArray, List.set_cons_zero, List.set_cons_succ]; rfl)) (hJ0 () _ ⟨hHeld, (by (with_reducible repeat (first | refine bN ?_ _ | refine bD ?_ | refine bA ?_ _)); exact BK229.out), (by (with_reducible repeat (first | refine bN ?_ _ | refine bD ?_ | refine bA ?_ _)); exact BK230.out), (by repeat (with_reducible first | exact HB.out | apply lA | apply lN | apply lD | refine lS ?_ GE229.out | refine lS ?_ GE230.out))⟩)
                            ·skip
                             refine box_step ?hg (N := 4) ?hd (cs := #[.int .i64 0, .int .i64 0]) (t := 26) ?hr ?_; (case hd => rfl); (case hg => rfl); (case hr => first | (go_simp; done) | (go_simp; rfl))
                             intro gb257 hg w32 hbox hb
                             have n0_ := am (bB (g := gb229) (o := .cells #[.int .i64 2, .string (⟨#[]⟩ : ByteArray), .int .i64 0] 44 (0, 0)) (by (with_reducible repeat (first | refine bN ?_ _ | refine bD ?_ | refine bA ?_ _)); exact BK229.out) hb)
                             have n1_ := am (bB (g := gb230) (o := .cells #[.int .i64 3, .string (⟨#[]⟩ : ByteArray), .int .i64 0] 44 (0, 0)) (by (with_reducible repeat (first | refine bN ?_ _ | refine bD ?_ | refine bA ?_ _)); exact BK230.out) hb)
                             have n2_ := am (below_step (by repeat (with_reducible first | exact HB.out | apply lA | apply lN | apply lD | refine lS ?_ GE229.out | refine lS ?_ GE230.out)) hb)
                             have n3_ := am (hbox)
                             have n4_ := am ((by rw [hg]; exact (below_size (by repeat (with_reducible first | exact HB.out | apply lA | apply lN | apply lD | refine lS ?_ GE229.out | refine lS ?_ GE230.out))) : w.heap.size ≤ gb257))
                             have n5_ := am ((by rw [hg]; exact (below_size (by repeat (with_reducible first | exact HB.out | apply lA | apply lN | apply lD | refine lS ?_ GE229.out | refine lS ?_ GE230.out))) : w.heap.size ≤ gb257))
                             have n6_ := am ((by rw [hg]; exact Nat.ne_of_lt (blk_lt (g := gb229) (o := .cells #[.int .i64 2, .string (⟨#[]⟩ : ByteArray), .int .i64 0] 44 (0, 0)) (by (with_reducible repeat (first | refine bN ?_ _ | refine bD ?_ | refine bA ?_ _)); exact BK229.out)) : gb229 ≠ gb257))
                             have n7_ := am ((by rw [hg]; exact Nat.ne_of_gt (blk_lt (g := gb229) (o := .cells #[.int .i64 2, .string (⟨#[]⟩ : ByteArray), .int .i64 0] 44 (0, 0)) (by (with_reducible repeat (first | refine bN ?_ _ | refine bD ?_ | refine bA ?_ _)); exact BK229.out)) : gb257 ≠ gb229))
                             have n8_ := am ((by rw [hg]; exact Nat.ne_of_lt (blk_lt (g := gb230) (o := .cells #[.int .i64 3, .string (⟨#[]⟩ : ByteArray), .int .i64 0] 44 (0, 0)) (by (with_reducible repeat (first | refine bN ?_ _ | refine bD ?_ | refine bA ?_ _)); exact BK230.out)) : gb230 ≠ gb257))
                             have n9_ := am ((by rw [hg]; exact Nat.ne_of_gt (blk_lt (g := gb230) (o := .cells #[.int .i64 3, .string (⟨#[]⟩ : ByteArray), .int .i64 0] 44 (0, 0)) (by (with_reducible repeat (first | refine bN ?_ _ | refine bD ?_ | refine bA ?_ _)); exact BK230.out)) : gb257 ≠ gb230))
                             clear BK229
                             clear BK230
                             clear HB
                             have BK229 := n0_
                             have BK230 := n1_
                             have HB := n2_
                             have BK257 := n3_
                             have GW257 := n4_
                             have GE257 := n5_
                             have NB229_257 := n6_
                             have NB257_229 := n7_
                             have NB230_257 := n8_
                             have NB257_230 := n9_
                             clear n0_ n1_ n2_ n3_ n4_ n5_ n6_ n7_ n8_ n9_
                             clear hb hbox hg
                             refine hK.out _ _ ⟨(bC BK229.out 0).trans rfl, (bC BK229.out 1).trans rfl, (bC BK229.out 2).trans rfl, (bC BK230.out 0).trans rfl, (bC BK230.out 1).trans rfl, (bC BK230.out 2).trans rfl⟩ (fun hHeld => ?_)
                             clear hK K
                             refine norm_ (a' := ?_) ?_ ?_
                             rotate_left
                             ·show Act.put _ (some 4) _ = _
                              simp only [Act.put, List.setIfInBounds_toArray, List.set_cons_zero, List.set_cons_succ, i64_w, i32_w]
                              rfl
                             exact norm_ (by first | (simp only [putAll, Act.put, List.setIfInBounds_toArray, List.set_cons_zero, List.set_cons_succ]; done) | (simp only [putAll, Act.put, List.setIfInBounds_toArray, List.set_cons_zero, List.set_cons_succ]; rfl)) (hJ17 (gb257) _ ⟨hHeld, (by (with_reducible repeat (first | refine bN ?_ _ | refine bD ?_ | refine bA ?_ _)); exact BK229.out), (by (with_reducible repeat (first | refine bN ?_ _ | refine bD ?_ | refine bA ?_ _)); exact BK230.out), (by (with_reducible repeat (first | refine bN ?_ _ | refine bD ?_ | refine bA ?_ _)); exact BK257.out), GW257.out, GE257.out, NB229_257.out, NB257_229.out, NB230_257.out, NB257_230.out, (by repeat (with_reducible first | exact HB.out | apply lA | apply lN | apply lD | refine lS ?_ GE229.out | refine lS ?_ GE230.out | refine lS ?_ GE257.out))⟩)
                           ·skip
                            rintro gb257 w33 ⟨hS_, h0_, h1_, h2_, h3_, h4_, h5_, h6_, h7_, h8_, h9_⟩
                            have n0_ : Aside0 (w33.heap[gb229]? = some (.cells #[.int .i64 2, .string (⟨#[]⟩ : ByteArray), .int .i64 0] 44 (0, 0))) := ⟨h0_⟩
                            have n1_ : Aside0 (w33.heap[gb230]? = some (.cells #[.int .i64 3, .string (⟨#[]⟩ : ByteArray), .int .i64 0] 44 (0, 0))) := ⟨h1_⟩
                            have n2_ : Aside0 (w33.heap[gb257]? = some (.cells #[.int .i64 0, .int .i64 0] 26 (0, 0))) := ⟨h2_⟩
                            have n3_ : Aside0 (w.heap.size ≤ gb257) := ⟨h3_⟩
                            have n4_ : Aside0 (w.heap.size ≤ gb257) := ⟨h4_⟩
                            have n5_ : Aside0 (gb229 ≠ gb257) := ⟨h5_⟩
                            have n6_ : Aside0 (gb257 ≠ gb229) := ⟨h6_⟩
                            have n7_ : Aside0 (gb230 ≠ gb257) := ⟨h7_⟩
                            have n8_ : Aside0 (gb257 ≠ gb230) := ⟨h8_⟩
                            have n9_ : Aside0 (Below w.heap.size w w33) := ⟨h9_⟩
                            clear BK229
                            clear BK230
                            clear HB
                            clear h0_ h1_ h2_ h3_ h4_ h5_ h6_ h7_ h8_ h9_
                            have BK229 := n0_
                            have BK230 := n1_
                            have BK257 := n2_
                            have GW257 := n3_
                            have GE257 := n4_
                            have NB229_257 := n5_
                            have NB257_229 := n6_
                            have NB230_257 := n7_
                            have NB257_230 := n8_
                            have HB := n9_
                            clear n0_ n1_ n2_ n3_ n4_ n5_ n6_ n7_ n8_ n9_
                            have hHeld : w33.cell? ⟨gb229, 0, none⟩ = some (.int .i64 2) ∧ w33.cell? ⟨gb229, 1, none⟩ = some (.string (⟨#[]⟩ : ByteArray)) ∧ w33.cell? ⟨gb229, 2, none⟩ = some (.int .i64 0) ∧ w33.cell? ⟨gb230, 0, none⟩ = some (.int .i64 3) ∧ w33.cell? ⟨gb230, 1, none⟩ = some (.string (⟨#[]⟩ : ByteArray)) ∧ w33.cell? ⟨gb230, 2, none⟩ = some (.int .i64 0) := hS_
                            refine norm_ (a' := ?_) ?_ ?_
                            rotate_left
                            ·simp only [putAll, Act.put, List.setIfInBounds_toArray, List.set_cons_zero, List.set_cons_succ]
                             rfl
                            refine one_ (i := 0) (N := some 14) #[true, true, false, false, true, true, false, true, false, true, true, false, false, false, false, false, false, true, false, false] rfl rfl (one_of HT_.out (by kernel_rfl)) (by decide) (fun K hK => ?_)
                            refine goes_ Try.func23 (by kernel_rfl) rfl #[.string (⟨#[101, 100]⟩ : ByteArray)] (by rfl) rfl rfl (by (try simp only [List.map_toArray, List.map_cons, List.map_nil]); first | done | rfl | (simp only [List.length_drop, List.length_take]; rfl)) ?_
                            with_reducible refine (variorumlaw06_command.calls (⟨#[101, 100]⟩ : ByteArray) t231 t232 t233 _ A1.out).mono ?_
                            rintro e w34 ⟨rfl, hb⟩
                            refine ⟨_, rfl, ?_⟩
                            have n0_ := am (bB (g := gb229) (o := .cells #[.int .i64 2, .string (⟨#[]⟩ : ByteArray), .int .i64 0] 44 (0, 0)) (by (with_reducible repeat (first | refine bN ?_ _ | refine bD ?_ | refine bA ?_ _)); exact BK229.out) hb)
                            have n1_ := am (bB (g := gb230) (o := .cells #[.int .i64 3, .string (⟨#[]⟩ : ByteArray), .int .i64 0] 44 (0, 0)) (by (with_reducible repeat (first | refine bN ?_ _ | refine bD ?_ | refine bA ?_ _)); exact BK230.out) hb)
                            have n2_ := am (bB (g := gb257) (o := .cells #[.int .i64 0, .int .i64 0] 26 (0, 0)) (by (with_reducible repeat (first | refine bN ?_ _ | refine bD ?_ | refine bA ?_ _)); exact BK257.out) hb)
                            have n3_ := am (below_step (by repeat (with_reducible first | exact HB.out | apply lA | apply lN | apply lD | refine lS ?_ GE229.out | refine lS ?_ GE230.out | refine lS ?_ GE257.out)) hb)
                            clear BK229
                            clear BK230
                            clear BK257
                            clear HB
                            have BK229 := n0_
                            have BK230 := n1_
                            have BK257 := n2_
                            have HB := n3_
                            clear n0_ n1_ n2_ n3_
                            (try clear hb)
                            (try clear hb2)
                            (try clear hk)
                            (try clear hi)
                            refine hK.out _ _ ⟨(bC BK229.out 0).trans rfl, (bC BK229.out 1).trans rfl, (bC BK229.out 2).trans rfl, (bC BK230.out 0).trans rfl, (bC BK230.out 1).trans rfl, (bC BK230.out 2).trans rfl⟩ (fun hHeld => ?_)
                            clear hK K
                            refine norm_ (a' := ?_) ?_ ?_
                            rotate_left
                            ·show Act.put _ (some 14) _ = _
                             simp only [Act.put, List.setIfInBounds_toArray, List.set_cons_zero, List.set_cons_succ, i64_w, i32_w]
                             rfl
                            exact norm_ (by first | (simp only [putAll, Act.put, List.setIfInBounds_toArray, List.set_cons_zero, List.set_cons_succ]; done) | (simp only [putAll, Act.put, List.setIfInBounds_toArray, List.set_cons_zero, List.set_cons_succ]; rfl)) (hJ0_17 (gb257) _ ⟨hHeld, (by (with_reducible repeat (first | refine bN ?_ _ | refine bD ?_ | refine bA ?_ _)); exact BK229.out), (by (with_reducible repeat (first | refine bN ?_ _ | refine bD ?_ | refine bA ?_ _)); exact BK230.out), (by (with_reducible repeat (first | refine bN ?_ _ | refine bD ?_ | refine bA ?_ _)); exact BK257.out), GW257.out, GE257.out, NB229_257.out, NB257_229.out, NB230_257.out, NB257_230.out, (by repeat (with_reducible first | exact HB.out | apply lA | apply lN | apply lD | refine lS ?_ GE229.out | refine lS ?_ GE230.out | refine lS ?_ GE257.out))⟩)
                          ·skip
                           rintro _ w33 ⟨hS_, h0_, h1_, h2_⟩
                           have n0_ : Aside0 (w33.heap[gb229]? = some (.cells #[.int .i64 2, .string (⟨#[]⟩ : ByteArray), .int .i64 0] 44 (0, 0))) := ⟨h0_⟩
                           have n1_ : Aside0 (w33.heap[gb230]? = some (.cells #[.int .i64 3, .string (⟨#[]⟩ : ByteArray), .int .i64 0] 44 (0, 0))) := ⟨h1_⟩
                           have n2_ : Aside0 (Below w.heap.size w w33) := ⟨h2_⟩
                           clear BK229
                           clear BK230
                           clear HB
                           clear h0_ h1_ h2_
                           have BK229 := n0_
                           have BK230 := n1_
                           have HB := n2_
                           clear n0_ n1_ n2_
                           have hHeld : w33.cell? ⟨gb229, 0, none⟩ = some (.int .i64 2) ∧ w33.cell? ⟨gb229, 1, none⟩ = some (.string (⟨#[]⟩ : ByteArray)) ∧ w33.cell? ⟨gb229, 2, none⟩ = some (.int .i64 0) ∧ w33.cell? ⟨gb230, 0, none⟩ = some (.int .i64 3) ∧ w33.cell? ⟨gb230, 1, none⟩ = some (.string (⟨#[]⟩ : ByteArray)) ∧ w33.cell? ⟨gb230, 2, none⟩ = some (.int .i64 0) := hS_
                           refine norm_ (a' := ?_) ?_ ?_
                           rotate_left
                           ·simp only [putAll, Act.put, List.setIfInBounds_toArray, List.set_cons_zero, List.set_cons_succ]
                            rfl
                           refine two_ (i := 2) (j := 17) (Ni := some 16) (Nj := some 4) #[true, true, true, false, true, true, false, true, false, true, true, false, false, false, false, false, false, false, false, false] #[true, true, false, false, true, true, false, true, false, true, true, false, false, false, false, false, false, true, false, false] rfl rfl rfl rfl (two_of HT_.out (by kernel_rfl)) (by decide) (by decide) (fun K hK => ?_) (fun K hK => ?_)
                           ·skip
                            refine goes_ Try.func24 (by kernel_rfl) rfl #[.string (⟨#[97]⟩ : ByteArray)] (by rfl) rfl rfl (by (try simp only [List.map_toArray, List.map_cons, List.map_nil]); first | done | rfl | (simp only [List.length_drop, List.length_take]; rfl)) ?_
                            with_reducible refine (variorumlaw06_word.calls (⟨#[97]⟩ : ByteArray) t234 t235 t236 _ A2.out).mono ?_
                            rintro e w34 ⟨rfl, hb⟩
                            refine ⟨_, rfl, ?_⟩
                            have n0_ := am (bB (g := gb229) (o := .cells #[.int .i64 2, .string (⟨#[]⟩ : ByteArray), .int .i64 0] 44 (0, 0)) (by (with_reducible repeat (first | refine bN ?_ _ | refine bD ?_ | refine bA ?_ _)); exact BK229.out) hb)
                            have n1_ := am (bB (g := gb230) (o := .cells #[.int .i64 3, .string (⟨#[]⟩ : ByteArray), .int .i64 0] 44 (0, 0)) (by (with_reducible repeat (first | refine bN ?_ _ | refine bD ?_ | refine bA ?_ _)); exact BK230.out) hb)
                            have n2_ := am (below_step (by repeat (with_reducible first | exact HB.out | apply lA | apply lN | apply lD | refine lS ?_ GE229.out | refine lS ?_ GE230.out)) hb)
                            clear BK229
                            clear BK230
                            clear HB
                            have BK229 := n0_
                            have BK230 := n1_
                            have HB := n2_
                            clear n0_ n1_ n2_
                            (try clear hb)
                            (try clear hb2)
                            (try clear hk)
                            (try clear hi)
                            refine hK.out _ _ ⟨(bC BK229.out 0).trans rfl, (bC BK229.out 1).trans rfl, (bC BK229.out 2).trans rfl, (bC BK230.out 0).trans rfl, (bC BK230.out 1).trans rfl, (bC BK230.out 2).trans rfl⟩ (fun hHeld => ?_)
                            clear hK K
                            refine norm_ (a' := ?_) ?_ ?_
                            rotate_left
                            ·show Act.put _ (some 16) _ = _
                             simp only [Act.put, List.setIfInBounds_toArray, List.set_cons_zero, List.set_cons_succ, i64_w, i32_w]
                             rfl
                            exact norm_ (by first | (simp only [putAll, Act.put, List.setIfInBounds_toArray, List.set_cons_zero, List.set_cons_succ]; done) | (simp only [putAll, Act.put, List.setIfInBounds_toArray, List.set_cons_zero, List.set_cons_succ]; rfl)) (hJ0_2 () _ ⟨hHeld, (by (with_reducible repeat (first | refine bN ?_ _ | refine bD ?_ | refine bA ?_ _)); exact BK229.out), (by (with_reducible repeat (first | refine bN ?_ _ | refine bD ?_ | refine bA ?_ _)); exact BK230.out), (by repeat (with_reducible first | exact HB.out | apply lA | apply lN | apply lD | refine lS ?_ GE229.out | refine lS ?_ GE230.out))⟩)
                           ·skip
                            refine box_step ?hg (N := 4) ?hd (cs := #[.int .i64 0, .int .i64 0]) (t := 26) ?hr ?_; (case hd => rfl); (case hg => rfl); (case hr => first | (go_simp; done) | (go_simp; rfl))
                            intro gb257 hg w34 hbox hb
                            have n0_ := am (bB (g := gb229) (o := .cells #[.int .i64 2, .string (⟨#[]⟩ : ByteArray), .int .i64 0] 44 (0, 0)) (by (with_reducible repeat (first | refine bN ?_ _ | refine bD ?_ | refine bA ?_ _)); exact BK229.out) hb)
                            have n1_ := am (bB (g := gb230) (o := .cells #[.int .i64 3, .string (⟨#[]⟩ : ByteArray), .int .i64 0] 44 (0, 0)) (by (with_reducible repeat (first | refine bN ?_ _ | refine bD ?_ | refine bA ?_ _)); exact BK230.out) hb)
                            have n2_ := am (below_step (by repeat (with_reducible first | exact HB.out | apply lA | apply lN | apply lD | refine lS ?_ GE229.out | refine lS ?_ GE230.out)) hb)
                            have n3_ := am (hbox)
                            have n4_ := am ((by rw [hg]; exact (below_size (by repeat (with_reducible first | exact HB.out | apply lA | apply lN | apply lD | refine lS ?_ GE229.out | refine lS ?_ GE230.out))) : w.heap.size ≤ gb257))
                            have n5_ := am ((by rw [hg]; exact (below_size (by repeat (with_reducible first | exact HB.out | apply lA | apply lN | apply lD | refine lS ?_ GE229.out | refine lS ?_ GE230.out))) : w.heap.size ≤ gb257))
                            have n6_ := am ((by rw [hg]; exact Nat.ne_of_lt (blk_lt (g := gb229) (o := .cells #[.int .i64 2, .string (⟨#[]⟩ : ByteArray), .int .i64 0] 44 (0, 0)) (by (with_reducible repeat (first | refine bN ?_ _ | refine bD ?_ | refine bA ?_ _)); exact BK229.out)) : gb229 ≠ gb257))
                            have n7_ := am ((by rw [hg]; exact Nat.ne_of_gt (blk_lt (g := gb229) (o := .cells #[.int .i64 2, .string (⟨#[]⟩ : ByteArray), .int .i64 0] 44 (0, 0)) (by (with_reducible repeat (first | refine bN ?_ _ | refine bD ?_ | refine bA ?_ _)); exact BK229.out)) : gb257 ≠ gb229))
                            have n8_ := am ((by rw [hg]; exact Nat.ne_of_lt (blk_lt (g := gb230) (o := .cells #[.int .i64 3, .string (⟨#[]⟩ : ByteArray), .int .i64 0] 44 (0, 0)) (by (with_reducible repeat (first | refine bN ?_ _ | refine bD ?_ | refine bA ?_ _)); exact BK230.out)) : gb230 ≠ gb257))
                            have n9_ := am ((by rw [hg]; exact Nat.ne_of_gt (blk_lt (g := gb230) (o := .cells #[.int .i64 3, .string (⟨#[]⟩ : ByteArray), .int .i64 0] 44 (0, 0)) (by (with_reducible repeat (first | refine bN ?_ _ | refine bD ?_ | refine bA ?_ _)); exact BK230.out)) : gb257 ≠ gb230))
                            clear BK229
                            clear BK230
                            clear HB
                            have BK229 := n0_
                            have BK230 := n1_
                            have HB := n2_
                            have BK257 := n3_
                            have GW257 := n4_
                            have GE257 := n5_
                            have NB229_257 := n6_
                            have NB257_229 := n7_
                            have NB230_257 := n8_
                            have NB257_230 := n9_
                            clear n0_ n1_ n2_ n3_ n4_ n5_ n6_ n7_ n8_ n9_
                            clear hb hbox hg
                            refine hK.out _ _ ⟨(bC BK229.out 0).trans rfl, (bC BK229.out 1).trans rfl, (bC BK229.out 2).trans rfl, (bC BK230.out 0).trans rfl, (bC BK230.out 1).trans rfl, (bC BK230.out 2).trans rfl⟩ (fun hHeld => ?_)
                            clear hK K
                            refine norm_ (a' := ?_) ?_ ?_
                            rotate_left
                            ·show Act.put _ (some 4) _ = _
                             simp only [Act.put, List.setIfInBounds_toArray, List.set_cons_zero, List.set_cons_succ, i64_w, i32_w]
                             rfl
                            exact norm_ (by first | (simp only [putAll, Act.put, List.setIfInBounds_toArray, List.set_cons_zero, List.set_cons_succ]; done) | (simp only [putAll, Act.put, List.setIfInBounds_toArray, List.set_cons_zero, List.set_cons_succ]; rfl)) (hJ0_17 (gb257) _ ⟨hHeld, (by (with_reducible repeat (first | refine bN ?_ _ | refine bD ?_ | refine bA ?_ _)); exact BK229.out), (by (with_reducible repeat (first | refine bN ?_ _ | refine bD ?_ | refine bA ?_ _)); exact BK230.out), (by (with_reducible repeat (first | refine bN ?_ _ | refine bD ?_ | refine bA ?_ _)); exact BK257.out), GW257.out, GE257.out, NB229_257.out, NB257_229.out, NB230_257.out, NB257_230.out, (by repeat (with_reducible first | exact HB.out | apply lA | apply lN | apply lD | refine lS ?_ GE229.out | refine lS ?_ GE230.out | refine lS ?_ GE257.out))⟩)
                         ·skip
                          rintro gb257 w34 ⟨hS_, h0_, h1_, h2_, h3_, h4_, h5_, h6_, h7_, h8_, h9_⟩
                          have n0_ : Aside0 (w34.heap[gb229]? = some (.cells #[.int .i64 2, .string (⟨#[]⟩ : ByteArray), .int .i64 0] 44 (0, 0))) := ⟨h0_⟩
                          have n1_ : Aside0 (w34.heap[gb230]? = some (.cells #[.int .i64 3, .string (⟨#[]⟩ : ByteArray), .int .i64 0] 44 (0, 0))) := ⟨h1_⟩
                          have n2_ : Aside0 (w34.heap[gb257]? = some (.cells #[.int .i64 0, .int .i64 0] 26 (0, 0))) := ⟨h2_⟩
                          have n3_ : Aside0 (w.heap.size ≤ gb257) := ⟨h3_⟩
                          have n4_ : Aside0 (w.heap.size ≤ gb257) := ⟨h4_⟩
                          have n5_ : Aside0 (gb229 ≠ gb257) := ⟨h5_⟩
                          have n6_ : Aside0 (gb257 ≠ gb229) := ⟨h6_⟩
                          have n7_ : Aside0 (gb230 ≠ gb257) := ⟨h7_⟩
                          have n8_ : Aside0 (gb257 ≠ gb230) := ⟨h8_⟩
                          have n9_ : Aside0 (Below w.heap.size w w34) := ⟨h9_⟩
                          clear BK229
                          clear BK230
                          clear HB
                          clear h0_ h1_ h2_ h3_ h4_ h5_ h6_ h7_ h8_ h9_
                          have BK229 := n0_
                          have BK230 := n1_
                          have BK257 := n2_
                          have GW257 := n3_
                          have GE257 := n4_
                          have NB229_257 := n5_
                          have NB257_229 := n6_
                          have NB230_257 := n7_
                          have NB257_230 := n8_
                          have HB := n9_
                          clear n0_ n1_ n2_ n3_ n4_ n5_ n6_ n7_ n8_ n9_
                          have hHeld : w34.cell? ⟨gb229, 0, none⟩ = some (.int .i64 2) ∧ w34.cell? ⟨gb229, 1, none⟩ = some (.string (⟨#[]⟩ : ByteArray)) ∧ w34.cell? ⟨gb229, 2, none⟩ = some (.int .i64 0) ∧ w34.cell? ⟨gb230, 0, none⟩ = some (.int .i64 3) ∧ w34.cell? ⟨gb230, 1, none⟩ = some (.string (⟨#[]⟩ : ByteArray)) ∧ w34.cell? ⟨gb230, 2, none⟩ = some (.int .i64 0) := hS_
                          refine norm_ (a' := ?_) ?_ ?_
                          rotate_left
                          ·simp only [putAll, Act.put, List.setIfInBounds_toArray, List.set_cons_zero, List.set_cons_succ]
                           rfl
                          refine one_ (i := 2) (N := some 16) #[true, true, true, false, true, true, false, true, false, true, true, false, false, false, false, false, false, true, false, false] rfl rfl (one_of HT_.out (by kernel_rfl)) (by decide) (fun K hK => ?_)
                          refine goes_ Try.func24 (by kernel_rfl) rfl #[.string (⟨#[97]⟩ : ByteArray)] (by rfl) rfl rfl (by (try simp only [List.map_toArray, List.map_cons, List.map_nil]); first | done | rfl | (simp only [List.length_drop, List.length_take]; rfl)) ?_
                          with_reducible refine (variorumlaw06_word.calls (⟨#[97]⟩ : ByteArray) t234 t235 t236 _ A2.out).mono ?_
                          rintro e w35 ⟨rfl, hb⟩
                          refine ⟨_, rfl, ?_⟩
                          have n0_ := am (bB (g := gb229) (o := .cells #[.int .i64 2, .string (⟨#[]⟩ : ByteArray), .int .i64 0] 44 (0, 0)) (by (with_reducible repeat (first | refine bN ?_ _ | refine bD ?_ | refine bA ?_ _)); exact BK229.out) hb)
                          have n1_ := am (bB (g := gb230) (o := .cells #[.int .i64 3, .string (⟨#[]⟩ : ByteArray), .int .i64 0] 44 (0, 0)) (by (with_reducible repeat (first | refine bN ?_ _ | refine bD ?_ | refine bA ?_ _)); exact BK230.out) hb)
                          have n2_ := am (bB (g := gb257) (o := .cells #[.int .i64 0, .int .i64 0] 26 (0, 0)) (by (with_reducible repeat (first | refine bN ?_ _ | refine bD ?_ | refine bA ?_ _)); exact BK257.out) hb)
                          have n3_ := am (below_step (by repeat (with_reducible first | exact HB.out | apply lA | apply lN | apply lD | refine lS ?_ GE229.out | refine lS ?_ GE230.out | refine lS ?_ GE257.out)) hb)
                          clear BK229
                          clear BK230
                          clear BK257
                          clear HB
                          have BK229 := n0_
                          have BK230 := n1_
                          have BK257 := n2_
                          have HB := n3_
                          clear n0_ n1_ n2_ n3_
                          (try clear hb)
                          (try clear hb2)
                          (try clear hk)
                          (try clear hi)
                          refine hK.out _ _ ⟨(bC BK229.out 0).trans rfl, (bC BK229.out 1).trans rfl, (bC BK229.out 2).trans rfl, (bC BK230.out 0).trans rfl, (bC BK230.out 1).trans rfl, (bC BK230.out 2).trans rfl⟩ (fun hHeld => ?_)
                          clear hK K
                          refine norm_ (a' := ?_) ?_ ?_
                          rotate_left
                          ·show Act.put _ (some 16) _ = _
                           simp only [Act.put, List.setIfInBounds_toArray, List.set_cons_zero, List.set_cons_succ, i64_w, i32_w]
                           rfl
                          exact norm_ (by first | (simp only [putAll, Act.put, List.setIfInBounds_toArray, List.set_cons_zero, List.set_cons_succ]; done) | (simp only [putAll, Act.put, List.setIfInBounds_toArray, List.set_cons_zero, List.set_cons_succ]; rfl)) (hJ0_2_17 (gb257) _ ⟨hHeld, (by (with_reducible repeat (first | refine bN ?_ _ | refine bD ?_ | refine bA ?_ _)); exact BK229.out), (by (with_reducible repeat (first | refine bN ?_ _ | refine bD ?_ | refine bA ?_ _)); exact BK230.out), (by (with_reducible repeat (first | refine bN ?_ _ | refine bD ?_ | refine bA ?_ _)); exact BK257.out), GW257.out, GE257.out, NB229_257.out, NB257_229.out, NB230_257.out, NB257_230.out, (by repeat (with_reducible first | exact HB.out | apply lA | apply lN | apply lD | refine lS ?_ GE229.out | refine lS ?_ GE230.out | refine lS ?_ GE257.out))⟩)
                        ·skip
                         rintro _ w34 ⟨hS_, h0_, h1_, h2_⟩
                         have n0_ : Aside0 (w34.heap[gb229]? = some (.cells #[.int .i64 2, .string (⟨#[]⟩ : ByteArray), .int .i64 0] 44 (0, 0))) := ⟨h0_⟩
                         have n1_ : Aside0 (w34.heap[gb230]? = some (.cells #[.int .i64 3, .string (⟨#[]⟩ : ByteArray), .int .i64 0] 44 (0, 0))) := ⟨h1_⟩
                         have n2_ : Aside0 (Below w.heap.size w w34) := ⟨h2_⟩
                         clear BK229
                         clear BK230
                         clear HB
                         clear h0_ h1_ h2_
                         have BK229 := n0_
                         have BK230 := n1_
                         have HB := n2_
                         clear n0_ n1_ n2_
                         have hHeld : w34.cell? ⟨gb229, 0, none⟩ = some (.int .i64 2) ∧ w34.cell? ⟨gb229, 1, none⟩ = some (.string (⟨#[]⟩ : ByteArray)) ∧ w34.cell? ⟨gb229, 2, none⟩ = some (.int .i64 0) ∧ w34.cell? ⟨gb230, 0, none⟩ = some (.int .i64 3) ∧ w34.cell? ⟨gb230, 1, none⟩ = some (.string (⟨#[]⟩ : ByteArray)) ∧ w34.cell? ⟨gb230, 2, none⟩ = some (.int .i64 0) := hS_
                         refine norm_ (a' := ?_) ?_ ?_
                         rotate_left
                         ·simp only [putAll, Act.put, List.setIfInBounds_toArray, List.set_cons_zero, List.set_cons_succ]
                          rfl
                         refine two_ (i := 3) (j := 17) (Ni := some 17) (Nj := some 4) #[true, true, true, true, true, true, false, true, false, true, true, false, false, false, false, false, false, false, false, false] #[true, true, true, false, true, true, false, true, false, true, true, false, false, false, false, false, false, true, false, false] rfl rfl rfl rfl (two_of HT_.out (by kernel_rfl)) (by decide) (by decide) (fun K hK => ?_) (fun K hK => ?_)
                         ·skip
                          refine goes_ Try.func24 (by kernel_rfl) rfl #[.string (⟨#[98]⟩ : ByteArray)] (by rfl) rfl rfl (by (try simp only [List.map_toArray, List.map_cons, List.map_nil]); first | done | rfl | (simp only [List.length_drop, List.length_take]; rfl)) ?_
                          with_reducible refine (variorumlaw06_word.calls (⟨#[98]⟩ : ByteArray) t237 t238 t239 _ A3.out).mono ?_
                          rintro e w35 ⟨rfl, hb⟩
                          refine ⟨_, rfl, ?_⟩
                          have n0_ := am (bB (g := gb229) (o := .cells #[.int .i64 2, .string (⟨#[]⟩ : ByteArray), .int .i64 0] 44 (0, 0)) (by (with_reducible repeat (first | refine bN ?_ _ | refine bD ?_ | refine bA ?_ _)); exact BK229.out) hb)
                          have n1_ := am (bB (g := gb230) (o := .cells #[.int .i64 3, .string (⟨#[]⟩ : ByteArray), .int .i64 0] 44 (0, 0)) (by (with_reducible repeat (first | refine bN ?_ _ | refine bD ?_ | refine bA ?_ _)); exact BK230.out) hb)
                          have n2_ := am (below_step (by repeat (with_reducible first | exact HB.out | apply lA | apply lN | apply lD | refine lS ?_ GE229.out | refine lS ?_ GE230.out)) hb)
                          clear BK229
                          clear BK230
                          clear HB
                          have BK229 := n0_
                          have BK230 := n1_
                          have HB := n2_
                          clear n0_ n1_ n2_
                          (try clear hb)
                          (try clear hb2)
                          (try clear hk)
                          (try clear hi)
                          refine hK.out _ _ ⟨(bC BK229.out 0).trans rfl, (bC BK229.out 1).trans rfl, (bC BK229.out 2).trans rfl, (bC BK230.out 0).trans rfl, (bC BK230.out 1).trans rfl, (bC BK230.out 2).trans rfl⟩ (fun hHeld => ?_)
                          clear hK K
                          refine norm_ (a' := ?_) ?_ ?_
                          rotate_left
                          ·show Act.put _ (some 17) _ = _
                           simp only [Act.put, List.setIfInBounds_toArray, List.set_cons_zero, List.set_cons_succ, i64_w, i32_w]
                           rfl
                          exact norm_ (by first | (simp only [putAll, Act.put, List.setIfInBounds_toArray, List.set_cons_zero, List.set_cons_succ]; done) | (simp only [putAll, Act.put, List.setIfInBounds_toArray, List.set_cons_zero, List.set_cons_succ]; rfl)) (hJ0_2_3 () _ ⟨hHeld, (by (with_reducible repeat (first | refine bN ?_ _ | refine bD ?_ | refine bA ?_ _)); exact BK229.out), (by (with_reducible repeat (first | refine bN ?_ _ | refine bD ?_ | refine bA ?_ _)); exact BK230.out), (by repeat (with_reducible first | exact HB.out | apply lA | apply lN | apply lD | refine lS ?_ GE229.out | refine lS ?_ GE230.out))⟩)
                         ·skip
                          refine box_step ?hg (N := 4) ?hd (cs := #[.int .i64 0, .int .i64 0]) (t := 26) ?hr ?_; (case hd => rfl); (case hg => rfl); (case hr => first | (go_simp; done) | (go_simp; rfl))
                          intro gb257 hg w35 hbox hb
                          have n0_ := am (bB (g := gb229) (o := .cells #[.int .i64 2, .string (⟨#[]⟩ : ByteArray), .int .i64 0] 44 (0, 0)) (by (with_reducible repeat (first | refine bN ?_ _ | refine bD ?_ | refine bA ?_ _)); exact BK229.out) hb)
                          have n1_ := am (bB (g := gb230) (o := .cells #[.int .i64 3, .string (⟨#[]⟩ : ByteArray), .int .i64 0] 44 (0, 0)) (by (with_reducible repeat (first | refine bN ?_ _ | refine bD ?_ | refine bA ?_ _)); exact BK230.out) hb)
                          have n2_ := am (below_step (by repeat (with_reducible first | exact HB.out | apply lA | apply lN | apply lD | refine lS ?_ GE229.out | refine lS ?_ GE230.out)) hb)
                          have n3_ := am (hbox)
                          have n4_ := am ((by rw [hg]; exact (below_size (by repeat (with_reducible first | exact HB.out | apply lA | apply lN | apply lD | refine lS ?_ GE229.out | refine lS ?_ GE230.out))) : w.heap.size ≤ gb257))
                          have n5_ := am ((by rw [hg]; exact (below_size (by repeat (with_reducible first | exact HB.out | apply lA | apply lN | apply lD | refine lS ?_ GE229.out | refine lS ?_ GE230.out))) : w.heap.size ≤ gb257))
                          have n6_ := am ((by rw [hg]; exact Nat.ne_of_lt (blk_lt (g := gb229) (o := .cells #[.int .i64 2, .string (⟨#[]⟩ : ByteArray), .int .i64 0] 44 (0, 0)) (by (with_reducible repeat (first | refine bN ?_ _ | refine bD ?_ | refine bA ?_ _)); exact BK229.out)) : gb229 ≠ gb257))
                          have n7_ := am ((by rw [hg]; exact Nat.ne_of_gt (blk_lt (g := gb229) (o := .cells #[.int .i64 2, .string (⟨#[]⟩ : ByteArray), .int .i64 0] 44 (0, 0)) (by (with_reducible repeat (first | refine bN ?_ _ | refine bD ?_ | refine bA ?_ _)); exact BK229.out)) : gb257 ≠ gb229))
                          have n8_ := am ((by rw [hg]; exact Nat.ne_of_lt (blk_lt (g := gb230) (o := .cells #[.int .i64 3, .string (⟨#[]⟩ : ByteArray), .int .i64 0] 44 (0, 0)) (by (with_reducible repeat (first | refine bN ?_ _ | refine bD ?_ | refine bA ?_ _)); exact BK230.out)) : gb230 ≠ gb257))
                          have n9_ := am ((by rw [hg]; exact Nat.ne_of_gt (blk_lt (g := gb230) (o := .cells #[.int .i64 3, .string (⟨#[]⟩ : ByteArray), .int .i64 0] 44 (0, 0)) (by (with_reducible repeat (first | refine bN ?_ _ | refine bD ?_ | refine bA ?_ _)); exact BK230.out)) : gb257 ≠ gb230))
                          clear BK229
                          clear BK230
                          clear HB
                          have BK229 := n0_
                          have BK230 := n1_
                          have HB := n2_
                          have BK257 := n3_
                          have GW257 := n4_
                          have GE257 := n5_
                          have NB229_257 := n6_
                          have NB257_229 := n7_
                          have NB230_257 := n8_
                          have NB257_230 := n9_
                          clear n0_ n1_ n2_ n3_ n4_ n5_ n6_ n7_ n8_ n9_
                          clear hb hbox hg
                          refine hK.out _ _ ⟨(bC BK229.out 0).trans rfl, (bC BK229.out 1).trans rfl, (bC BK229.out 2).trans rfl, (bC BK230.out 0).trans rfl, (bC BK230.out 1).trans rfl, (bC BK230.out 2).trans rfl⟩ (fun hHeld => ?_)
                          clear hK K
                          refine norm_ (a' := ?_) ?_ ?_
                          rotate_left
                          ·show Act.put _ (some 4) _ = _
                           simp only [Act.put, List.setIfInBounds_toArray, List.set_cons_zero, List.set_cons_succ, i64_w, i32_w]
                           rfl
                          exact norm_ (by first | (simp only [putAll, Act.put, List.setIfInBounds_toArray, List.set_cons_zero, List.set_cons_succ]; done) | (simp only [putAll, Act.put, List.setIfInBounds_toArray, List.set_cons_zero, List.set_cons_succ]; rfl)) (hJ0_2_17 (gb257) _ ⟨hHeld, (by (with_reducible repeat (first | refine bN ?_ _ | refine bD ?_ | refine bA ?_ _)); exact BK229.out), (by (with_reducible repeat (first | refine bN ?_ _ | refine bD ?_ | refine bA ?_ _)); exact BK230.out), (by (with_reducible repeat (first | refine bN ?_ _ | refine bD ?_ | refine bA ?_ _)); exact BK257.out), GW257.out, GE257.out, NB229_257.out, NB257_229.out, NB230_257.out, NB257_230.out, (by repeat (with_reducible first | exact HB.out | apply lA | apply lN | apply lD | refine lS ?_ GE229.out | refine lS ?_ GE230.out | refine lS ?_ GE257.out))⟩)
                       ·skip
                        rintro gb257 w35 ⟨hS_, h0_, h1_, h2_, h3_, h4_, h5_, h6_, h7_, h8_, h9_⟩
                        have n0_ : Aside0 (w35.heap[gb229]? = some (.cells #[.int .i64 2, .string (⟨#[]⟩ : ByteArray), .int .i64 0] 44 (0, 0))) := ⟨h0_⟩
                        have n1_ : Aside0 (w35.heap[gb230]? = some (.cells #[.int .i64 3, .string (⟨#[]⟩ : ByteArray), .int .i64 0] 44 (0, 0))) := ⟨h1_⟩
                        have n2_ : Aside0 (w35.heap[gb257]? = some (.cells #[.int .i64 0, .int .i64 0] 26 (0, 0))) := ⟨h2_⟩
                        have n3_ : Aside0 (w.heap.size ≤ gb257) := ⟨h3_⟩
                        have n4_ : Aside0 (w.heap.size ≤ gb257) := ⟨h4_⟩
                        have n5_ : Aside0 (gb229 ≠ gb257) := ⟨h5_⟩
                        have n6_ : Aside0 (gb257 ≠ gb229) := ⟨h6_⟩
                        have n7_ : Aside0 (gb230 ≠ gb257) := ⟨h7_⟩
                        have n8_ : Aside0 (gb257 ≠ gb230) := ⟨h8_⟩
                        have n9_ : Aside0 (Below w.heap.size w w35) := ⟨h9_⟩
                        clear BK229
                        clear BK230
                        clear HB
                        clear h0_ h1_ h2_ h3_ h4_ h5_ h6_ h7_ h8_ h9_
                        have BK229 := n0_
                        have BK230 := n1_
                        have BK257 := n2_
                        have GW257 := n3_
                        have GE257 := n4_
                        have NB229_257 := n5_
                        have NB257_229 := n6_
                        have NB230_257 := n7_
                        have NB257_230 := n8_
                        have HB := n9_
                        clear n0_ n1_ n2_ n3_ n4_ n5_ n6_ n7_ n8_ n9_
                        have hHeld : w35.cell? ⟨gb229, 0, none⟩ = some (.int .i64 2) ∧ w35.cell? ⟨gb229, 1, none⟩ = some (.string (⟨#[]⟩ : ByteArray)) ∧ w35.cell? ⟨gb229, 2, none⟩ = some (.int .i64 0) ∧ w35.cell? ⟨gb230, 0, none⟩ = some (.int .i64 3) ∧ w35.cell? ⟨gb230, 1, none⟩ = some (.string (⟨#[]⟩ : ByteArray)) ∧ w35.cell? ⟨gb230, 2, none⟩ = some (.int .i64 0) := hS_
                        refine norm_ (a' := ?_) ?_ ?_
                        rotate_left
                        ·simp only [putAll, Act.put, List.setIfInBounds_toArray, List.set_cons_zero, List.set_cons_succ]
                         rfl
                        refine one_ (i := 3) (N := some 17) #[true, true, true, true, true, true, false, true, false, true, true, false, false, false, false, false, false, true, false, false] rfl rfl (one_of HT_.out (by kernel_rfl)) (by decide) (fun K hK => ?_)
                        refine goes_ Try.func24 (by kernel_rfl) rfl #[.string (⟨#[98]⟩ : ByteArray)] (by rfl) rfl rfl (by (try simp only [List.map_toArray, List.map_cons, List.map_nil]); first | done | rfl | (simp only [List.length_drop, List.length_take]; rfl)) ?_
                        with_reducible refine (variorumlaw06_word.calls (⟨#[98]⟩ : ByteArray) t237 t238 t239 _ A3.out).mono ?_
                        rintro e w36 ⟨rfl, hb⟩
                        refine ⟨_, rfl, ?_⟩
                        have n0_ := am (bB (g := gb229) (o := .cells #[.int .i64 2, .string (⟨#[]⟩ : ByteArray), .int .i64 0] 44 (0, 0)) (by (with_reducible repeat (first | refine bN ?_ _ | refine bD ?_ | refine bA ?_ _)); exact BK229.out) hb)
                        have n1_ := am (bB (g := gb230) (o := .cells #[.int .i64 3, .string (⟨#[]⟩ : ByteArray), .int .i64 0] 44 (0, 0)) (by (with_reducible repeat (first | refine bN ?_ _ | refine bD ?_ | refine bA ?_ _)); exact BK230.out) hb)
                        have n2_ := am (bB (g := gb257) (o := .cells #[.int .i64 0, .int .i64 0] 26 (0, 0)) (by (with_reducible repeat (first | refine bN ?_ _ | refine bD ?_ | refine bA ?_ _)); exact BK257.out) hb)
                        have n3_ := am (below_step (by repeat (with_reducible first | exact HB.out | apply lA | apply lN | apply lD | refine lS ?_ GE229.out | refine lS ?_ GE230.out | refine lS ?_ GE257.out)) hb)
                        clear BK229
                        clear BK230
                        clear BK257
                        clear HB
                        have BK229 := n0_
                        have BK230 := n1_
                        have BK257 := n2_
                        have HB := n3_
                        clear n0_ n1_ n2_ n3_
                        (try clear hb)
                        (try clear hb2)
                        (try clear hk)
                        (try clear hi)
                        refine hK.out _ _ ⟨(bC BK229.out 0).trans rfl, (bC BK229.out 1).trans rfl, (bC BK229.out 2).trans rfl, (bC BK230.out 0).trans rfl, (bC BK230.out 1).trans rfl, (bC BK230.out 2).trans rfl⟩ (fun hHeld => ?_)
                        clear hK K
                        refine norm_ (a' := ?_) ?_ ?_
                        rotate_left
                        ·show Act.put _ (some 17) _ = _
                         simp only [Act.put, List.setIfInBounds_toArray, List.set_cons_zero, List.set_cons_succ, i64_w, i32_w]
                         rfl
                        exact norm_ (by first | (simp only [putAll, Act.put, List.setIfInBounds_toArray, List.set_cons_zero, List.set_cons_succ]; done) | (simp only [putAll, Act.put, List.setIfInBounds_toArray, List.set_cons_zero, List.set_cons_succ]; rfl)) (hJ0_2_3_17 (gb257) _ ⟨hHeld, (by (with_reducible repeat (first | refine bN ?_ _ | refine bD ?_ | refine bA ?_ _)); exact BK229.out), (by (with_reducible repeat (first | refine bN ?_ _ | refine bD ?_ | refine bA ?_ _)); exact BK230.out), (by (with_reducible repeat (first | refine bN ?_ _ | refine bD ?_ | refine bA ?_ _)); exact BK257.out), GW257.out, GE257.out, NB229_257.out, NB257_229.out, NB230_257.out, NB257_230.out, (by repeat (with_reducible first | exact HB.out | apply lA | apply lN | apply lD | refine lS ?_ GE229.out | refine lS ?_ GE230.out | refine lS ?_ GE257.out))⟩)
                      ·skip
                       rintro _ w35 ⟨hS_, h0_, h1_, h2_⟩
                       have n0_ : Aside0 (w35.heap[gb229]? = some (.cells #[.int .i64 2, .string (⟨#[]⟩ : ByteArray), .int .i64 0] 44 (0, 0))) := ⟨h0_⟩
                       have n1_ : Aside0 (w35.heap[gb230]? = some (.cells #[.int .i64 3, .string (⟨#[]⟩ : ByteArray), .int .i64 0] 44 (0, 0))) := ⟨h1_⟩
                       have n2_ : Aside0 (Below w.heap.size w w35) := ⟨h2_⟩
                       clear BK229
                       clear BK230
                       clear HB
                       clear h0_ h1_ h2_
                       have BK229 := n0_
                       have BK230 := n1_
                       have HB := n2_
                       clear n0_ n1_ n2_
                       have hHeld : w35.cell? ⟨gb229, 0, none⟩ = some (.int .i64 2) ∧ w35.cell? ⟨gb229, 1, none⟩ = some (.string (⟨#[]⟩ : ByteArray)) ∧ w35.cell? ⟨gb229, 2, none⟩ = some (.int .i64 0) ∧ w35.cell? ⟨gb230, 0, none⟩ = some (.int .i64 3) ∧ w35.cell? ⟨gb230, 1, none⟩ = some (.string (⟨#[]⟩ : ByteArray)) ∧ w35.cell? ⟨gb230, 2, none⟩ = some (.int .i64 0) := hS_
                       refine norm_ (a' := ?_) ?_ ?_
                       rotate_left
                       ·simp only [putAll, Act.put, List.setIfInBounds_toArray, List.set_cons_zero, List.set_cons_succ]
                        rfl
                       refine two_ (i := 6) (j := 17) (Ni := some 20) (Nj := some 4) #[true, true, true, true, true, true, true, true, false, true, true, false, false, false, false, false, false, false, false, false] #[true, true, true, true, true, true, false, true, false, true, true, false, false, false, false, false, false, true, false, false] rfl rfl rfl rfl (two_of HT_.out (by kernel_rfl)) (by decide) (by decide) (fun K hK => ?_) (fun K hK => ?_)
                       ·skip
                        refine goes_ Try.func23 (by kernel_rfl) rfl #[.string (⟨#[65]⟩ : ByteArray)] (by rfl) rfl rfl (by (try simp only [List.map_toArray, List.map_cons, List.map_nil]); first | done | rfl | (simp only [List.length_drop, List.length_take]; rfl)) ?_
                        with_reducible refine (variorumlaw06_command.calls (⟨#[65]⟩ : ByteArray) t240 t241 t242 _ A4.out).mono ?_
                        rintro e w36 ⟨rfl, hb⟩
                        refine ⟨_, rfl, ?_⟩
                        have n0_ := am (bB (g := gb229) (o := .cells #[.int .i64 2, .string (⟨#[]⟩ : ByteArray), .int .i64 0] 44 (0, 0)) (by (with_reducible repeat (first | refine bN ?_ _ | refine bD ?_ | refine bA ?_ _)); exact BK229.out) hb)
                        have n1_ := am (bB (g := gb230) (o := .cells #[.int .i64 3, .string (⟨#[]⟩ : ByteArray), .int .i64 0] 44 (0, 0)) (by (with_reducible repeat (first | refine bN ?_ _ | refine bD ?_ | refine bA ?_ _)); exact BK230.out) hb)
                        have n2_ := am (below_step (by repeat (with_reducible first | exact HB.out | apply lA | apply lN | apply lD | refine lS ?_ GE229.out | refine lS ?_ GE230.out)) hb)
                        clear BK229
                        clear BK230
                        clear HB
                        have BK229 := n0_
                        have BK230 := n1_
                        have HB := n2_
                        clear n0_ n1_ n2_
                        (try clear hb)
                        (try clear hb2)
                        (try clear hk)
                        (try clear hi)
                        refine hK.out _ _ ⟨(bC BK229.out 0).trans rfl, (bC BK229.out 1).trans rfl, (bC BK229.out 2).trans rfl, (bC BK230.out 0).trans rfl, (bC BK230.out 1).trans rfl, (bC BK230.out 2).trans rfl⟩ (fun hHeld => ?_)
                        clear hK K
                        refine norm_ (a' := ?_) ?_ ?_
                        rotate_left
                        ·show Act.put _ (some 20) _ = _
                         simp only [Act.put, List.setIfInBounds_toArray, List.set_cons_zero, List.set_cons_succ, i64_w, i32_w]
                         rfl
                        exact norm_ (by first | (simp only [putAll, Act.put, List.setIfInBounds_toArray, List.set_cons_zero, List.set_cons_succ]; done) | (simp only [putAll, Act.put, List.setIfInBounds_toArray, List.set_cons_zero, List.set_cons_succ]; rfl)) (hJ0_2_3_6 () _ ⟨hHeld, (by (with_reducible repeat (first | refine bN ?_ _ | refine bD ?_ | refine bA ?_ _)); exact BK229.out), (by (with_reducible repeat (first | refine bN ?_ _ | refine bD ?_ | refine bA ?_ _)); exact BK230.out), (by repeat (with_reducible first | exact HB.out | apply lA | apply lN | apply lD | refine lS ?_ GE229.out | refine lS ?_ GE230.out))⟩)
                       ·skip
                        refine box_step ?hg (N := 4) ?hd (cs := #[.int .i64 0, .int .i64 0]) (t := 26) ?hr ?_; (case hd => rfl); (case hg => rfl); (case hr => first | (go_simp; done) | (go_simp; rfl))
                        intro gb257 hg w36 hbox hb
                        have n0_ := am (bB (g := gb229) (o := .cells #[.int .i64 2, .string (⟨#[]⟩ : ByteArray), .int .i64 0] 44 (0, 0)) (by (with_reducible repeat (first | refine bN ?_ _ | refine bD ?_ | refine bA ?_ _)); exact BK229.out) hb)
                        have n1_ := am (bB (g := gb230) (o := .cells #[.int .i64 3, .string (⟨#[]⟩ : ByteArray), .int .i64 0] 44 (0, 0)) (by (with_reducible repeat (first | refine bN ?_ _ | refine bD ?_ | refine bA ?_ _)); exact BK230.out) hb)
                        have n2_ := am (below_step (by repeat (with_reducible first | exact HB.out | apply lA | apply lN | apply lD | refine lS ?_ GE229.out | refine lS ?_ GE230.out)) hb)
                        have n3_ := am (hbox)
                        have n4_ := am ((by rw [hg]; exact (below_size (by repeat (with_reducible first | exact HB.out | apply lA | apply lN | apply lD | refine lS ?_ GE229.out | refine lS ?_ GE230.out))) : w.heap.size ≤ gb257))
                        have n5_ := am ((by rw [hg]; exact (below_size (by repeat (with_reducible first | exact HB.out | apply lA | apply lN | apply lD | refine lS ?_ GE229.out | refine lS ?_ GE230.out))) : w.heap.size ≤ gb257))
                        have n6_ := am ((by rw [hg]; exact Nat.ne_of_lt (blk_lt (g := gb229) (o := .cells #[.int .i64 2, .string (⟨#[]⟩ : ByteArray), .int .i64 0] 44 (0, 0)) (by (with_reducible repeat (first | refine bN ?_ _ | refine bD ?_ | refine bA ?_ _)); exact BK229.out)) : gb229 ≠ gb257))
                        have n7_ := am ((by rw [hg]; exact Nat.ne_of_gt (blk_lt (g := gb229) (o := .cells #[.int .i64 2, .string (⟨#[]⟩ : ByteArray), .int .i64 0] 44 (0, 0)) (by (with_reducible repeat (first | refine bN ?_ _ | refine bD ?_ | refine bA ?_ _)); exact BK229.out)) : gb257 ≠ gb229))
                        have n8_ := am ((by rw [hg]; exact Nat.ne_of_lt (blk_lt (g := gb230) (o := .cells #[.int .i64 3, .string (⟨#[]⟩ : ByteArray), .int .i64 0] 44 (0, 0)) (by (with_reducible repeat (first | refine bN ?_ _ | refine bD ?_ | refine bA ?_ _)); exact BK230.out)) : gb230 ≠ gb257))
                        have n9_ := am ((by rw [hg]; exact Nat.ne_of_gt (blk_lt (g := gb230) (o := .cells #[.int .i64 3, .string (⟨#[]⟩ : ByteArray), .int .i64 0] 44 (0, 0)) (by (with_reducible repeat (first | refine bN ?_ _ | refine bD ?_ | refine bA ?_ _)); exact BK230.out)) : gb257 ≠ gb230))
                        clear BK229
                        clear BK230
                        clear HB
                        have BK229 := n0_
                        have BK230 := n1_
                        have HB := n2_
                        have BK257 := n3_
                        have GW257 := n4_
                        have GE257 := n5_
                        have NB229_257 := n6_
                        have NB257_229 := n7_
                        have NB230_257 := n8_
                        have NB257_230 := n9_
                        clear n0_ n1_ n2_ n3_ n4_ n5_ n6_ n7_ n8_ n9_
                        clear hb hbox hg
                        refine hK.out _ _ ⟨(bC BK229.out 0).trans rfl, (bC BK229.out 1).trans rfl, (bC BK229.out 2).trans rfl, (bC BK230.out 0).trans rfl, (bC BK230.out 1).trans rfl, (bC BK230.out 2).trans rfl⟩ (fun hHeld => ?_)
                        clear hK K
                        refine norm_ (a' := ?_) ?_ ?_
                        rotate_left
                        ·show Act.put _ (some 4) _ = _
                         simp only [Act.put, List.setIfInBounds_toArray, List.set_cons_zero, List.set_cons_succ, i64_w, i32_w]
                         rfl
                        exact norm_ (by first | (simp only [putAll, Act.put, List.setIfInBounds_toArray, List.set_cons_zero, List.set_cons_succ]; done) | (simp only [putAll, Act.put, List.setIfInBounds_toArray, List.set_cons_zero, List.set_cons_succ]; rfl)) (hJ0_2_3_17 (gb257) _ ⟨hHeld, (by (with_reducible repeat (first | refine bN ?_ _ | refine bD ?_ | refine bA ?_ _)); exact BK229.out), (by (with_reducible repeat (first | refine bN ?_ _ | refine bD ?_ | refine bA ?_ _)); exact BK230.out), (by (with_reducible repeat (first | refine bN ?_ _ | refine bD ?_ | refine bA ?_ _)); exact BK257.out), GW257.out, GE257.out, NB229_257.out, NB257_229.out, NB230_257.out, NB257_230.out, (by repeat (with_reducible first | exact HB.out | apply lA | apply lN | apply lD | refine lS ?_ GE229.out | refine lS ?_ GE230.out | refine lS ?_ GE257.out))⟩)
                     ·skip
                      rintro gb257 w36 ⟨hS_, h0_, h1_, h2_, h3_, h4_, h5_, h6_, h7_, h8_, h9_⟩
                      have n0_ : Aside0 (w36.heap[gb229]? = some (.cells #[.int .i64 2, .string (⟨#[]⟩ : ByteArray), .int .i64 0] 44 (0, 0))) := ⟨h0_⟩
                      have n1_ : Aside0 (w36.heap[gb230]? = some (.cells #[.int .i64 3, .string (⟨#[]⟩ : ByteArray), .int .i64 0] 44 (0, 0))) := ⟨h1_⟩
                      have n2_ : Aside0 (w36.heap[gb257]? = some (.cells #[.int .i64 0, .int .i64 0] 26 (0, 0))) := ⟨h2_⟩
                      have n3_ : Aside0 (w.heap.size ≤ gb257) := ⟨h3_⟩
                      have n4_ : Aside0 (w.heap.size ≤ gb257) := ⟨h4_⟩
                      have n5_ : Aside0 (gb229 ≠ gb257) := ⟨h5_⟩
                      have n6_ : Aside0 (gb257 ≠ gb229) := ⟨h6_⟩
                      have n7_ : Aside0 (gb230 ≠ gb257) := ⟨h7_⟩
                      have n8_ : Aside0 (gb257 ≠ gb230) := ⟨h8_⟩
                      have n9_ : Aside0 (Below w.heap.size w w36) := ⟨h9_⟩
                      clear BK229
                      clear BK230
                      clear HB
                      clear h0_ h1_ h2_ h3_ h4_ h5_ h6_ h7_ h8_ h9_
                      have BK229 := n0_
                      have BK230 := n1_
                      have BK257 := n2_
                      have GW257 := n3_
                      have GE257 := n4_
                      have NB229_257 := n5_
                      have NB257_229 := n6_
                      have NB230_257 := n7_
                      have NB257_230 := n8_
                      have HB := n9_
                      clear n0_ n1_ n2_ n3_ n4_ n5_ n6_ n7_ n8_ n9_
                      have hHeld : w36.cell? ⟨gb229, 0, none⟩ = some (.int .i64 2) ∧ w36.cell? ⟨gb229, 1, none⟩ = some (.string (⟨#[]⟩ : ByteArray)) ∧ w36.cell? ⟨gb229, 2, none⟩ = some (.int .i64 0) ∧ w36.cell? ⟨gb230, 0, none⟩ = some (.int .i64 3) ∧ w36.cell? ⟨gb230, 1, none⟩ = some (.string (⟨#[]⟩ : ByteArray)) ∧ w36.cell? ⟨gb230, 2, none⟩ = some (.int .i64 0) := hS_
                      refine norm_ (a' := ?_) ?_ ?_
                      rotate_left
                      ·simp only [putAll, Act.put, List.setIfInBounds_toArray, List.set_cons_zero, List.set_cons_succ]
                       rfl
                      refine one_ (i := 6) (N := some 20) #[true, true, true, true, true, true, true, true, false, true, true, false, false, false, false, false, false, true, false, false] rfl rfl (one_of HT_.out (by kernel_rfl)) (by decide) (fun K hK => ?_)
                      refine goes_ Try.func23 (by kernel_rfl) rfl #[.string (⟨#[65]⟩ : ByteArray)] (by rfl) rfl rfl (by (try simp only [List.map_toArray, List.map_cons, List.map_nil]); first | done | rfl | (simp only [List.length_drop, List.length_take]; rfl)) ?_
                      with_reducible refine (variorumlaw06_command.calls (⟨#[65]⟩ : ByteArray) t240 t241 t242 _ A4.out).mono ?_
                      rintro e w37 ⟨rfl, hb⟩
                      refine ⟨_, rfl, ?_⟩
                      have n0_ := am (bB (g := gb229) (o := .cells #[.int .i64 2, .string (⟨#[]⟩ : ByteArray), .int .i64 0] 44 (0, 0)) (by (with_reducible repeat (first | refine bN ?_ _ | refine bD ?_ | refine bA ?_ _)); exact BK229.out) hb)
                      have n1_ := am (bB (g := gb230) (o := .cells #[.int .i64 3, .string (⟨#[]⟩ : ByteArray), .int .i64 0] 44 (0, 0)) (by (with_reducible repeat (first | refine bN ?_ _ | refine bD ?_ | refine bA ?_ _)); exact BK230.out) hb)
                      have n2_ := am (bB (g := gb257) (o := .cells #[.int .i64 0, .int .i64 0] 26 (0, 0)) (by (with_reducible repeat (first | refine bN ?_ _ | refine bD ?_ | refine bA ?_ _)); exact BK257.out) hb)
                      have n3_ := am (below_step (by repeat (with_reducible first | exact HB.out | apply lA | apply lN | apply lD | refine lS ?_ GE229.out | refine lS ?_ GE230.out | refine lS ?_ GE257.out)) hb)
                      clear BK229
                      clear BK230
                      clear BK257
                      clear HB
                      have BK229 := n0_
                      have BK230 := n1_
                      have BK257 := n2_
                      have HB := n3_
                      clear n0_ n1_ n2_ n3_
                      (try clear hb)
                      (try clear hb2)
                      (try clear hk)
                      (try clear hi)
                      refine hK.out _ _ ⟨(bC BK229.out 0).trans rfl, (bC BK229.out 1).trans rfl, (bC BK229.out 2).trans rfl, (bC BK230.out 0).trans rfl, (bC BK230.out 1).trans rfl, (bC BK230.out 2).trans rfl⟩ (fun hHeld => ?_)
                      clear hK K
                      refine norm_ (a' := ?_) ?_ ?_
                      rotate_left
                      ·show Act.put _ (some 20) _ = _
                       simp only [Act.put, List.setIfInBounds_toArray, List.set_cons_zero, List.set_cons_succ, i64_w, i32_w]
                       rfl
                      exact norm_ (by first | (simp only [putAll, Act.put, List.setIfInBounds_toArray, List.set_cons_zero, List.set_cons_succ]; done) | (simp only [putAll, Act.put, List.setIfInBounds_toArray, List.set_cons_zero, List.set_cons_succ]; rfl)) (hJ0_2_3_6_17 (gb257) _ ⟨hHeld, (by (with_reducible repeat (first | refine bN ?_ _ | refine bD ?_ | refine bA ?_ _)); exact BK229.out), (by (with_reducible repeat (first | refine bN ?_ _ | refine bD ?_ | refine bA ?_ _)); exact BK230.out), (by (with_reducible repeat (first | refine bN ?_ _ | refine bD ?_ | refine bA ?_ _)); exact BK257.out), GW257.out, GE257.out, NB229_257.out, NB257_229.out, NB230_257.out, NB257_230.out, (by repeat (with_reducible first | exact HB.out | apply lA | apply lN | apply lD | refine lS ?_ GE229.out | refine lS ?_ GE230.out | refine lS ?_ GE257.out))⟩)
                    ·skip
                     rintro _ w36 ⟨hS_, h0_, h1_, h2_⟩
                     have n0_ : Aside0 (w36.heap[gb229]? = some (.cells #[.int .i64 2, .string (⟨#[]⟩ : ByteArray), .int .i64 0] 44 (0, 0))) := ⟨h0_⟩
                     have n1_ : Aside0 (w36.heap[gb230]? = some (.cells #[.int .i64 3, .string (⟨#[]⟩ : ByteArray), .int .i64 0] 44 (0, 0))) := ⟨h1_⟩
                     have n2_ : Aside0 (Below w.heap.size w w36) := ⟨h2_⟩
                     clear BK229
                     clear BK230
                     clear HB
                     clear h0_ h1_ h2_
                     have BK229 := n0_
                     have BK230 := n1_
                     have HB := n2_
                     clear n0_ n1_ n2_
                     have hHeld : w36.cell? ⟨gb229, 0, none⟩ = some (.int .i64 2) ∧ w36.cell? ⟨gb229, 1, none⟩ = some (.string (⟨#[]⟩ : ByteArray)) ∧ w36.cell? ⟨gb229, 2, none⟩ = some (.int .i64 0) ∧ w36.cell? ⟨gb230, 0, none⟩ = some (.int .i64 3) ∧ w36.cell? ⟨gb230, 1, none⟩ = some (.string (⟨#[]⟩ : ByteArray)) ∧ w36.cell? ⟨gb230, 2, none⟩ = some (.int .i64 0) := hS_
                     refine norm_ (a' := ?_) ?_ ?_
                     rotate_left
                     ·simp only [putAll, Act.put, List.setIfInBounds_toArray, List.set_cons_zero, List.set_cons_succ]
                      rfl
                     refine two_ (i := 8) (j := 17) (Ni := some 22) (Nj := some 4) #[true, true, true, true, true, true, true, true, true, true, true, false, false, false, false, false, false, false, false, false] #[true, true, true, true, true, true, true, true, false, true, true, false, false, false, false, false, false, true, false, false] rfl rfl rfl rfl (two_of HT_.out (by kernel_rfl)) (by decide) (by decide) (fun K hK => ?_) (fun K hK => ?_)
                     ·skip
                      refine goes_ Try.func24 (by kernel_rfl) rfl #[.string (⟨#[99]⟩ : ByteArray)] (by rfl) rfl rfl (by (try simp only [List.map_toArray, List.map_cons, List.map_nil]); first | done | rfl | (simp only [List.length_drop, List.length_take]; rfl)) ?_
                      with_reducible refine (variorumlaw06_word.calls (⟨#[99]⟩ : ByteArray) t243 t244 t245 _ A5.out).mono ?_
                      rintro e w37 ⟨rfl, hb⟩
                      refine ⟨_, rfl, ?_⟩
                      have n0_ := am (bB (g := gb229) (o := .cells #[.int .i64 2, .string (⟨#[]⟩ : ByteArray), .int .i64 0] 44 (0, 0)) (by (with_reducible repeat (first | refine bN ?_ _ | refine bD ?_ | refine bA ?_ _)); exact BK229.out) hb)
                      have n1_ := am (bB (g := gb230) (o := .cells #[.int .i64 3, .string (⟨#[]⟩ : ByteArray), .int .i64 0] 44 (0, 0)) (by (with_reducible repeat (first | refine bN ?_ _ | refine bD ?_ | refine bA ?_ _)); exact BK230.out) hb)
                      have n2_ := am (below_step (by repeat (with_reducible first | exact HB.out | apply lA | apply lN | apply lD | refine lS ?_ GE229.out | refine lS ?_ GE230.out)) hb)
                      clear BK229
                      clear BK230
                      clear HB
                      have BK229 := n0_
                      have BK230 := n1_
                      have HB := n2_
                      clear n0_ n1_ n2_
                      (try clear hb)
                      (try clear hb2)
                      (try clear hk)
                      (try clear hi)
                      refine hK.out _ _ ⟨(bC BK229.out 0).trans rfl, (bC BK229.out 1).trans rfl, (bC BK229.out 2).trans rfl, (bC BK230.out 0).trans rfl, (bC BK230.out 1).trans rfl, (bC BK230.out 2).trans rfl⟩ (fun hHeld => ?_)
                      clear hK K
                      refine norm_ (a' := ?_) ?_ ?_
                      rotate_left
                      ·show Act.put _ (some 22) _ = _
                       simp only [Act.put, List.setIfInBounds_toArray, List.set_cons_zero, List.set_cons_succ, i64_w, i32_w]
                       rfl
                      exact norm_ (by first | (simp only [putAll, Act.put, List.setIfInBounds_toArray, List.set_cons_zero, List.set_cons_succ]; done) | (simp only [putAll, Act.put, List.setIfInBounds_toArray, List.set_cons_zero, List.set_cons_succ]; rfl)) (hJ0_2_3_6_8 () _ ⟨hHeld, (by (with_reducible repeat (first | refine bN ?_ _ | refine bD ?_ | refine bA ?_ _)); exact BK229.out), (by (with_reducible repeat (first | refine bN ?_ _ | refine bD ?_ | refine bA ?_ _)); exact BK230.out), (by repeat (with_reducible first | exact HB.out | apply lA | apply lN | apply lD | refine lS ?_ GE229.out | refine lS ?_ GE230.out))⟩)
                     ·skip
                      refine box_step ?hg (N := 4) ?hd (cs := #[.int .i64 0, .int .i64 0]) (t := 26) ?hr ?_; (case hd => rfl); (case hg => rfl); (case hr => first | (go_simp; done) | (go_simp; rfl))
                      intro gb257 hg w37 hbox hb
                      have n0_ := am (bB (g := gb229) (o := .cells #[.int .i64 2, .string (⟨#[]⟩ : ByteArray), .int .i64 0] 44 (0, 0)) (by (with_reducible repeat (first | refine bN ?_ _ | refine bD ?_ | refine bA ?_ _)); exact BK229.out) hb)
                      have n1_ := am (bB (g := gb230) (o := .cells #[.int .i64 3, .string (⟨#[]⟩ : ByteArray), .int .i64 0] 44 (0, 0)) (by (with_reducible repeat (first | refine bN ?_ _ | refine bD ?_ | refine bA ?_ _)); exact BK230.out) hb)
                      have n2_ := am (below_step (by repeat (with_reducible first | exact HB.out | apply lA | apply lN | apply lD | refine lS ?_ GE229.out | refine lS ?_ GE230.out)) hb)
                      have n3_ := am (hbox)
                      have n4_ := am ((by rw [hg]; exact (below_size (by repeat (with_reducible first | exact HB.out | apply lA | apply lN | apply lD | refine lS ?_ GE229.out | refine lS ?_ GE230.out))) : w.heap.size ≤ gb257))
                      have n5_ := am ((by rw [hg]; exact (below_size (by repeat (with_reducible first | exact HB.out | apply lA | apply lN | apply lD | refine lS ?_ GE229.out | refine lS ?_ GE230.out))) : w.heap.size ≤ gb257))
                      have n6_ := am ((by rw [hg]; exact Nat.ne_of_lt (blk_lt (g := gb229) (o := .cells #[.int .i64 2, .string (⟨#[]⟩ : ByteArray), .int .i64 0] 44 (0, 0)) (by (with_reducible repeat (first | refine bN ?_ _ | refine bD ?_ | refine bA ?_ _)); exact BK229.out)) : gb229 ≠ gb257))
                      have n7_ := am ((by rw [hg]; exact Nat.ne_of_gt (blk_lt (g := gb229) (o := .cells #[.int .i64 2, .string (⟨#[]⟩ : ByteArray), .int .i64 0] 44 (0, 0)) (by (with_reducible repeat (first | refine bN ?_ _ | refine bD ?_ | refine bA ?_ _)); exact BK229.out)) : gb257 ≠ gb229))
                      have n8_ := am ((by rw [hg]; exact Nat.ne_of_lt (blk_lt (g := gb230) (o := .cells #[.int .i64 3, .string (⟨#[]⟩ : ByteArray), .int .i64 0] 44 (0, 0)) (by (with_reducible repeat (first | refine bN ?_ _ | refine bD ?_ | refine bA ?_ _)); exact BK230.out)) : gb230 ≠ gb257))
                      have n9_ := am ((by rw [hg]; exact Nat.ne_of_gt (blk_lt (g := gb230) (o := .cells #[.int .i64 3, .string (⟨#[]⟩ : ByteArray), .int .i64 0] 44 (0, 0)) (by (with_reducible repeat (first | refine bN ?_ _ | refine bD ?_ | refine bA ?_ _)); exact BK230.out)) : gb257 ≠ gb230))
                      clear BK229
                      clear BK230
                      clear HB
                      have BK229 := n0_
                      have BK230 := n1_
                      have HB := n2_
                      have BK257 := n3_
                      have GW257 := n4_
                      have GE257 := n5_
                      have NB229_257 := n6_
                      have NB257_229 := n7_
                      have NB230_257 := n8_
                      have NB257_230 := n9_
                      clear n0_ n1_ n2_ n3_ n4_ n5_ n6_ n7_ n8_ n9_
                      clear hb hbox hg
                      refine hK.out _ _ ⟨(bC BK229.out 0).trans rfl, (bC BK229.out 1).trans rfl, (bC BK229.out 2).trans rfl, (bC BK230.out 0).trans rfl, (bC BK230.out 1).trans rfl, (bC BK230.out 2).trans rfl⟩ (fun hHeld => ?_)
                      clear hK K
                      refine norm_ (a' := ?_) ?_ ?_
                      rotate_left
                      ·show Act.put _ (some 4) _ = _
                       simp only [Act.put, List.setIfInBounds_toArray, List.set_cons_zero, List.set_cons_succ, i64_w, i32_w]
                       rfl
                      exact norm_ (by first | (simp only [putAll, Act.put, List.setIfInBounds_toArray, List.set_cons_zero, List.set_cons_succ]; done) | (simp only [putAll, Act.put, List.setIfInBounds_toArray, List.set_cons_zero, List.set_cons_succ]; rfl)) (hJ0_2_3_6_17 (gb257) _ ⟨hHeld, (by (with_reducible repeat (first | refine bN ?_ _ | refine bD ?_ | refine bA ?_ _)); exact BK229.out), (by (with_reducible repeat (first | refine bN ?_ _ | refine bD ?_ | refine bA ?_ _)); exact BK230.out), (by (with_reducible repeat (first | refine bN ?_ _ | refine bD ?_ | refine bA ?_ _)); exact BK257.out), GW257.out, GE257.out, NB229_257.out, NB257_229.out, NB230_257.out, NB257_230.out, (by repeat (with_reducible first | exact HB.out | apply lA | apply lN | apply lD | refine lS ?_ GE229.out | refine lS ?_ GE230.out | refine lS ?_ GE257.out))⟩)
                   ·skip
                    rintro gb257 w37 ⟨hS_, h0_, h1_, h2_, h3_, h4_, h5_, h6_, h7_, h8_, h9_⟩
                    have n0_ : Aside0 (w37.heap[gb229]? = some (.cells #[.int .i64 2, .string (⟨#[]⟩ : ByteArray), .int .i64 0] 44 (0, 0))) := ⟨h0_⟩
                    have n1_ : Aside0 (w37.heap[gb230]? = some (.cells #[.int .i64 3, .string (⟨#[]⟩ : ByteArray), .int .i64 0] 44 (0, 0))) := ⟨h1_⟩
                    have n2_ : Aside0 (w37.heap[gb257]? = some (.cells #[.int .i64 0, .int .i64 0] 26 (0, 0))) := ⟨h2_⟩
                    have n3_ : Aside0 (w.heap.size ≤ gb257) := ⟨h3_⟩
                    have n4_ : Aside0 (w.heap.size ≤ gb257) := ⟨h4_⟩
                    have n5_ : Aside0 (gb229 ≠ gb257) := ⟨h5_⟩
                    have n6_ : Aside0 (gb257 ≠ gb229) := ⟨h6_⟩
                    have n7_ : Aside0 (gb230 ≠ gb257) := ⟨h7_⟩
                    have n8_ : Aside0 (gb257 ≠ gb230) := ⟨h8_⟩
                    have n9_ : Aside0 (Below w.heap.size w w37) := ⟨h9_⟩
                    clear BK229
                    clear BK230
                    clear HB
                    clear h0_ h1_ h2_ h3_ h4_ h5_ h6_ h7_ h8_ h9_
                    have BK229 := n0_
                    have BK230 := n1_
                    have BK257 := n2_
                    have GW257 := n3_
                    have GE257 := n4_
                    have NB229_257 := n5_
                    have NB257_229 := n6_
                    have NB230_257 := n7_
                    have NB257_230 := n8_
                    have HB := n9_
                    clear n0_ n1_ n2_ n3_ n4_ n5_ n6_ n7_ n8_ n9_
                    have hHeld : w37.cell? ⟨gb229, 0, none⟩ = some (.int .i64 2) ∧ w37.cell? ⟨gb229, 1, none⟩ = some (.string (⟨#[]⟩ : ByteArray)) ∧ w37.cell? ⟨gb229, 2, none⟩ = some (.int .i64 0) ∧ w37.cell? ⟨gb230, 0, none⟩ = some (.int .i64 3) ∧ w37.cell? ⟨gb230, 1, none⟩ = some (.string (⟨#[]⟩ : ByteArray)) ∧ w37.cell? ⟨gb230, 2, none⟩ = some (.int .i64 0) := hS_
                    refine norm_ (a' := ?_) ?_ ?_
                    rotate_left
                    ·simp only [putAll, Act.put, List.setIfInBounds_toArray, List.set_cons_zero, List.set_cons_succ]
                     rfl
                    refine one_ (i := 8) (N := some 22) #[true, true, true, true, true, true, true, true, true, true, true, false, false, false, false, false, false, true, false, false] rfl rfl (one_of HT_.out (by kernel_rfl)) (by decide) (fun K hK => ?_)
                    refine goes_ Try.func24 (by kernel_rfl) rfl #[.string (⟨#[99]⟩ : ByteArray)] (by rfl) rfl rfl (by (try simp only [List.map_toArray, List.map_cons, List.map_nil]); first | done | rfl | (simp only [List.length_drop, List.length_take]; rfl)) ?_
                    with_reducible refine (variorumlaw06_word.calls (⟨#[99]⟩ : ByteArray) t243 t244 t245 _ A5.out).mono ?_
                    rintro e w38 ⟨rfl, hb⟩
                    refine ⟨_, rfl, ?_⟩
                    have n0_ := am (bB (g := gb229) (o := .cells #[.int .i64 2, .string (⟨#[]⟩ : ByteArray), .int .i64 0] 44 (0, 0)) (by (with_reducible repeat (first | refine bN ?_ _ | refine bD ?_ | refine bA ?_ _)); exact BK229.out) hb)
                    have n1_ := am (bB (g := gb230) (o := .cells #[.int .i64 3, .string (⟨#[]⟩ : ByteArray), .int .i64 0] 44 (0, 0)) (by (with_reducible repeat (first | refine bN ?_ _ | refine bD ?_ | refine bA ?_ _)); exact BK230.out) hb)
                    have n2_ := am (bB (g := gb257) (o := .cells #[.int .i64 0, .int .i64 0] 26 (0, 0)) (by (with_reducible repeat (first | refine bN ?_ _ | refine bD ?_ | refine bA ?_ _)); exact BK257.out) hb)
                    have n3_ := am (below_step (by repeat (with_reducible first | exact HB.out | apply lA | apply lN | apply lD | refine lS ?_ GE229.out | refine lS ?_ GE230.out | refine lS ?_ GE257.out)) hb)
                    clear BK229
                    clear BK230
                    clear BK257
                    clear HB
                    have BK229 := n0_
                    have BK230 := n1_
                    have BK257 := n2_
                    have HB := n3_
                    clear n0_ n1_ n2_ n3_
                    (try clear hb)
                    (try clear hb2)
                    (try clear hk)
                    (try clear hi)
                    refine hK.out _ _ ⟨(bC BK229.out 0).trans rfl, (bC BK229.out 1).trans rfl, (bC BK229.out 2).trans rfl, (bC BK230.out 0).trans rfl, (bC BK230.out 1).trans rfl, (bC BK230.out 2).trans rfl⟩ (fun hHeld => ?_)
                    clear hK K
                    refine norm_ (a' := ?_) ?_ ?_
                    rotate_left
                    ·show Act.put _ (some 22) _ = _
                     simp only [Act.put, List.setIfInBounds_toArray, List.set_cons_zero, List.set_cons_succ, i64_w, i32_w]
                     rfl
                    exact norm_ (by first | (simp only [putAll, Act.put, List.setIfInBounds_toArray, List.set_cons_zero, List.set_cons_succ]; done) | (simp only [putAll, Act.put, List.setIfInBounds_toArray, List.set_cons_zero, List.set_cons_succ]; rfl)) (hJ0_2_3_6_8_17 (gb257) _ ⟨hHeld, (by (with_reducible repeat (first | refine bN ?_ _ | refine bD ?_ | refine bA ?_ _)); exact BK229.out), (by (with_reducible repeat (first | refine bN ?_ _ | refine bD ?_ | refine bA ?_ _)); exact BK230.out), (by (with_reducible repeat (first | refine bN ?_ _ | refine bD ?_ | refine bA ?_ _)); exact BK257.out), GW257.out, GE257.out, NB229_257.out, NB257_229.out, NB230_257.out, NB257_230.out, (by repeat (with_reducible first | exact HB.out | apply lA | apply lN | apply lD | refine lS ?_ GE229.out | refine lS ?_ GE230.out | refine lS ?_ GE257.out))⟩)
                  ·skip
                   rintro _ w37 ⟨hS_, h0_, h1_, h2_⟩
                   have n0_ : Aside0 (w37.heap[gb229]? = some (.cells #[.int .i64 2, .string (⟨#[]⟩ : ByteArray), .int .i64 0] 44 (0, 0))) := ⟨h0_⟩
                   have n1_ : Aside0 (w37.heap[gb230]? = some (.cells #[.int .i64 3, .string (⟨#[]⟩ : ByteArray), .int .i64 0] 44 (0, 0))) := ⟨h1_⟩
                   have n2_ : Aside0 (Below w.heap.size w w37) := ⟨h2_⟩
                   clear BK229
                   clear BK230
                   clear HB
                   clear h0_ h1_ h2_
                   have BK229 := n0_
                   have BK230 := n1_
                   have HB := n2_
                   clear n0_ n1_ n2_
                   have hHeld : w37.cell? ⟨gb229, 0, none⟩ = some (.int .i64 2) ∧ w37.cell? ⟨gb229, 1, none⟩ = some (.string (⟨#[]⟩ : ByteArray)) ∧ w37.cell? ⟨gb229, 2, none⟩ = some (.int .i64 0) ∧ w37.cell? ⟨gb230, 0, none⟩ = some (.int .i64 3) ∧ w37.cell? ⟨gb230, 1, none⟩ = some (.string (⟨#[]⟩ : ByteArray)) ∧ w37.cell? ⟨gb230, 2, none⟩ = some (.int .i64 0) := hS_
                   refine norm_ (a' := ?_) ?_ ?_
                   rotate_left
                   ·simp only [putAll, Act.put, List.setIfInBounds_toArray, List.set_cons_zero, List.set_cons_succ]
                    rfl
                   refine two_ (i := 11) (j := 17) (Ni := some 25) (Nj := some 4) #[true, true, true, true, true, true, true, true, true, true, true, true, false, false, false, false, false, false, false, false] #[true, true, true, true, true, true, true, true, true, true, true, false, false, false, false, false, false, true, false, false] rfl rfl rfl rfl (two_of HT_.out (by kernel_rfl)) (by decide) (by decide) (fun K hK => ?_) (fun K hK => ?_)
                   ·skip
                    refine goes_ Try.func24 (by kernel_rfl) rfl #[.string (⟨#[100]⟩ : ByteArray)] (by rfl) rfl rfl (by (try simp only [List.map_toArray, List.map_cons, List.map_nil]); first | done | rfl | (simp only [List.length_drop, List.length_take]; rfl)) ?_
                    with_reducible refine (variorumlaw06_word.calls (⟨#[100]⟩ : ByteArray) t246 t247 t248 _ A6.out).mono ?_
                    rintro e w38 ⟨rfl, hb⟩
                    refine ⟨_, rfl, ?_⟩
                    have n0_ := am (bB (g := gb229) (o := .cells #[.int .i64 2, .string (⟨#[]⟩ : ByteArray), .int .i64 0] 44 (0, 0)) (by (with_reducible repeat (first | refine bN ?_ _ | refine bD ?_ | refine bA ?_ _)); exact BK229.out) hb)
                    have n1_ := am (bB (g := gb230) (o := .cells #[.int .i64 3, .string (⟨#[]⟩ : ByteArray), .int .i64 0] 44 (0, 0)) (by (with_reducible repeat (first | refine bN ?_ _ | refine bD ?_ | refine bA ?_ _)); exact BK230.out) hb)
                    have n2_ := am (below_step (by repeat (with_reducible first | exact HB.out | apply lA | apply lN | apply lD | refine lS ?_ GE229.out | refine lS ?_ GE230.out)) hb)
                    clear BK229
                    clear BK230
                    clear HB
                    have BK229 := n0_
                    have BK230 := n1_
                    have HB := n2_
                    clear n0_ n1_ n2_
                    (try clear hb)
                    (try clear hb2)
                    (try clear hk)
                    (try clear hi)
                    refine hK.out _ _ ⟨(bC BK229.out 0).trans rfl, (bC BK229.out 1).trans rfl, (bC BK229.out 2).trans rfl, (bC BK230.out 0).trans rfl, (bC BK230.out 1).trans rfl, (bC BK230.out 2).trans rfl⟩ (fun hHeld => ?_)
                    clear hK K
                    refine norm_ (a' := ?_) ?_ ?_
                    rotate_left
                    ·show Act.put _ (some 25) _ = _
                     simp only [Act.put, List.setIfInBounds_toArray, List.set_cons_zero, List.set_cons_succ, i64_w, i32_w]
                     rfl
                    exact norm_ (by first | (simp only [putAll, Act.put, List.setIfInBounds_toArray, List.set_cons_zero, List.set_cons_succ]; done) | (simp only [putAll, Act.put, List.setIfInBounds_toArray, List.set_cons_zero, List.set_cons_succ]; rfl)) (hJ0_2_3_6_8_11 () _ ⟨hHeld, (by (with_reducible repeat (first | refine bN ?_ _ | refine bD ?_ | refine bA ?_ _)); exact BK229.out), (by (with_reducible repeat (first | refine bN ?_ _ | refine bD ?_ | refine bA ?_ _)); exact BK230.out), (by repeat (with_reducible first | exact HB.out | apply lA | apply lN | apply lD | refine lS ?_ GE229.out | refine lS ?_ GE230.out))⟩)
                   ·skip
                    refine box_step ?hg (N := 4) ?hd (cs := #[.int .i64 0, .int .i64 0]) (t := 26) ?hr ?_; (case hd => rfl); (case hg => rfl); (case hr => first | (go_simp; done) | (go_simp; rfl))
                    intro gb257 hg w38 hbox hb
                    have n0_ := am (bB (g := gb229) (o := .cells #[.int .i64 2, .string (⟨#[]⟩ : ByteArray), .int .i64 0] 44 (0, 0)) (by (with_reducible repeat (first | refine bN ?_ _ | refine bD ?_ | refine bA ?_ _)); exact BK229.out) hb)
                    have n1_ := am (bB (g := gb230) (o := .cells #[.int .i64 3, .string (⟨#[]⟩ : ByteArray), .int .i64 0] 44 (0, 0)) (by (with_reducible repeat (first | refine bN ?_ _ | refine bD ?_ | refine bA ?_ _)); exact BK230.out) hb)
                    have n2_ := am (below_step (by repeat (with_reducible first | exact HB.out | apply lA | apply lN | apply lD | refine lS ?_ GE229.out | refine lS ?_ GE230.out)) hb)
                    have n3_ := am (hbox)
                    have n4_ := am ((by rw [hg]; exact (below_size (by repeat (with_reducible first | exact HB.out | apply lA | apply lN | apply lD | refine lS ?_ GE229.out | refine lS ?_ GE230.out))) : w.heap.size ≤ gb257))
                    have n5_ := am ((by rw [hg]; exact (below_size (by repeat (with_reducible first | exact HB.out | apply lA | apply lN | apply lD | refine lS ?_ GE229.out | refine lS ?_ GE230.out))) : w.heap.size ≤ gb257))
                    have n6_ := am ((by rw [hg]; exact Nat.ne_of_lt (blk_lt (g := gb229) (o := .cells #[.int .i64 2, .string (⟨#[]⟩ : ByteArray), .int .i64 0] 44 (0, 0)) (by (with_reducible repeat (first | refine bN ?_ _ | refine bD ?_ | refine bA ?_ _)); exact BK229.out)) : gb229 ≠ gb257))
                    have n7_ := am ((by rw [hg]; exact Nat.ne_of_gt (blk_lt (g := gb229) (o := .cells #[.int .i64 2, .string (⟨#[]⟩ : ByteArray), .int .i64 0] 44 (0, 0)) (by (with_reducible repeat (first | refine bN ?_ _ | refine bD ?_ | refine bA ?_ _)); exact BK229.out)) : gb257 ≠ gb229))
                    have n8_ := am ((by rw [hg]; exact Nat.ne_of_lt (blk_lt (g := gb230) (o := .cells #[.int .i64 3, .string (⟨#[]⟩ : ByteArray), .int .i64 0] 44 (0, 0)) (by (with_reducible repeat (first | refine bN ?_ _ | refine bD ?_ | refine bA ?_ _)); exact BK230.out)) : gb230 ≠ gb257))
                    have n9_ := am ((by rw [hg]; exact Nat.ne_of_gt (blk_lt (g := gb230) (o := .cells #[.int .i64 3, .string (⟨#[]⟩ : ByteArray), .int .i64 0] 44 (0, 0)) (by (with_reducible repeat (first | refine bN ?_ _ | refine bD ?_ | refine bA ?_ _)); exact BK230.out)) : gb257 ≠ gb230))
                    clear BK229
                    clear BK230
                    clear HB
                    have BK229 := n0_
                    have BK230 := n1_
                    have HB := n2_
                    have BK257 := n3_
                    have GW257 := n4_
                    have GE257 := n5_
                    have NB229_257 := n6_
                    have NB257_229 := n7_
                    have NB230_257 := n8_
                    have NB257_230 := n9_
                    clear n0_ n1_ n2_ n3_ n4_ n5_ n6_ n7_ n8_ n9_
                    clear hb hbox hg
                    refine hK.out _ _ ⟨(bC BK229.out 0).trans rfl, (bC BK229.out 1).trans rfl, (bC BK229.out 2).trans rfl, (bC BK230.out 0).trans rfl, (bC BK230.out 1).trans rfl, (bC BK230.out 2).trans rfl⟩ (fun hHeld => ?_)
                    clear hK K
                    refine norm_ (a' := ?_) ?_ ?_
                    rotate_left
                    ·show Act.put _ (some 4) _ = _
                     simp only [Act.put, List.setIfInBounds_toArray, List.set_cons_zero, List.set_cons_succ, i64_w, i32_w]
                     rfl
                    exact norm_ (by first | (simp only [putAll, Act.put, List.setIfInBounds_toArray, List.set_cons_zero, List.set_cons_succ]; done) | (simp only [putAll, Act.put, List.setIfInBounds_toArray, List.set_cons_zero, List.set_cons_succ]; rfl)) (hJ0_2_3_6_8_17 (gb257) _ ⟨hHeld, (by (with_reducible repeat (first | refine bN ?_ _ | refine bD ?_ | refine bA ?_ _)); exact BK229.out), (by (with_reducible repeat (first | refine bN ?_ _ | refine bD ?_ | refine bA ?_ _)); exact BK230.out), (by (with_reducible repeat (first | refine bN ?_ _ | refine bD ?_ | refine bA ?_ _)); exact BK257.out), GW257.out, GE257.out, NB229_257.out, NB257_229.out, NB230_257.out, NB257_230.out, (by repeat (with_reducible first | exact HB.out | apply lA | apply lN | apply lD | refine lS ?_ GE229.out | refine lS ?_ GE230.out | refine lS ?_ GE257.out))⟩)
                 ·skip
                  rintro gb257 w38 ⟨hS_, h0_, h1_, h2_, h3_, h4_, h5_, h6_, h7_, h8_, h9_⟩
                  have n0_ : Aside0 (w38.heap[gb229]? = some (.cells #[.int .i64 2, .string (⟨#[]⟩ : ByteArray), .int .i64 0] 44 (0, 0))) := ⟨h0_⟩
                  have n1_ : Aside0 (w38.heap[gb230]? = some (.cells #[.int .i64 3, .string (⟨#[]⟩ : ByteArray), .int .i64 0] 44 (0, 0))) := ⟨h1_⟩
                  have n2_ : Aside0 (w38.heap[gb257]? = some (.cells #[.int .i64 0, .int .i64 0] 26 (0, 0))) := ⟨h2_⟩
                  have n3_ : Aside0 (w.heap.size ≤ gb257) := ⟨h3_⟩
                  have n4_ : Aside0 (w.heap.size ≤ gb257) := ⟨h4_⟩
                  have n5_ : Aside0 (gb229 ≠ gb257) := ⟨h5_⟩
                  have n6_ : Aside0 (gb257 ≠ gb229) := ⟨h6_⟩
                  have n7_ : Aside0 (gb230 ≠ gb257) := ⟨h7_⟩
                  have n8_ : Aside0 (gb257 ≠ gb230) := ⟨h8_⟩
                  have n9_ : Aside0 (Below w.heap.size w w38) := ⟨h9_⟩
                  clear BK229
                  clear BK230
                  clear HB
                  clear h0_ h1_ h2_ h3_ h4_ h5_ h6_ h7_ h8_ h9_
                  have BK229 := n0_
                  have BK230 := n1_
                  have BK257 := n2_
                  have GW257 := n3_
                  have GE257 := n4_
                  have NB229_257 := n5_
                  have NB257_229 := n6_
                  have NB230_257 := n7_
                  have NB257_230 := n8_
                  have HB := n9_
                  clear n0_ n1_ n2_ n3_ n4_ n5_ n6_ n7_ n8_ n9_
                  have hHeld : w38.cell? ⟨gb229, 0, none⟩ = some (.int .i64 2) ∧ w38.cell? ⟨gb229, 1, none⟩ = some (.string (⟨#[]⟩ : ByteArray)) ∧ w38.cell? ⟨gb229, 2, none⟩ = some (.int .i64 0) ∧ w38.cell? ⟨gb230, 0, none⟩ = some (.int .i64 3) ∧ w38.cell? ⟨gb230, 1, none⟩ = some (.string (⟨#[]⟩ : ByteArray)) ∧ w38.cell? ⟨gb230, 2, none⟩ = some (.int .i64 0) := hS_
                  refine norm_ (a' := ?_) ?_ ?_
                  rotate_left
                  ·simp only [putAll, Act.put, List.setIfInBounds_toArray, List.set_cons_zero, List.set_cons_succ]
                   rfl
                  refine one_ (i := 11) (N := some 25) #[true, true, true, true, true, true, true, true, true, true, true, true, false, false, false, false, false, true, false, false] rfl rfl (one_of HT_.out (by kernel_rfl)) (by decide) (fun K hK => ?_)
                  refine goes_ Try.func24 (by kernel_rfl) rfl #[.string (⟨#[100]⟩ : ByteArray)] (by rfl) rfl rfl (by (try simp only [List.map_toArray, List.map_cons, List.map_nil]); first | done | rfl | (simp only [List.length_drop, List.length_take]; rfl)) ?_
                  with_reducible refine (variorumlaw06_word.calls (⟨#[100]⟩ : ByteArray) t246 t247 t248 _ A6.out).mono ?_
                  rintro e w39 ⟨rfl, hb⟩
                  refine ⟨_, rfl, ?_⟩
                  have n0_ := am (bB (g := gb229) (o := .cells #[.int .i64 2, .string (⟨#[]⟩ : ByteArray), .int .i64 0] 44 (0, 0)) (by (with_reducible repeat (first | refine bN ?_ _ | refine bD ?_ | refine bA ?_ _)); exact BK229.out) hb)
                  have n1_ := am (bB (g := gb230) (o := .cells #[.int .i64 3, .string (⟨#[]⟩ : ByteArray), .int .i64 0] 44 (0, 0)) (by (with_reducible repeat (first | refine bN ?_ _ | refine bD ?_ | refine bA ?_ _)); exact BK230.out) hb)
                  have n2_ := am (bB (g := gb257) (o := .cells #[.int .i64 0, .int .i64 0] 26 (0, 0)) (by (with_reducible repeat (first | refine bN ?_ _ | refine bD ?_ | refine bA ?_ _)); exact BK257.out) hb)
                  have n3_ := am (below_step (by repeat (with_reducible first | exact HB.out | apply lA | apply lN | apply lD | refine lS ?_ GE229.out | refine lS ?_ GE230.out | refine lS ?_ GE257.out)) hb)
                  clear BK229
                  clear BK230
                  clear BK257
                  clear HB
                  have BK229 := n0_
                  have BK230 := n1_
                  have BK257 := n2_
                  have HB := n3_
                  clear n0_ n1_ n2_ n3_
                  (try clear hb)
                  (try clear hb2)
                  (try clear hk)
                  (try clear hi)
                  refine hK.out _ _ ⟨(bC BK229.out 0).trans rfl, (bC BK229.out 1).trans rfl, (bC BK229.out 2).trans rfl, (bC BK230.out 0).trans rfl, (bC BK230.out 1).trans rfl, (bC BK230.out 2).trans rfl⟩ (fun hHeld => ?_)
                  clear hK K
                  refine norm_ (a' := ?_) ?_ ?_
                  rotate_left
                  ·show Act.put _ (some 25) _ = _
                   simp only [Act.put, List.setIfInBounds_toArray, List.set_cons_zero, List.set_cons_succ, i64_w, i32_w]
                   rfl
                  exact norm_ (by first | (simp only [putAll, Act.put, List.setIfInBounds_toArray, List.set_cons_zero, List.set_cons_succ]; done) | (simp only [putAll, Act.put, List.setIfInBounds_toArray, List.set_cons_zero, List.set_cons_succ]; rfl)) (hJ0_2_3_6_8_11_17 (gb257) _ ⟨hHeld, (by (with_reducible repeat (first | refine bN ?_ _ | refine bD ?_ | refine bA ?_ _)); exact BK229.out), (by (with_reducible repeat (first | refine bN ?_ _ | refine bD ?_ | refine bA ?_ _)); exact BK230.out), (by (with_reducible repeat (first | refine bN ?_ _ | refine bD ?_ | refine bA ?_ _)); exact BK257.out), GW257.out, GE257.out, NB229_257.out, NB257_229.out, NB230_257.out, NB257_230.out, (by repeat (with_reducible first | exact HB.out | apply lA | apply lN | apply lD | refine lS ?_ GE229.out | refine lS ?_ GE230.out | refine lS ?_ GE257.out))⟩)
                ·skip
                 rintro _ w38 ⟨hS_, h0_, h1_, h2_⟩
                 have n0_ : Aside0 (w38.heap[gb229]? = some (.cells #[.int .i64 2, .string (⟨#[]⟩ : ByteArray), .int .i64 0] 44 (0, 0))) := ⟨h0_⟩
                 have n1_ : Aside0 (w38.heap[gb230]? = some (.cells #[.int .i64 3, .string (⟨#[]⟩ : ByteArray), .int .i64 0] 44 (0, 0))) := ⟨h1_⟩
                 have n2_ : Aside0 (Below w.heap.size w w38) := ⟨h2_⟩
                 clear BK229
                 clear BK230
                 clear HB
                 clear h0_ h1_ h2_
                 have BK229 := n0_
                 have BK230 := n1_
                 have HB := n2_
                 clear n0_ n1_ n2_
                 have hHeld : w38.cell? ⟨gb229, 0, none⟩ = some (.int .i64 2) ∧ w38.cell? ⟨gb229, 1, none⟩ = some (.string (⟨#[]⟩ : ByteArray)) ∧ w38.cell? ⟨gb229, 2, none⟩ = some (.int .i64 0) ∧ w38.cell? ⟨gb230, 0, none⟩ = some (.int .i64 3) ∧ w38.cell? ⟨gb230, 1, none⟩ = some (.string (⟨#[]⟩ : ByteArray)) ∧ w38.cell? ⟨gb230, 2, none⟩ = some (.int .i64 0) := hS_
                 refine norm_ (a' := ?_) ?_ ?_
                 rotate_left
                 ·simp only [putAll, Act.put, List.setIfInBounds_toArray, List.set_cons_zero, List.set_cons_succ]
                  rfl
                 refine two_ (i := 12) (j := 17) (Ni := some 26) (Nj := some 4) #[true, true, true, true, true, true, true, true, true, true, true, true, true, false, false, false, false, false, false, false] #[true, true, true, true, true, true, true, true, true, true, true, true, false, false, false, false, false, true, false, false] rfl rfl rfl rfl (two_of HT_.out (by kernel_rfl)) (by decide) (by decide) (fun K hK => ?_) (fun K hK => ?_)
                 ·skip
                  refine Kd.R_lit_step k44 _ 44 ?hg (N := 26) ?hd (xs := ([(⟨t231, t232, t233⟩ : S44), (⟨2, (⟨#[]⟩ : ByteArray), 0⟩ : S44), (⟨t234, t235, t236⟩ : S44), (⟨t237, t238, t239⟩ : S44), (⟨3, (⟨#[]⟩ : ByteArray), 0⟩ : S44), (⟨2, (⟨#[]⟩ : ByteArray), 0⟩ : S44), (⟨t240, t241, t242⟩ : S44), (⟨2, (⟨#[]⟩ : ByteArray), 0⟩ : S44), (⟨t243, t244, t245⟩ : S44), (⟨3, (⟨#[]⟩ : ByteArray), 0⟩ : S44), (⟨3, (⟨#[]⟩ : ByteArray), 0⟩ : S44), (⟨t246, t247, t248⟩ : S44)] : List (S44))) (inner := [.int .i64 t231, .string t232, .int .i64 t233, .int .i64 2, .string (⟨#[]⟩ : ByteArray), .int .i64 0, .int .i64 t234, .string t235, .int .i64 t236, .int .i64 t237, .string t238, .int .i64 t239, .int .i64 3, .string (⟨#[]⟩ : ByteArray), .int .i64 0, .int .i64 2, .string (⟨#[]⟩ : ByteArray), .int .i64 0, .int .i64 t240, .string t241, .int .i64 t242, .int .i64 2, .string (⟨#[]⟩ : ByteArray), .int .i64 0, .int .i64 t243, .string t244, .int .i64 t245, .int .i64 3, .string (⟨#[]⟩ : ByteArray), .int .i64 0, .int .i64 3, .string (⟨#[]⟩ : ByteArray), .int .i64 0, .int .i64 t246, .string t247, .int .i64 t248]) (ok := fun _ => True) (okp := fun _ => True) ?hr ?hp (fun _ hk => hk) trivial (Below.refl _ _) (Nat.le_refl _) (by simp) ?_; (case hd => rfl); (case hg => rfl); (case hr => first | (go_simp; done) | (go_simp; rfl)); (case hp => exact (Reps.c3 (show Kd.M k44 _ _ _ (⟨t231, t232, t233⟩ : S44) [.int .i64 t231, .string t232, .int .i64 t233] from (k44_mkM _ _ _ (⟨t231, t232, t233⟩ : S44) )) (Reps.c3 (show Kd.M k44 _ _ _ (⟨2, (⟨#[]⟩ : ByteArray), 0⟩ : S44) [.int .i64 2, .string (⟨#[]⟩ : ByteArray), .int .i64 0] from (k44_mkM _ _ _ (⟨2, (⟨#[]⟩ : ByteArray), 0⟩ : S44) )) (Reps.c3 (show Kd.M k44 _ _ _ (⟨t234, t235, t236⟩ : S44) [.int .i64 t234, .string t235, .int .i64 t236] from (k44_mkM _ _ _ (⟨t234, t235, t236⟩ : S44) )) (Reps.c3 (show Kd.M k44 _ _ _ (⟨t237, t238, t239⟩ : S44) [.int .i64 t237, .string t238, .int .i64 t239] from (k44_mkM _ _ _ (⟨t237, t238, t239⟩ : S44) )) (Reps.c3 (show Kd.M k44 _ _ _ (⟨3, (⟨#[]⟩ : ByteArray), 0⟩ : S44) [.int .i64 3, .string (⟨#[]⟩ : ByteArray), .int .i64 0] from (k44_mkM _ _ _ (⟨3, (⟨#[]⟩ : ByteArray), 0⟩ : S44) )) (Reps.c3 (show Kd.M k44 _ _ _ (⟨2, (⟨#[]⟩ : ByteArray), 0⟩ : S44) [.int .i64 2, .string (⟨#[]⟩ : ByteArray), .int .i64 0] from (k44_mkM _ _ _ (⟨2, (⟨#[]⟩ : ByteArray), 0⟩ : S44) )) (Reps.c3 (show Kd.M k44 _ _ _ (⟨t240, t241, t242⟩ : S44) [.int .i64 t240, .string t241, .int .i64 t242] from (k44_mkM _ _ _ (⟨t240, t241, t242⟩ : S44) )) (Reps.c3 (show Kd.M k44 _ _ _ (⟨2, (⟨#[]⟩ : ByteArray), 0⟩ : S44) [.int .i64 2, .string (⟨#[]⟩ : ByteArray), .int .i64 0] from (k44_mkM _ _ _ (⟨2, (⟨#[]⟩ : ByteArray), 0⟩ : S44) )) (Reps.c3 (show Kd.M k44 _ _ _ (⟨t243, t244, t245⟩ : S44) [.int .i64 t243, .string t244, .int .i64 t245] from (k44_mkM _ _ _ (⟨t243, t244, t245⟩ : S44) )) (Reps.c3 (show Kd.M k44 _ _ _ (⟨3, (⟨#[]⟩ : ByteArray), 0⟩ : S44) [.int .i64 3, .string (⟨#[]⟩ : ByteArray), .int .i64 0] from (k44_mkM _ _ _ (⟨3, (⟨#[]⟩ : ByteArray), 0⟩ : S44) )) (Reps.c3 (show Kd.M k44 _ _ _ (⟨3, (⟨#[]⟩ : ByteArray), 0⟩ : S44) [.int .i64 3, .string (⟨#[]⟩ : ByteArray), .int .i64 0] from (k44_mkM _ _ _ (⟨3, (⟨#[]⟩ : ByteArray), 0⟩ : S44) )) (Reps.c3 (show Kd.M k44 _ _ _ (⟨t246, t247, t248⟩ : S44) [.int .i64 t246, .string t247, .int .i64 t248] from (k44_mkM _ _ _ (⟨t246, t247, t248⟩ : S44) )) (Reps.none _ _))))))))))))))
                  intro v250 w39 ho40 hb hg_ hnew_
                  clear hg_ hnew_
                  (first | rw [← Ny249.out] at ho40 | (simp only [Int.reduceToNat] at ho40; rw [← Ny249.out] at ho40))
                  have n0_ := am (Kd.R_lower (Kd.R_newB (Kd.R_newB ho40 (g := gb229) (o := .cells #[.int .i64 2, .string (⟨#[]⟩ : ByteArray), .int .i64 0] 44 (0, 0)) (by (with_reducible repeat (first | refine bN ?_ _ | refine bD ?_ | refine bA ?_ _)); exact BK229.out)) (g := gb230) (o := .cells #[.int .i64 3, .string (⟨#[]⟩ : ByteArray), .int .i64 0] 44 (0, 0)) (by (with_reducible repeat (first | refine bN ?_ _ | refine bD ?_ | refine bA ?_ _)); exact BK230.out)) (below_size (by repeat (with_reducible first | exact HB.out | apply lA | apply lN | apply lD | refine lS ?_ GE229.out | refine lS ?_ GE230.out))))
                  have n1_ := am (bB (g := gb229) (o := .cells #[.int .i64 2, .string (⟨#[]⟩ : ByteArray), .int .i64 0] 44 (0, 0)) (by (with_reducible repeat (first | refine bN ?_ _ | refine bD ?_ | refine bA ?_ _)); exact BK229.out) hb)
                  have n2_ := am (bB (g := gb230) (o := .cells #[.int .i64 3, .string (⟨#[]⟩ : ByteArray), .int .i64 0] 44 (0, 0)) (by (with_reducible repeat (first | refine bN ?_ _ | refine bD ?_ | refine bA ?_ _)); exact BK230.out) hb)
                  have n3_ := am (below_step (by repeat (with_reducible first | exact HB.out | apply lA | apply lN | apply lD | refine lS ?_ GE229.out | refine lS ?_ GE230.out)) hb)
                  clear BK229
                  clear BK230
                  clear HB
                  have HO251 := n0_
                  have BK229 := n1_
                  have BK230 := n2_
                  have HB := n3_
                  clear n0_ n1_ n2_ n3_
                  clear hb ho40
                  refine hK.out _ _ ⟨(bC BK229.out 0).trans rfl, (bC BK229.out 1).trans rfl, (bC BK229.out 2).trans rfl, (bC BK230.out 0).trans rfl, (bC BK230.out 1).trans rfl, (bC BK230.out 2).trans rfl⟩ (fun hHeld => ?_)
                  clear hK K
                  refine norm_ (a' := ?_) ?_ ?_
                  rotate_left
                  ·show Act.put _ (some 26) _ = _
                   simp only [Act.put, List.setIfInBounds_toArray, List.set_cons_zero, List.set_cons_succ, i64_w, i32_w]
                   rfl
                  exact norm_ (by first | (simp only [putAll, Act.put, List.setIfInBounds_toArray, List.set_cons_zero, List.set_cons_succ]; done) | (simp only [putAll, Act.put, List.setIfInBounds_toArray, List.set_cons_zero, List.set_cons_succ]; rfl)) (hJ0_2_3_6_8_11_12 (v250) _ ⟨hHeld, (by (with_reducible repeat (first | apply rA | apply rN | apply rD)); exact Kd.R_mono HO251.out (fun _ hk => ⟨hk.1.2, hk.2⟩)), (by (with_reducible repeat (first | refine bN ?_ _ | refine bD ?_ | refine bA ?_ _)); exact BK229.out), (by (with_reducible repeat (first | refine bN ?_ _ | refine bD ?_ | refine bA ?_ _)); exact BK230.out), (by repeat (with_reducible first | exact HB.out | apply lA | apply lN | apply lD | refine lS ?_ GE229.out | refine lS ?_ GE230.out))⟩)
                 ·skip
                  refine box_step ?hg (N := 4) ?hd (cs := #[.int .i64 0, .int .i64 0]) (t := 26) ?hr ?_; (case hd => rfl); (case hg => rfl); (case hr => first | (go_simp; done) | (go_simp; rfl))
                  intro gb257 hg w39 hbox hb
                  have n0_ := am (bB (g := gb229) (o := .cells #[.int .i64 2, .string (⟨#[]⟩ : ByteArray), .int .i64 0] 44 (0, 0)) (by (with_reducible repeat (first | refine bN ?_ _ | refine bD ?_ | refine bA ?_ _)); exact BK229.out) hb)
                  have n1_ := am (bB (g := gb230) (o := .cells #[.int .i64 3, .string (⟨#[]⟩ : ByteArray), .int .i64 0] 44 (0, 0)) (by (with_reducible repeat (first | refine bN ?_ _ | refine bD ?_ | refine bA ?_ _)); exact BK230.out) hb)
                  have n2_ := am (below_step (by repeat (with_reducible first | exact HB.out | apply lA | apply lN | apply lD | refine lS ?_ GE229.out | refine lS ?_ GE230.out)) hb)
                  have n3_ := am (hbox)
                  have n4_ := am ((by rw [hg]; exact (below_size (by repeat (with_reducible first | exact HB.out | apply lA | apply lN | apply lD | refine lS ?_ GE229.out | refine lS ?_ GE230.out))) : w.heap.size ≤ gb257))
                  have n5_ := am ((by rw [hg]; exact (below_size (by repeat (with_reducible first | exact HB.out | apply lA | apply lN | apply lD | refine lS ?_ GE229.out | refine lS ?_ GE230.out))) : w.heap.size ≤ gb257))
                  have n6_ := am ((by rw [hg]; exact Nat.ne_of_lt (blk_lt (g := gb229) (o := .cells #[.int .i64 2, .string (⟨#[]⟩ : ByteArray), .int .i64 0] 44 (0, 0)) (by (with_reducible repeat (first | refine bN ?_ _ | refine bD ?_ | refine bA ?_ _)); exact BK229.out)) : gb229 ≠ gb257))
                  have n7_ := am ((by rw [hg]; exact Nat.ne_of_gt (blk_lt (g := gb229) (o := .cells #[.int .i64 2, .string (⟨#[]⟩ : ByteArray), .int .i64 0] 44 (0, 0)) (by (with_reducible repeat (first | refine bN ?_ _ | refine bD ?_ | refine bA ?_ _)); exact BK229.out)) : gb257 ≠ gb229))
                  have n8_ := am ((by rw [hg]; exact Nat.ne_of_lt (blk_lt (g := gb230) (o := .cells #[.int .i64 3, .string (⟨#[]⟩ : ByteArray), .int .i64 0] 44 (0, 0)) (by (with_reducible repeat (first | refine bN ?_ _ | refine bD ?_ | refine bA ?_ _)); exact BK230.out)) : gb230 ≠ gb257))
                  have n9_ := am ((by rw [hg]; exact Nat.ne_of_gt (blk_lt (g := gb230) (o := .cells #[.int .i64 3, .string (⟨#[]⟩ : ByteArray), .int .i64 0] 44 (0, 0)) (by (with_reducible repeat (first | refine bN ?_ _ | refine bD ?_ | refine bA ?_ _)); exact BK230.out)) : gb257 ≠ gb230))
                  clear BK229
                  clear BK230
                  clear HB
                  have BK229 := n0_
                  have BK230 := n1_
                  have HB := n2_
                  have BK257 := n3_
                  have GW257 := n4_
                  have GE257 := n5_
                  have NB229_257 := n6_
                  have NB257_229 := n7_
                  have NB230_257 := n8_
                  have NB257_230 := n9_
                  clear n0_ n1_ n2_ n3_ n4_ n5_ n6_ n7_ n8_ n9_
                  clear hb hbox hg
                  refine hK.out _ _ ⟨(bC BK229.out 0).trans rfl, (bC BK229.out 1).trans rfl, (bC BK229.out 2).trans rfl, (bC BK230.out 0).trans rfl, (bC BK230.out 1).trans rfl, (bC BK230.out 2).trans rfl⟩ (fun hHeld => ?_)
                  clear hK K
                  refine norm_ (a' := ?_) ?_ ?_
                  rotate_left
                  ·show Act.put _ (some 4) _ = _
                   simp only [Act.put, List.setIfInBounds_toArray, List.set_cons_zero, List.set_cons_succ, i64_w, i32_w]
                   rfl
                  exact norm_ (by first | (simp only [putAll, Act.put, List.setIfInBounds_toArray, List.set_cons_zero, List.set_cons_succ]; done) | (simp only [putAll, Act.put, List.setIfInBounds_toArray, List.set_cons_zero, List.set_cons_succ]; rfl)) (hJ0_2_3_6_8_11_17 (gb257) _ ⟨hHeld, (by (with_reducible repeat (first | refine bN ?_ _ | refine bD ?_ | refine bA ?_ _)); exact BK229.out), (by (with_reducible repeat (first | refine bN ?_ _ | refine bD ?_ | refine bA ?_ _)); exact BK230.out), (by (with_reducible repeat (first | refine bN ?_ _ | refine bD ?_ | refine bA ?_ _)); exact BK257.out), GW257.out, GE257.out, NB229_257.out, NB257_229.out, NB230_257.out, NB257_230.out, (by repeat (with_reducible first | exact HB.out | apply lA | apply lN | apply lD | refine lS ?_ GE229.out | refine lS ?_ GE230.out | refine lS ?_ GE257.out))⟩)
               ·skip
                rintro gb257 w39 ⟨hS_, h0_, h1_, h2_, h3_, h4_, h5_, h6_, h7_, h8_, h9_⟩
                have n0_ : Aside0 (w39.heap[gb229]? = some (.cells #[.int .i64 2, .string (⟨#[]⟩ : ByteArray), .int .i64 0] 44 (0, 0))) := ⟨h0_⟩
                have n1_ : Aside0 (w39.heap[gb230]? = some (.cells #[.int .i64 3, .string (⟨#[]⟩ : ByteArray), .int .i64 0] 44 (0, 0))) := ⟨h1_⟩
                have n2_ : Aside0 (w39.heap[gb257]? = some (.cells #[.int .i64 0, .int .i64 0] 26 (0, 0))) := ⟨h2_⟩
                have n3_ : Aside0 (w.heap.size ≤ gb257) := ⟨h3_⟩
                have n4_ : Aside0 (w.heap.size ≤ gb257) := ⟨h4_⟩
                have n5_ : Aside0 (gb229 ≠ gb257) := ⟨h5_⟩
                have n6_ : Aside0 (gb257 ≠ gb229) := ⟨h6_⟩
                have n7_ : Aside0 (gb230 ≠ gb257) := ⟨h7_⟩
                have n8_ : Aside0 (gb257 ≠ gb230) := ⟨h8_⟩
                have n9_ : Aside0 (Below w.heap.size w w39) := ⟨h9_⟩
                clear BK229
                clear BK230
                clear HB
                clear h0_ h1_ h2_ h3_ h4_ h5_ h6_ h7_ h8_ h9_
                have BK229 := n0_
                have BK230 := n1_
                have BK257 := n2_
                have GW257 := n3_
                have GE257 := n4_
                have NB229_257 := n5_
                have NB257_229 := n6_
                have NB230_257 := n7_
                have NB257_230 := n8_
                have HB := n9_
                clear n0_ n1_ n2_ n3_ n4_ n5_ n6_ n7_ n8_ n9_
                have hHeld : w39.cell? ⟨gb229, 0, none⟩ = some (.int .i64 2) ∧ w39.cell? ⟨gb229, 1, none⟩ = some (.string (⟨#[]⟩ : ByteArray)) ∧ w39.cell? ⟨gb229, 2, none⟩ = some (.int .i64 0) ∧ w39.cell? ⟨gb230, 0, none⟩ = some (.int .i64 3) ∧ w39.cell? ⟨gb230, 1, none⟩ = some (.string (⟨#[]⟩ : ByteArray)) ∧ w39.cell? ⟨gb230, 2, none⟩ = some (.int .i64 0) := hS_
                refine norm_ (a' := ?_) ?_ ?_
                rotate_left
                ·simp only [putAll, Act.put, List.setIfInBounds_toArray, List.set_cons_zero, List.set_cons_succ]
                 rfl
                refine one_ (i := 12) (N := some 26) #[true, true, true, true, true, true, true, true, true, true, true, true, true, false, false, false, false, true, false, false] rfl rfl (one_of HT_.out (by kernel_rfl)) (by decide) (fun K hK => ?_)
                refine Kd.R_lit_step k44 _ 44 ?hg (N := 26) ?hd (xs := ([(⟨t231, t232, t233⟩ : S44), (⟨2, (⟨#[]⟩ : ByteArray), 0⟩ : S44), (⟨t234, t235, t236⟩ : S44), (⟨t237, t238, t239⟩ : S44), (⟨3, (⟨#[]⟩ : ByteArray), 0⟩ : S44), (⟨2, (⟨#[]⟩ : ByteArray), 0⟩ : S44), (⟨t240, t241, t242⟩ : S44), (⟨2, (⟨#[]⟩ : ByteArray), 0⟩ : S44), (⟨t243, t244, t245⟩ : S44), (⟨3, (⟨#[]⟩ : ByteArray), 0⟩ : S44), (⟨3, (⟨#[]⟩ : ByteArray), 0⟩ : S44), (⟨t246, t247, t248⟩ : S44)] : List (S44))) (inner := [.int .i64 t231, .string t232, .int .i64 t233, .int .i64 2, .string (⟨#[]⟩ : ByteArray), .int .i64 0, .int .i64 t234, .string t235, .int .i64 t236, .int .i64 t237, .string t238, .int .i64 t239, .int .i64 3, .string (⟨#[]⟩ : ByteArray), .int .i64 0, .int .i64 2, .string (⟨#[]⟩ : ByteArray), .int .i64 0, .int .i64 t240, .string t241, .int .i64 t242, .int .i64 2, .string (⟨#[]⟩ : ByteArray), .int .i64 0, .int .i64 t243, .string t244, .int .i64 t245, .int .i64 3, .string (⟨#[]⟩ : ByteArray), .int .i64 0, .int .i64 3, .string (⟨#[]⟩ : ByteArray), .int .i64 0, .int .i64 t246, .string t247, .int .i64 t248]) (ok := fun _ => True) (okp := fun _ => True) ?hr ?hp (fun _ hk => hk) trivial (Below.refl _ _) (Nat.le_refl _) (by simp) ?_; (case hd => rfl); (case hg => rfl); (case hr => first | (go_simp; done) | (go_simp; rfl)); (case hp => exact (Reps.c3 (show Kd.M k44 _ _ _ (⟨t231, t232, t233⟩ : S44) [.int .i64 t231, .string t232, .int .i64 t233] from (k44_mkM _ _ _ (⟨t231, t232, t233⟩ : S44) )) (Reps.c3 (show Kd.M k44 _ _ _ (⟨2, (⟨#[]⟩ : ByteArray), 0⟩ : S44) [.int .i64 2, .string (⟨#[]⟩ : ByteArray), .int .i64 0] from (k44_mkM _ _ _ (⟨2, (⟨#[]⟩ : ByteArray), 0⟩ : S44) )) (Reps.c3 (show Kd.M k44 _ _ _ (⟨t234, t235, t236⟩ : S44) [.int .i64 t234, .string t235, .int .i64 t236] from (k44_mkM _ _ _ (⟨t234, t235, t236⟩ : S44) )) (Reps.c3 (show Kd.M k44 _ _ _ (⟨t237, t238, t239⟩ : S44) [.int .i64 t237, .string t238, .int .i64 t239] from (k44_mkM _ _ _ (⟨t237, t238, t239⟩ : S44) )) (Reps.c3 (show Kd.M k44 _ _ _ (⟨3, (⟨#[]⟩ : ByteArray), 0⟩ : S44) [.int .i64 3, .string (⟨#[]⟩ : ByteArray), .int .i64 0] from (k44_mkM _ _ _ (⟨3, (⟨#[]⟩ : ByteArray), 0⟩ : S44) )) (Reps.c3 (show Kd.M k44 _ _ _ (⟨2, (⟨#[]⟩ : ByteArray), 0⟩ : S44) [.int .i64 2, .string (⟨#[]⟩ : ByteArray), .int .i64 0] from (k44_mkM _ _ _ (⟨2, (⟨#[]⟩ : ByteArray), 0⟩ : S44) )) (Reps.c3 (show Kd.M k44 _ _ _ (⟨t240, t241, t242⟩ : S44) [.int .i64 t240, .string t241, .int .i64 t242] from (k44_mkM _ _ _ (⟨t240, t241, t242⟩ : S44) )) (Reps.c3 (show Kd.M k44 _ _ _ (⟨2, (⟨#[]⟩ : ByteArray), 0⟩ : S44) [.int .i64 2, .string (⟨#[]⟩ : ByteArray), .int .i64 0] from (k44_mkM _ _ _ (⟨2, (⟨#[]⟩ : ByteArray), 0⟩ : S44) )) (Reps.c3 (show Kd.M k44 _ _ _ (⟨t243, t244, t245⟩ : S44) [.int .i64 t243, .string t244, .int .i64 t245] from (k44_mkM _ _ _ (⟨t243, t244, t245⟩ : S44) )) (Reps.c3 (show Kd.M k44 _ _ _ (⟨3, (⟨#[]⟩ : ByteArray), 0⟩ : S44) [.int .i64 3, .string (⟨#[]⟩ : ByteArray), .int .i64 0] from (k44_mkM _ _ _ (⟨3, (⟨#[]⟩ : ByteArray), 0⟩ : S44) )) (Reps.c3 (show Kd.M k44 _ _ _ (⟨3, (⟨#[]⟩ : ByteArray), 0⟩ : S44) [.int .i64 3, .string (⟨#[]⟩ : ByteArray), .int .i64 0] from (k44_mkM _ _ _ (⟨3, (⟨#[]⟩ : ByteArray), 0⟩ : S44) )) (Reps.c3 (show Kd.M k44 _ _ _ (⟨t246, t247, t248⟩ : S44) [.int .i64 t246, .string t247, .int .i64 t248] from (k44_mkM _ _ _ (⟨t246, t247, t248⟩ : S44) )) (Reps.none _ _))))))))))))))
                intro v250 w40 ho41 hb hg_ hnew_
                clear hg_ hnew_
                (first | rw [← Ny249.out] at ho41 | (simp only [Int.reduceToNat] at ho41; rw [← Ny249.out] at ho41))
                have n0_ := am (Kd.R_lower (Kd.R_newB (Kd.R_newB ho41 (g := gb229) (o := .cells #[.int .i64 2, .string (⟨#[]⟩ : ByteArray), .int .i64 0] 44 (0, 0)) (by (with_reducible repeat (first | refine bN ?_ _ | refine bD ?_ | refine bA ?_ _)); exact BK229.out)) (g := gb230) (o := .cells #[.int .i64 3, .string (⟨#[]⟩ : ByteArray), .int .i64 0] 44 (0, 0)) (by (with_reducible repeat (first | refine bN ?_ _ | refine bD ?_ | refine bA ?_ _)); exact BK230.out)) (below_size (by repeat (with_reducible first | exact HB.out | apply lA | apply lN | apply lD | refine lS ?_ GE229.out | refine lS ?_ GE230.out | refine lS ?_ GE257.out))))
                have n1_ := am (bB (g := gb229) (o := .cells #[.int .i64 2, .string (⟨#[]⟩ : ByteArray), .int .i64 0] 44 (0, 0)) (by (with_reducible repeat (first | refine bN ?_ _ | refine bD ?_ | refine bA ?_ _)); exact BK229.out) hb)
                have n2_ := am (bB (g := gb230) (o := .cells #[.int .i64 3, .string (⟨#[]⟩ : ByteArray), .int .i64 0] 44 (0, 0)) (by (with_reducible repeat (first | refine bN ?_ _ | refine bD ?_ | refine bA ?_ _)); exact BK230.out) hb)
                have n3_ := am (bB (g := gb257) (o := .cells #[.int .i64 0, .int .i64 0] 26 (0, 0)) (by (with_reducible repeat (first | refine bN ?_ _ | refine bD ?_ | refine bA ?_ _)); exact BK257.out) hb)
                have n4_ := am (below_step (by repeat (with_reducible first | exact HB.out | apply lA | apply lN | apply lD | refine lS ?_ GE229.out | refine lS ?_ GE230.out | refine lS ?_ GE257.out)) hb)
                clear BK229
                clear BK230
                clear BK257
                clear HB
                have HO251 := n0_
                have BK229 := n1_
                have BK230 := n2_
                have BK257 := n3_
                have HB := n4_
                clear n0_ n1_ n2_ n3_ n4_
                clear hb ho41
                refine hK.out _ _ ⟨(bC BK229.out 0).trans rfl, (bC BK229.out 1).trans rfl, (bC BK229.out 2).trans rfl, (bC BK230.out 0).trans rfl, (bC BK230.out 1).trans rfl, (bC BK230.out 2).trans rfl⟩ (fun hHeld => ?_)
                clear hK K
                refine norm_ (a' := ?_) ?_ ?_
                rotate_left
                ·show Act.put _ (some 26) _ = _
                 simp only [Act.put, List.setIfInBounds_toArray, List.set_cons_zero, List.set_cons_succ, i64_w, i32_w]
                 rfl
                exact norm_ (by first | (simp only [putAll, Act.put, List.setIfInBounds_toArray, List.set_cons_zero, List.set_cons_succ]; done) | (simp only [putAll, Act.put, List.setIfInBounds_toArray, List.set_cons_zero, List.set_cons_succ]; rfl)) (hJ0_2_3_6_8_11_12_17 (v250, gb257) _ ⟨hHeld, (by (with_reducible repeat (first | apply rA | apply rN | apply rD)); exact Kd.R_mono HO251.out (fun _ hk => ⟨hk.1.2, hk.2⟩)), (by (with_reducible repeat (first | refine bN ?_ _ | refine bD ?_ | refine bA ?_ _)); exact BK229.out), (by (with_reducible repeat (first | refine bN ?_ _ | refine bD ?_ | refine bA ?_ _)); exact BK230.out), (by (with_reducible repeat (first | refine bN ?_ _ | refine bD ?_ | refine bA ?_ _)); exact BK257.out), GW257.out, GE257.out, NB229_257.out, NB257_229.out, NB230_257.out, NB257_230.out, (by repeat (with_reducible first | exact HB.out | apply lA | apply lN | apply lD | refine lS ?_ GE229.out | refine lS ?_ GE230.out | refine lS ?_ GE257.out))⟩)
              ·skip
               rintro v250 w40 ⟨hS_, h0_, h1_, h2_, h3_⟩
               have n0_ : Aside0 (Kd.R k44 44 w40 w.heap.size (fun k_ => k_ ≠ gb229 ∧ k_ ≠ gb230) v250 y249) := ⟨h0_⟩
               have n1_ : Aside0 (w40.heap[gb229]? = some (.cells #[.int .i64 2, .string (⟨#[]⟩ : ByteArray), .int .i64 0] 44 (0, 0))) := ⟨h1_⟩
               have n2_ : Aside0 (w40.heap[gb230]? = some (.cells #[.int .i64 3, .string (⟨#[]⟩ : ByteArray), .int .i64 0] 44 (0, 0))) := ⟨h2_⟩
               have n3_ : Aside0 (Below w.heap.size w w40) := ⟨h3_⟩
               clear BK229
               clear BK230
               clear HB
               clear h0_ h1_ h2_ h3_
               have HO251 := n0_
               have BK229 := n1_
               have BK230 := n2_
               have HB := n3_
               clear n0_ n1_ n2_ n3_
               have hHeld : w40.cell? ⟨gb229, 0, none⟩ = some (.int .i64 2) ∧ w40.cell? ⟨gb229, 1, none⟩ = some (.string (⟨#[]⟩ : ByteArray)) ∧ w40.cell? ⟨gb229, 2, none⟩ = some (.int .i64 0) ∧ w40.cell? ⟨gb230, 0, none⟩ = some (.int .i64 3) ∧ w40.cell? ⟨gb230, 1, none⟩ = some (.string (⟨#[]⟩ : ByteArray)) ∧ w40.cell? ⟨gb230, 2, none⟩ = some (.int .i64 0) := hS_
               obtain ⟨Ao41, co41, eo41⟩ := Kd.R_slice HO251.out
               (first | subst eo41 | (injection eo41 with f1_ f2_ f3_; have f4_ := f1_.symm; have f5_ := f3_.symm; clear f1_ f2_ f3_; subst f4_; subst f5_))
               refine norm_ (a' := ?_) ?_ ?_
               rotate_left
               ·simp only [putAll, Act.put, List.setIfInBounds_toArray, List.set_cons_zero, List.set_cons_succ]
                rfl
               refine two_ (i := 13) (j := 17) (Ni := some 27) (Nj := some 4) #[true, true, true, true, true, true, true, true, true, true, true, true, true, true, false, false, false, false, false, false] #[true, true, true, true, true, true, true, true, true, true, true, true, true, false, false, false, false, true, false, false] rfl rfl rfl rfl (two_of HT_.out (by kernel_rfl)) (by decide) (by decide) (fun K hK => ?_) (fun K hK => ?_)
               ·skip
                refine goes_ Try.func7 (by kernel_rfl) rfl #[.slice Ao41 y249.length co41] (by rfl) rfl rfl (by (try simp only [List.map_toArray, List.map_cons, List.map_nil]); first | done | rfl | (simp only [List.length_drop, List.length_take]; rfl)) ?_
                with_reducible refine (tree_Parse.calls k _ _ y249 t252 t255 t256 _ ?side1 ?side2 A7.out).mono ?_
                (case side1 => repeat (first | exact (Kd.R_reads' HO251.out).2.2 | (with_reducible refine Kd.C_alloc ?_ _) | (with_reducible refine Kd.C_drewN ?_ _) | (with_reducible refine Kd.C_drew ?_)))
                (case side2 => exact (Kd.R_reads' HO251.out).2.1)
                rintro e w42 ⟨v253, rfl, ho0, hb⟩
                refine ⟨_, rfl, ?_⟩
                have n0_ := am (Kd.R_below (by (with_reducible repeat (first | apply rA | apply rN | apply rD)); exact HO251.out) hb)
                have n1_ := am (Kd.R_lower ho0 (below_size (by repeat (with_reducible first | exact HB.out | apply lA | apply lN | apply lD | refine lS ?_ GE229.out | refine lS ?_ GE230.out))))
                have n2_ := am (bB (g := gb229) (o := .cells #[.int .i64 2, .string (⟨#[]⟩ : ByteArray), .int .i64 0] 44 (0, 0)) (by (with_reducible repeat (first | refine bN ?_ _ | refine bD ?_ | refine bA ?_ _)); exact BK229.out) hb)
                have n3_ := am (bB (g := gb230) (o := .cells #[.int .i64 3, .string (⟨#[]⟩ : ByteArray), .int .i64 0] 44 (0, 0)) (by (with_reducible repeat (first | refine bN ?_ _ | refine bD ?_ | refine bA ?_ _)); exact BK230.out) hb)
                have n4_ := am (below_step (by repeat (with_reducible first | exact HB.out | apply lA | apply lN | apply lD | refine lS ?_ GE229.out | refine lS ?_ GE230.out)) hb)
                clear HO251
                clear BK229
                clear BK230
                clear HB
                have HO251 := n0_
                have HO254 := n1_
                have BK229 := n2_
                have BK230 := n3_
                have HB := n4_
                clear n0_ n1_ n2_ n3_ n4_
                (try clear hb)
                (try clear hb2)
                (try clear hk)
                (try clear hi)
                (try clear ho0)
                refine hK.out _ _ ⟨(bC BK229.out 0).trans rfl, (bC BK229.out 1).trans rfl, (bC BK229.out 2).trans rfl, (bC BK230.out 0).trans rfl, (bC BK230.out 1).trans rfl, (bC BK230.out 2).trans rfl⟩ (fun hHeld => ?_)
                clear hK K
                refine norm_ (a' := ?_) ?_ ?_
                rotate_left
                ·show Act.put _ (some 27) _ = _
                 simp only [Act.put, List.setIfInBounds_toArray, List.set_cons_zero, List.set_cons_succ, i64_w, i32_w]
                 rfl
                refine pure_ (i := 14) (N := some 13) (v := ?_) (a' := ?_) #[true, true, true, true, true, true, true, true, true, true, true, true, true, true, true, false, false, false, false, false] rfl rfl (any_of HT_.out (by kernel_rfl)) (fun _ _ _ h => h) (Or.inl ⟨by rfl, ?_⟩) ?_ ?_
                rotate_left
                ·intro w'
                 go_simp
                 with_reducible rfl
                rotate_left
                ·simp only [Act.put, List.setIfInBounds_toArray, List.set_cons_zero, List.set_cons_succ, i64_w, i32_w]
                 rfl
                refine pure_ (i := 15) (N := some 28) (v := ?_) (a' := ?_) #[true, true, true, true, true, true, true, true, true, true, true, true, true, true, true, true, false, false, false, false] rfl rfl (any_of HT_.out (by kernel_rfl)) (fun _ _ _ h => h) (Or.inl ⟨by rfl, ?_⟩) ?_ ?_
                rotate_left
                ·intro w'
                 go_simp
                 with_reducible rfl
                rotate_left
                ·simp only [Act.put, List.setIfInBounds_toArray, List.set_cons_zero, List.set_cons_succ, i64_w, i32_w]
                 rfl
                refine pure_ (i := 16) (N := some 29) (v := ?_) (a' := ?_) #[true, true, true, true, true, true, true, true, true, true, true, true, true, true, true, true, true, false, false, false] rfl rfl (any_of HT_.out (by kernel_rfl)) (fun _ _ _ h => h) (Or.inl ⟨by rfl, ?_⟩) ?_ ?_
                rotate_left
                ·intro w'
                 go_simp
                 with_reducible rfl
                rotate_left
                ·simp only [Act.put, List.setIfInBounds_toArray, List.set_cons_zero, List.set_cons_succ, i64_w, i32_w]
                 rfl
                exact norm_ (by first | (simp only [putAll, Act.put, List.setIfInBounds_toArray, List.set_cons_zero, List.set_cons_succ]; done) | (simp only [putAll, Act.put, List.setIfInBounds_toArray, List.set_cons_zero, List.set_cons_succ]; rfl)) (hJ0_2_3_6_8_11_12_13 (.slice Ao41 y249.length co41, v253) _ ⟨hHeld, (by (with_reducible repeat (first | apply rA | apply rN | apply rD)); exact HO251.out), (by (with_reducible repeat (first | apply rA | apply rN | apply rD)); exact HO254.out), (by (with_reducible repeat (first | refine bN ?_ _ | refine bD ?_ | refine bA ?_ _)); exact BK229.out), (by (with_reducible repeat (first | refine bN ?_ _ | refine bD ?_ | refine bA ?_ _)); exact BK230.out), (by repeat (with_reducible first | exact HB.out | apply lA | apply lN | apply lD | refine lS ?_ GE229.out | refine lS ?_ GE230.out))⟩)
               ·skip
                refine box_step ?hg (N := 4) ?hd (cs := #[.int .i64 0, .int .i64 0]) (t := 26) ?hr ?_; (case hd => rfl); (case hg => rfl); (case hr => first | (go_simp; done) | (go_simp; rfl))
                intro gb257 hg w41 hbox hb
                have n0_ := am (Kd.R_below (by (with_reducible repeat (first | apply rA | apply rN | apply rD)); exact HO251.out) hb)
                have n1_ := am (bB (g := gb229) (o := .cells #[.int .i64 2, .string (⟨#[]⟩ : ByteArray), .int .i64 0] 44 (0, 0)) (by (with_reducible repeat (first | refine bN ?_ _ | refine bD ?_ | refine bA ?_ _)); exact BK229.out) hb)
                have n2_ := am (bB (g := gb230) (o := .cells #[.int .i64 3, .string (⟨#[]⟩ : ByteArray), .int .i64 0] 44 (0, 0)) (by (with_reducible repeat (first | refine bN ?_ _ | refine bD ?_ | refine bA ?_ _)); exact BK230.out) hb)
                have n3_ := am (below_step (by repeat (with_reducible first | exact HB.out | apply lA | apply lN | apply lD | refine lS ?_ GE229.out | refine lS ?_ GE230.out)) hb)
                have n4_ := am (hbox)
                have n5_ := am ((by rw [hg]; exact (below_size (by repeat (with_reducible first | exact HB.out | apply lA | apply lN | apply lD | refine lS ?_ GE229.out | refine lS ?_ GE230.out))) : w.heap.size ≤ gb257))
                have n6_ := am ((by rw [hg]; exact (below_size (by repeat (with_reducible first | exact HB.out | apply lA | apply lN | apply lD | refine lS ?_ GE229.out | refine lS ?_ GE230.out))) : w.heap.size ≤ gb257))
                have n7_ := am ((by rw [hg]; exact Nat.ne_of_lt (blk_lt (g := gb229) (o := .cells #[.int .i64 2, .string (⟨#[]⟩ : ByteArray), .int .i64 0] 44 (0, 0)) (by (with_reducible repeat (first | refine bN ?_ _ | refine bD ?_ | refine bA ?_ _)); exact BK229.out)) : gb229 ≠ gb257))
                have n8_ := am ((by rw [hg]; exact Nat.ne_of_gt (blk_lt (g := gb229) (o := .cells #[.int .i64 2, .string (⟨#[]⟩ : ByteArray), .int .i64 0] 44 (0, 0)) (by (with_reducible repeat (first | refine bN ?_ _ | refine bD ?_ | refine bA ?_ _)); exact BK229.out)) : gb257 ≠ gb229))
                have n9_ := am ((by rw [hg]; exact Nat.ne_of_lt (blk_lt (g := gb230) (o := .cells #[.int .i64 3, .string (⟨#[]⟩ : ByteArray), .int .i64 0] 44 (0, 0)) (by (with_reducible repeat (first | refine bN ?_ _ | refine bD ?_ | refine bA ?_ _)); exact BK230.out)) : gb230 ≠ gb257))
                have n10_ := am ((by rw [hg]; exact Nat.ne_of_gt (blk_lt (g := gb230) (o := .cells #[.int .i64 3, .string (⟨#[]⟩ : ByteArray), .int .i64 0] 44 (0, 0)) (by (with_reducible repeat (first | refine bN ?_ _ | refine bD ?_ | refine bA ?_ _)); exact BK230.out)) : gb257 ≠ gb230))
                clear HO251
                clear BK229
                clear BK230
                clear HB
                have HO251 := n0_
                have BK229 := n1_
                have BK230 := n2_
                have HB := n3_
                have BK257 := n4_
                have GW257 := n5_
                have GE257 := n6_
                have NB229_257 := n7_
                have NB257_229 := n8_
                have NB230_257 := n9_
                have NB257_230 := n10_
                clear n0_ n1_ n2_ n3_ n4_ n5_ n6_ n7_ n8_ n9_ n10_
                clear hb hbox hg
                refine hK.out _ _ ⟨(bC BK229.out 0).trans rfl, (bC BK229.out 1).trans rfl, (bC BK229.out 2).trans rfl, (bC BK230.out 0).trans rfl, (bC BK230.out 1).trans rfl, (bC BK230.out 2).trans rfl⟩ (fun hHeld => ?_)
                clear hK K
                refine norm_ (a' := ?_) ?_ ?_
                rotate_left
                ·show Act.put _ (some 4) _ = _
                 simp only [Act.put, List.setIfInBounds_toArray, List.set_cons_zero, List.set_cons_succ, i64_w, i32_w]
                 rfl
                exact norm_ (by first | (simp only [putAll, Act.put, List.setIfInBounds_toArray, List.set_cons_zero, List.set_cons_succ]; done) | (simp only [putAll, Act.put, List.setIfInBounds_toArray, List.set_cons_zero, List.set_cons_succ]; rfl)) (hJ0_2_3_6_8_11_12_17 (.slice Ao41 y249.length co41, gb257) _ ⟨hHeld, (by (with_reducible repeat (first | apply rA | apply rN | apply rD)); exact HO251.out), (by (with_reducible repeat (first | refine bN ?_ _ | refine bD ?_ | refine bA ?_ _)); exact BK229.out), (by (with_reducible repeat (first | refine bN ?_ _ | refine bD ?_ | refine bA ?_ _)); exact BK230.out), (by (with_reducible repeat (first | refine bN ?_ _ | refine bD ?_ | refine bA ?_ _)); exact BK257.out), GW257.out, GE257.out, NB229_257.out, NB257_229.out, NB230_257.out, NB257_230.out, (by repeat (with_reducible first | exact HB.out | apply lA | apply lN | apply lD | refine lS ?_ GE229.out | refine lS ?_ GE230.out | refine lS ?_ GE257.out))⟩)
             ·skip
              rintro ⟨v250, gb257⟩ w41 ⟨hS_, h0_, h1_, h2_, h3_, h4_, h5_, h6_, h7_, h8_, h9_, h10_⟩
              have n0_ : Aside0 (Kd.R k44 44 w41 w.heap.size (fun k_ => k_ ≠ gb229 ∧ k_ ≠ gb230) v250 y249) := ⟨h0_⟩
              have n1_ : Aside0 (w41.heap[gb229]? = some (.cells #[.int .i64 2, .string (⟨#[]⟩ : ByteArray), .int .i64 0] 44 (0, 0))) := ⟨h1_⟩
              have n2_ : Aside0 (w41.heap[gb230]? = some (.cells #[.int .i64 3, .string (⟨#[]⟩ : ByteArray), .int .i64 0] 44 (0, 0))) := ⟨h2_⟩
              have n3_ : Aside0 (w41.heap[gb257]? = some (.cells #[.int .i64 0, .int .i64 0] 26 (0, 0))) := ⟨h3_⟩
              have n4_ : Aside0 (w.heap.size ≤ gb257) := ⟨h4_⟩
              have n5_ : Aside0 (w.heap.size ≤ gb257) := ⟨h5_⟩
              have n6_ : Aside0 (gb229 ≠ gb257) := ⟨h6_⟩
              have n7_ : Aside0 (gb257 ≠ gb229) := ⟨h7_⟩
              have n8_ : Aside0 (gb230 ≠ gb257) := ⟨h8_⟩
              have n9_ : Aside0 (gb257 ≠ gb230) := ⟨h9_⟩
              have n10_ : Aside0 (Below w.heap.size w w41) := ⟨h10_⟩
              clear BK229
              clear BK230
              clear HB
              clear h0_ h1_ h2_ h3_ h4_ h5_ h6_ h7_ h8_ h9_ h10_
              have HO251 := n0_
              have BK229 := n1_
              have BK230 := n2_
              have BK257 := n3_
              have GW257 := n4_
              have GE257 := n5_
              have NB229_257 := n6_
              have NB257_229 := n7_
              have NB230_257 := n8_
              have NB257_230 := n9_
              have HB := n10_
              clear n0_ n1_ n2_ n3_ n4_ n5_ n6_ n7_ n8_ n9_ n10_
              have hHeld : w41.cell? ⟨gb229, 0, none⟩ = some (.int .i64 2) ∧ w41.cell? ⟨gb229, 1, none⟩ = some (.string (⟨#[]⟩ : ByteArray)) ∧ w41.cell? ⟨gb229, 2, none⟩ = some (.int .i64 0) ∧ w41.cell? ⟨gb230, 0, none⟩ = some (.int .i64 3) ∧ w41.cell? ⟨gb230, 1, none⟩ = some (.string (⟨#[]⟩ : ByteArray)) ∧ w41.cell? ⟨gb230, 2, none⟩ = some (.int .i64 0) := hS_
              obtain ⟨Ao42, co42, eo42⟩ := Kd.R_slice HO251.out
              (first | subst eo42 | (injection eo42 with f1_ f2_ f3_; have f4_ := f1_.symm; have f5_ := f3_.symm; clear f1_ f2_ f3_; subst f4_; subst f5_))
              refine norm_ (a' := ?_) ?_ ?_
              rotate_left
              ·simp only [putAll, Act.put, List.setIfInBounds_toArray, List.set_cons_zero, List.set_cons_succ]
               rfl
              refine one_ (i := 13) (N := some 27) #[true, true, true, true, true, true, true, true, true, true, true, true, true, true, false, false, false, true, false, false] rfl rfl (one_of HT_.out (by kernel_rfl)) (by decide) (fun K hK => ?_)
              refine goes_ Try.func7 (by kernel_rfl) rfl #[.slice Ao42 y249.length co42] (by rfl) rfl rfl (by (try simp only [List.map_toArray, List.map_cons, List.map_nil]); first | done | rfl | (simp only [List.length_drop, List.length_take]; rfl)) ?_
              with_reducible refine (tree_Parse.calls k _ _ y249 t252 t255 t256 _ ?side1 ?side2 A7.out).mono ?_
              (case side1 => repeat (first | exact (Kd.R_reads' HO251.out).2.2 | (with_reducible refine Kd.C_alloc ?_ _) | (with_reducible refine Kd.C_drewN ?_ _) | (with_reducible refine Kd.C_drew ?_)))
              (case side2 => exact (Kd.R_reads' HO251.out).2.1)
              rintro e w43 ⟨v253, rfl, ho0, hb⟩
              refine ⟨_, rfl, ?_⟩
              have n0_ := am (Kd.R_below (by (with_reducible repeat (first | apply rA | apply rN | apply rD)); exact HO251.out) hb)
              have n1_ := am (Kd.R_lower ho0 (below_size (by repeat (with_reducible first | exact HB.out | apply lA | apply lN | apply lD | refine lS ?_ GE229.out | refine lS ?_ GE230.out | refine lS ?_ GE257.out))))
              have n2_ := am (bB (g := gb229) (o := .cells #[.int .i64 2, .string (⟨#[]⟩ : ByteArray), .int .i64 0] 44 (0, 0)) (by (with_reducible repeat (first | refine bN ?_ _ | refine bD ?_ | refine bA ?_ _)); exact BK229.out) hb)
              have n3_ := am (bB (g := gb230) (o := .cells #[.int .i64 3, .string (⟨#[]⟩ : ByteArray), .int .i64 0] 44 (0, 0)) (by (with_reducible repeat (first | refine bN ?_ _ | refine bD ?_ | refine bA ?_ _)); exact BK230.out) hb)
              have n4_ := am (bB (g := gb257) (o := .cells #[.int .i64 0, .int .i64 0] 26 (0, 0)) (by (with_reducible repeat (first | refine bN ?_ _ | refine bD ?_ | refine bA ?_ _)); exact BK257.out) hb)
              have n5_ := am (below_step (by repeat (with_reducible first | exact HB.out | apply lA | apply lN | apply lD | refine lS ?_ GE229.out | refine lS ?_ GE230.out | refine lS ?_ GE257.out)) hb)
              clear HO251
              clear BK229
              clear BK230
              clear BK257
              clear HB
              have HO251 := n0_
              have HO254 := n1_
              have BK229 := n2_
              have BK230 := n3_
              have BK257 := n4_
              have HB := n5_
              clear n0_ n1_ n2_ n3_ n4_ n5_
              (try clear hb)
              (try clear hb2)
              (try clear hk)
              (try clear hi)
              (try clear ho0)
              refine hK.out _ _ ⟨(bC BK229.out 0).trans rfl, (bC BK229.out 1).trans rfl, (bC BK229.out 2).trans rfl, (bC BK230.out 0).trans rfl, (bC BK230.out 1).trans rfl, (bC BK230.out 2).trans rfl⟩ (fun hHeld => ?_)
              clear hK K
              refine norm_ (a' := ?_) ?_ ?_
              rotate_left
              ·show Act.put _ (some 27) _ = _
               simp only [Act.put, List.setIfInBounds_toArray, List.set_cons_zero, List.set_cons_succ, i64_w, i32_w]
               rfl
              refine pure_ (i := 14) (N := some 13) (v := ?_) (a' := ?_) #[true, true, true, true, true, true, true, true, true, true, true, true, true, true, true, false, false, true, false, false] rfl rfl (any_of HT_.out (by kernel_rfl)) (fun _ _ _ h => h) (Or.inl ⟨by rfl, ?_⟩) ?_ ?_
              rotate_left
              ·intro w'
               go_simp
               with_reducible rfl
              rotate_left
              ·simp only [Act.put, List.setIfInBounds_toArray, List.set_cons_zero, List.set_cons_succ, i64_w, i32_w]
               rfl
              refine pure_ (i := 15) (N := some 28) (v := ?_) (a' := ?_) #[true, true, true, true, true, true, true, true, true, true, true, true, true, true, true, true, false, true, false, false] rfl rfl (any_of HT_.out (by kernel_rfl)) (fun _ _ _ h => h) (Or.inl ⟨by rfl, ?_⟩) ?_ ?_
              rotate_left
              ·intro w'
               go_simp
               with_reducible rfl
              rotate_left
              ·simp only [Act.put, List.setIfInBounds_toArray, List.set_cons_zero, List.set_cons_succ, i64_w, i32_w]
               rfl
              refine pure_ (i := 16) (N := some 29) (v := ?_) (a' := ?_) #[true, true, true, true, true, true, true, true, true, true, true, true, true, true, true, true, true, true, false, false] rfl rfl (any_of HT_.out (by kernel_rfl)) (fun _ _ _ h => h) (Or.inl ⟨by rfl, ?_⟩) ?_ ?_
              rotate_left
              ·intro w'
               go_simp
               with_reducible rfl
              rotate_left
              ·simp only [Act.put, List.setIfInBounds_toArray, List.set_cons_zero, List.set_cons_succ, i64_w, i32_w]
               rfl
              exact norm_ (by first | (simp only [putAll, Act.put, List.setIfInBounds_toArray, List.set_cons_zero, List.set_cons_succ]; done) | (simp only [putAll, Act.put, List.setIfInBounds_toArray, List.set_cons_zero, List.set_cons_succ]; rfl)) (hJ0_2_3_6_8_11_12_13_17 (.slice Ao42 y249.length co42, v253, gb257) _ ⟨hHeld, (by (with_reducible repeat (first | apply rA | apply rN | apply rD)); exact HO251.out), (by (with_reducible repeat (first | apply rA | apply rN | apply rD)); exact HO254.out), (by (with_reducible repeat (first | refine bN ?_ _ | refine bD ?_ | refine bA ?_ _)); exact BK229.out), (by (with_reducible repeat (first | refine bN ?_ _ | refine bD ?_ | refine bA ?_ _)); exact BK230.out), (by (with_reducible repeat (first | refine bN ?_ _ | refine bD ?_ | refine bA ?_ _)); exact BK257.out), GW257.out, GE257.out, NB229_257.out, NB257_229.out, NB230_257.out, NB257_230.out, (by repeat (with_reducible first | exact HB.out | apply lA | apply lN | apply lD | refine lS ?_ GE229.out | refine lS ?_ GE230.out | refine lS ?_ GE257.out))⟩)
            ·skip
             rintro ⟨v250, v253⟩ w42 ⟨hS_, h0_, h1_, h2_, h3_, h4_⟩
             have n0_ : Aside0 (Kd.R k44 44 w42 w.heap.size (fun k_ => k_ ≠ gb229 ∧ k_ ≠ gb230) v250 y249) := ⟨h0_⟩
             have n1_ : Aside0 (Kd.R k38 38 w42 w.heap.size (fun _ => True) v253 t252) := ⟨h1_⟩
             have n2_ : Aside0 (w42.heap[gb229]? = some (.cells #[.int .i64 2, .string (⟨#[]⟩ : ByteArray), .int .i64 0] 44 (0, 0))) := ⟨h2_⟩
             have n3_ : Aside0 (w42.heap[gb230]? = some (.cells #[.int .i64 3, .string (⟨#[]⟩ : ByteArray), .int .i64 0] 44 (0, 0))) := ⟨h3_⟩
             have n4_ : Aside0 (Below w.heap.size w w42) := ⟨h4_⟩
             clear BK229
             clear BK230
             clear HB
             clear h0_ h1_ h2_ h3_ h4_
             have HO251 := n0_
             have HO254 := n1_
             have BK229 := n2_
             have BK230 := n3_
             have HB := n4_
             clear n0_ n1_ n2_ n3_ n4_
             have hHeld : w42.cell? ⟨gb229, 0, none⟩ = some (.int .i64 2) ∧ w42.cell? ⟨gb229, 1, none⟩ = some (.string (⟨#[]⟩ : ByteArray)) ∧ w42.cell? ⟨gb229, 2, none⟩ = some (.int .i64 0) ∧ w42.cell? ⟨gb230, 0, none⟩ = some (.int .i64 3) ∧ w42.cell? ⟨gb230, 1, none⟩ = some (.string (⟨#[]⟩ : ByteArray)) ∧ w42.cell? ⟨gb230, 2, none⟩ = some (.int .i64 0) := hS_
             refine norm_ (a' := ?_) ?_ ?_
             rotate_left
             ·simp only [putAll, Act.put, List.setIfInBounds_toArray, List.set_cons_zero, List.set_cons_succ]
              rfl
             refine one_ (i := 17) (N := some 4) #[true, true, true, true, true, true, true, true, true, true, true, true, true, true, true, true, true, true, false, false] rfl rfl (one_of HT_.out (by kernel_rfl)) (by decide) (fun K hK => ?_)
             refine box_step ?hg (N := 4) ?hd (cs := #[.int .i64 0, .int .i64 0]) (t := 26) ?hr ?_; (case hd => rfl); (case hg => rfl); (case hr => first | (go_simp; done) | (go_simp; rfl))
             intro gb257 hg w43 hbox hb
             have n0_ := am (Kd.R_below (by (with_reducible repeat (first | apply rA | apply rN | apply rD)); exact HO251.out) hb)
             have n1_ := am (Kd.R_below (by (with_reducible repeat (first | apply rA | apply rN | apply rD)); exact HO254.out) hb)
             have n2_ := am (bB (g := gb229) (o := .cells #[.int .i64 2, .string (⟨#[]⟩ : ByteArray), .int .i64 0] 44 (0, 0)) (by (with_reducible repeat (first | refine bN ?_ _ | refine bD ?_ | refine bA ?_ _)); exact BK229.out) hb)
             have n3_ := am (bB (g := gb230) (o := .cells #[.int .i64 3, .string (⟨#[]⟩ : ByteArray), .int .i64 0] 44 (0, 0)) (by (with_reducible repeat (first | refine bN ?_ _ | refine bD ?_ | refine bA ?_ _)); exact BK230.out) hb)
             have n4_ := am (below_step (by repeat (with_reducible first | exact HB.out | apply lA | apply lN | apply lD | refine lS ?_ GE229.out | refine lS ?_ GE230.out)) hb)
             have n5_ := am (hbox)
             have n6_ := am ((by rw [hg]; exact (below_size (by repeat (with_reducible first | exact HB.out | apply lA | apply lN | apply lD | refine lS ?_ GE229.out | refine lS ?_ GE230.out))) : w.heap.size ≤ gb257))
             have n7_ := am ((by rw [hg]; exact (below_size (by repeat (with_reducible first | exact HB.out | apply lA | apply lN | apply lD | refine lS ?_ GE229.out | refine lS ?_ GE230.out))) : w.heap.size ≤ gb257))
             have n8_ := am ((by rw [hg]; exact Nat.ne_of_lt (blk_lt (g := gb229) (o := .cells #[.int .i64 2, .string (⟨#[]⟩ : ByteArray), .int .i64 0] 44 (0, 0)) (by (with_reducible repeat (first | refine bN ?_ _ | refine bD ?_ | refine bA ?_ _)); exact BK229.out)) : gb229 ≠ gb257))
             have n9_ := am ((by rw [hg]; exact Nat.ne_of_gt (blk_lt (g := gb229) (o := .cells #[.int .i64 2, .string (⟨#[]⟩ : ByteArray), .int .i64 0] 44 (0, 0)) (by (with_reducible repeat (first | refine bN ?_ _ | refine bD ?_ | refine bA ?_ _)); exact BK229.out)) : gb257 ≠ gb229))
             have n10_ := am ((by rw [hg]; exact Nat.ne_of_lt (blk_lt (g := gb230) (o := .cells #[.int .i64 3, .string (⟨#[]⟩ : ByteArray), .int .i64 0] 44 (0, 0)) (by (with_reducible repeat (first | refine bN ?_ _ | refine bD ?_ | refine bA ?_ _)); exact BK230.out)) : gb230 ≠ gb257))
             have n11_ := am ((by rw [hg]; exact Nat.ne_of_gt (blk_lt (g := gb230) (o := .cells #[.int .i64 3, .string (⟨#[]⟩ : ByteArray), .int .i64 0] 44 (0, 0)) (by (with_reducible repeat (first | refine bN ?_ _ | refine bD ?_ | refine bA ?_ _)); exact BK230.out)) : gb257 ≠ gb230))
             clear HO251
             clear HO254
             clear BK229
             clear BK230
             clear HB
             have HO251 := n0_
             have HO254 := n1_
             have BK229 := n2_
             have BK230 := n3_
             have HB := n4_
             have BK257 := n5_
             have GW257 := n6_
             have GE257 := n7_
             have NB229_257 := n8_
             have NB257_229 := n9_
             have NB230_257 := n10_
             have NB257_230 := n11_
             clear n0_ n1_ n2_ n3_ n4_ n5_ n6_ n7_ n8_ n9_ n10_ n11_
             clear hb hbox hg
             refine hK.out _ _ ⟨(bC BK229.out 0).trans rfl, (bC BK229.out 1).trans rfl, (bC BK229.out 2).trans rfl, (bC BK230.out 0).trans rfl, (bC BK230.out 1).trans rfl, (bC BK230.out 2).trans rfl⟩ (fun hHeld => ?_)
             clear hK K
             refine norm_ (a' := ?_) ?_ ?_
             rotate_left
             ·show Act.put _ (some 4) _ = _
              simp only [Act.put, List.setIfInBounds_toArray, List.set_cons_zero, List.set_cons_succ, i64_w, i32_w]
              rfl
             exact norm_ (by first | (simp only [putAll, Act.put, List.setIfInBounds_toArray, List.set_cons_zero, List.set_cons_succ]; done) | (simp only [putAll, Act.put, List.setIfInBounds_toArray, List.set_cons_zero, List.set_cons_succ]; rfl)) (hJ0_2_3_6_8_11_12_13_17 (v250, v253, gb257) _ ⟨hHeld, (by (with_reducible repeat (first | apply rA | apply rN | apply rD)); exact HO251.out), (by (with_reducible repeat (first | apply rA | apply rN | apply rD)); exact HO254.out), (by (with_reducible repeat (first | refine bN ?_ _ | refine bD ?_ | refine bA ?_ _)); exact BK229.out), (by (with_reducible repeat (first | refine bN ?_ _ | refine bD ?_ | refine bA ?_ _)); exact BK230.out), (by (with_reducible repeat (first | refine bN ?_ _ | refine bD ?_ | refine bA ?_ _)); exact BK257.out), GW257.out, GE257.out, NB229_257.out, NB257_229.out, NB230_257.out, NB257_230.out, (by repeat (with_reducible first | exact HB.out | apply lA | apply lN | apply lD | refine lS ?_ GE229.out | refine lS ?_ GE230.out | refine lS ?_ GE257.out))⟩)
           rintro ⟨v250, v253, gb257⟩ w43 ⟨hS_, h0_, h1_, h2_, h3_, h4_, h5_, h6_, h7_, h8_, h9_, h10_, h11_⟩
           have n0_ : Aside0 (Kd.R k44 44 w43 w.heap.size (fun k_ => k_ ≠ gb229 ∧ k_ ≠ gb230) v250 y249) := ⟨h0_⟩
           have n1_ : Aside0 (Kd.R k38 38 w43 w.heap.size (fun _ => True) v253 t252) := ⟨h1_⟩
           have n2_ : Aside0 (w43.heap[gb229]? = some (.cells #[.int .i64 2, .string (⟨#[]⟩ : ByteArray), .int .i64 0] 44 (0, 0))) := ⟨h2_⟩
           have n3_ : Aside0 (w43.heap[gb230]? = some (.cells #[.int .i64 3, .string (⟨#[]⟩ : ByteArray), .int .i64 0] 44 (0, 0))) := ⟨h3_⟩
           have n4_ : Aside0 (w43.heap[gb257]? = some (.cells #[.int .i64 0, .int .i64 0] 26 (0, 0))) := ⟨h4_⟩
           have n5_ : Aside0 (w.heap.size ≤ gb257) := ⟨h5_⟩
           have n6_ : Aside0 (w.heap.size ≤ gb257) := ⟨h6_⟩
           have n7_ : Aside0 (gb229 ≠ gb257) := ⟨h7_⟩
           have n8_ : Aside0 (gb257 ≠ gb229) := ⟨h8_⟩
           have n9_ : Aside0 (gb230 ≠ gb257) := ⟨h9_⟩
           have n10_ : Aside0 (gb257 ≠ gb230) := ⟨h10_⟩
           have n11_ : Aside0 (Below w.heap.size w w43) := ⟨h11_⟩
           clear BK229
           clear BK230
           clear HB
           clear h0_ h1_ h2_ h3_ h4_ h5_ h6_ h7_ h8_ h9_ h10_ h11_
           have HO251 := n0_
           have HO254 := n1_
           have BK229 := n2_
           have BK230 := n3_
           have BK257 := n4_
           have GW257 := n5_
           have GE257 := n6_
           have NB229_257 := n7_
           have NB257_229 := n8_
           have NB230_257 := n9_
           have NB257_230 := n10_
           have HB := n11_
           clear n0_ n1_ n2_ n3_ n4_ n5_ n6_ n7_ n8_ n9_ n10_ n11_
           have hHeld : w43.cell? ⟨gb229, 0, none⟩ = some (.int .i64 2) ∧ w43.cell? ⟨gb229, 1, none⟩ = some (.string (⟨#[]⟩ : ByteArray)) ∧ w43.cell? ⟨gb229, 2, none⟩ = some (.int .i64 0) ∧ w43.cell? ⟨gb230, 0, none⟩ = some (.int .i64 3) ∧ w43.cell? ⟨gb230, 1, none⟩ = some (.string (⟨#[]⟩ : ByteArray)) ∧ w43.cell? ⟨gb230, 2, none⟩ = some (.int .i64 0) := hS_
           refine norm_ (a' := ?_) ?_ ?_
           rotate_left
           ·simp only [putAll, Act.put, List.setIfInBounds_toArray, List.set_cons_zero, List.set_cons_succ]
            rfl
           refine pure_ (i := 18) (N := some 3) (v := ?_) (a' := ?_) #[true, true, true, true, true, true, true, true, true, true, true, true, true, true, true, true, true, true, true, false] rfl rfl (any_of HT_.out (by kernel_rfl)) (fun _ _ _ h => h) (Or.inl ⟨by rfl, ?_⟩) ?_ ?_
           rotate_left
           ·intro w'
            go_simp
            with_reducible rfl
           rotate_left
           ·simp only [Act.put, List.setIfInBounds_toArray, List.set_cons_zero, List.set_cons_succ, i64_w, i32_w]
            rfl
           refine one_ (i := 19) (N := none) #[true, true, true, true, true, true, true, true, true, true, true, true, true, true, true, true, true, true, true, true] rfl rfl (one_of HT_.out (by kernel_rfl)) (by decide) (fun K hK => ?_)
           have hs44 : w43.cell? ⟨gb257, 0, none⟩ = some (.int .i64 0) := (bC BK257.out 0).trans rfl
           have hfs44 := bF BK257.out 0
           have hns44_0 := NB229_257.out
           have hns44_1 := NB230_257.out
           have hms44_0 := NB257_229.out
           have hms44_1 := NB257_230.out
           have hs45 : w43.cell? ⟨gb257, 1, none⟩ = some (.int .i64 0) := (bC BK257.out 1).trans rfl
           have hfs45 := bF BK257.out 1
           have hns45_0 := NB229_257.out
           have hns45_1 := NB230_257.out
           have hms45_0 := NB257_229.out
           have hms45_1 := NB257_230.out
           refine skip_ (w1 := ?_) (by rfl) rfl ?_ ?_
           rotate_left
           ·go_simp
            rfl
           refine hK.out _ _ ⟨((cell_far (p := ⟨gb257, _, none⟩) NB229_257.out _).trans (((cell_far (p := ⟨gb257, _, none⟩) NB229_257.out _).trans (hHeld.1)))), ((cell_far (p := ⟨gb257, _, none⟩) NB229_257.out _).trans (((cell_far (p := ⟨gb257, _, none⟩) NB229_257.out _).trans (hHeld.2.1)))), ((cell_far (p := ⟨gb257, _, none⟩) NB229_257.out _).trans (((cell_far (p := ⟨gb257, _, none⟩) NB229_257.out _).trans (hHeld.2.2.1)))), ((cell_far (p := ⟨gb257, _, none⟩) NB230_257.out _).trans (((cell_far (p := ⟨gb257, _, none⟩) NB230_257.out _).trans (hHeld.2.2.2.1)))), ((cell_far (p := ⟨gb257, _, none⟩) NB230_257.out _).trans (((cell_far (p := ⟨gb257, _, none⟩) NB230_257.out _).trans (hHeld.2.2.2.2.1)))), ((cell_far (p := ⟨gb257, _, none⟩) NB230_257.out _).trans (((cell_far (p := ⟨gb257, _, none⟩) NB230_257.out _).trans (hHeld.2.2.2.2.2))))⟩ (fun hHeld => ?_)
           clear hK K
           refine done_ (done_of HT_.out (by kernel_rfl)) ?_
           try go_wp2_with (first | ((with_reducible refine gate_dst (N := 32) rfl ?_); (try (refine gate_guard (by rfl) ?_; dsimp only)); refine Kd.R_lit k44 _ 44 ?hg (N := 32) ?hd (xs := ([(⟨2, (⟨#[]⟩ : ByteArray), 3⟩ : S44)] : List (S44))) (inner := [.int .i64 2, .string (⟨#[]⟩ : ByteArray), .int .i64 3]) (ok := fun _ => True) (okp := fun _ => True) ?hr ?hp (fun _ hk => hk) trivial (Below.refl _ _) (Nat.le_refl _) (by simp) ?_; (case hd => rfl); (case hg => rfl); (case hr => first | (go_simp; done) | (go_simp; rfl)); (case hp => exact (Reps.c3 (show Kd.M k44 _ _ _ (⟨2, (⟨#[]⟩ : ByteArray), 3⟩ : S44) [.int .i64 2, .string (⟨#[]⟩ : ByteArray), .int .i64 3] from (k44_mkM _ _ _ (⟨2, (⟨#[]⟩ : ByteArray), 3⟩ : S44) )) (Reps.none _ _))); intro v259 w46 ho47 hb hg_ hnew_; clear hg_ hnew_; (first | rw [← Ny258.out] at ho47 | (simp only [Int.reduceToNat] at ho47; rw [← Ny258.out] at ho47)); have n0_ := am (Kd.R_elder' (by (with_reducible repeat (first | apply rA | apply rN | apply rD)); exact (Kd.R_mono (Kd.R_far (p := ⟨gb257, 1, none⟩) (Kd.R_far (p := ⟨gb257, 0, none⟩) (Kd.R_types HO251.out BK257.out (by decide)) (fun _ hk => hk.2) (.int .i64 t255)) (fun _ hk => hk.2) (.int .i64 t256)) (fun _ h_ => h_.1))) (Kd.R_base ho47) hb); have n1_ := am (Kd.R_below (by (with_reducible repeat (first | apply rA | apply rN | apply rD)); exact (Kd.R_mono (Kd.R_far (p := ⟨gb257, 1, none⟩) (Kd.R_far (p := ⟨gb257, 0, none⟩) (Kd.R_types HO254.out BK257.out (by decide)) (fun _ hk => hk.2) (.int .i64 t255)) (fun _ hk => hk.2) (.int .i64 t256)) (fun _ h_ => h_.1))) hb); have n2_ := am (Kd.R_lower (Kd.R_newB (Kd.R_newB (Kd.R_new' ho47 (Kd.R_lt (by (with_reducible repeat (first | apply rA | apply rN | apply rD)); exact (Kd.R_mono (Kd.R_far (p := ⟨gb257, 1, none⟩) (Kd.R_far (p := ⟨gb257, 0, none⟩) (Kd.R_types HO251.out BK257.out (by decide)) (fun _ hk => hk.2) (.int .i64 t255)) (fun _ hk => hk.2) (.int .i64 t256)) (fun _ h_ => h_.1))))) (g := gb229) (o := .cells #[.int .i64 2, .string (⟨#[]⟩ : ByteArray), .int .i64 0] 44 (0, 0)) (by (with_reducible repeat (first | refine bN ?_ _ | refine bD ?_ | refine bA ?_ _)); refine bR ?_ NB229_257.out _; (with_reducible repeat (first | refine bN ?_ _ | refine bD ?_ | refine bA ?_ _)); refine bR ?_ NB229_257.out _; (with_reducible repeat (first | refine bN ?_ _ | refine bD ?_ | refine bA ?_ _)); exact BK229.out)) (g := gb230) (o := .cells #[.int .i64 3, .string (⟨#[]⟩ : ByteArray), .int .i64 0] 44 (0, 0)) (by (with_reducible repeat (first | refine bN ?_ _ | refine bD ?_ | refine bA ?_ _)); refine bR ?_ NB230_257.out _; (with_reducible repeat (first | refine bN ?_ _ | refine bD ?_ | refine bA ?_ _)); refine bR ?_ NB230_257.out _; (with_reducible repeat (first | refine bN ?_ _ | refine bD ?_ | refine bA ?_ _)); exact BK230.out)) (below_size (by repeat (with_reducible first | exact HB.out | apply lA | apply lN | apply lD | refine lS ?_ GE229.out | refine lS ?_ GE230.out | refine lS ?_ GE257.out)))); have n3_ := am (bB (g := gb229) (o := .cells #[.int .i64 2, .string (⟨#[]⟩ : ByteArray), .int .i64 0] 44 (0, 0)) (by (with_reducible repeat (first | refine bN ?_ _ | refine bD ?_ | refine bA ?_ _)); refine bR ?_ NB229_257.out _; (with_reducible repeat (first | refine bN ?_ _ | refine bD ?_ | refine bA ?_ _)); refine bR ?_ NB229_257.out _; (with_reducible repeat (first | refine bN ?_ _ | refine bD ?_ | refine bA ?_ _)); exact BK229.out) hb); have n4_ := am (bB (g := gb230) (o := .cells #[.int .i64 3, .string (⟨#[]⟩ : ByteArray), .int .i64 0] 44 (0, 0)) (by (with_reducible repeat (first | refine bN ?_ _ | refine bD ?_ | refine bA ?_ _)); refine bR ?_ NB230_257.out _; (with_reducible repeat (first | refine bN ?_ _ | refine bD ?_ | refine bA ?_ _)); refine bR ?_ NB230_257.out _; (with_reducible repeat (first | refine bN ?_ _ | refine bD ?_ | refine bA ?_ _)); exact BK230.out) hb); have n5_ := am (bB (g := gb257) (o := .cells #[.int .i64 t255, .int .i64 t256] 26 (0, 0)) (by (with_reducible repeat (first | refine bN ?_ _ | refine bD ?_ | refine bA ?_ _)); refine bP (cs := #[.int .i64 t255, .int .i64 0]) ?_ 1 _ rfl; (with_reducible repeat (first | refine bN ?_ _ | refine bD ?_ | refine bA ?_ _)); refine bP (cs := #[.int .i64 0, .int .i64 0]) ?_ 0 _ rfl; (with_reducible repeat (first | refine bN ?_ _ | refine bD ?_ | refine bA ?_ _)); exact BK257.out) hb); have n6_ := am (below_step (by repeat (with_reducible first | exact HB.out | apply lA | apply lN | apply lD | refine lS ?_ GE229.out | refine lS ?_ GE230.out | refine lS ?_ GE257.out)) hb); clear HO251; clear HO254; clear BK229; clear BK230; clear BK257; clear HB; have HO251 := n0_; have HO254 := n1_; have HO260 := n2_; have BK229 := n3_; have BK230 := n4_; have BK257 := n5_; have HB := n6_; clear n0_ n1_ n2_ n3_ n4_ n5_ n6_; clear hb ho47; obtain ⟨Ao48, co48, eo48⟩ := Kd.R_slice HO260.out; subst eo48) | ((with_reducible refine gate_callee (f := 7) rfl ?_); refine goesL_ (some 33) rfl rfl Try.func7 (by kernel_rfl) rfl #[.slice Ao48 y258.length co48] rfl (by (try simp only [List.map_toArray, List.map_cons, List.map_nil]); first | done | rfl | (simp only [List.length_drop, List.length_take]; rfl)) ?_; (with_reducible refine (tree_Parse.calls k _ _ y258 t261 t264 t265 _ ?side1 ?side2 A8.out).mono ?_); (case side1 => repeat (first | exact (Kd.R_reads' HO260.out).2.2 | (with_reducible refine Kd.C_alloc ?_ _) | (with_reducible refine Kd.C_drewN ?_ _) | (with_reducible refine Kd.C_drew ?_))); (case side2 => exact (Kd.R_reads' HO260.out).2.1); rintro e w49 ⟨v262, rfl, ho0, hb⟩; refine ⟨_, rfl, ?_⟩; have n0_ := am (Kd.R_below (by (with_reducible repeat (first | apply rA | apply rN | apply rD)); exact HO251.out) hb); have n1_ := am (Kd.R_elder' (by (with_reducible repeat (first | apply rA | apply rN | apply rD)); exact HO254.out) (Kd.R_base ho0) hb); have n2_ := am (Kd.R_below (by (with_reducible repeat (first | apply rA | apply rN | apply rD)); exact HO260.out) hb); have n3_ := am (Kd.R_lower (Kd.R_new' ho0 (Kd.R_lt (by (with_reducible repeat (first | apply rA | apply rN | apply rD)); exact HO254.out))) (below_size (by repeat (with_reducible first | exact HB.out | apply lA | apply lN | apply lD | refine lS ?_ GE229.out | refine lS ?_ GE230.out | refine lS ?_ GE257.out)))); have n4_ := am (bB (g := gb229) (o := .cells #[.int .i64 2, .string (⟨#[]⟩ : ByteArray), .int .i64 0] 44 (0, 0)) (by (with_reducible repeat (first | refine bN ?_ _ | refine bD ?_ | refine bA ?_ _)); exact BK229.out) hb); have n5_ := am (bB (g := gb230) (o := .cells #[.int .i64 3, .string (⟨#[]⟩ : ByteArray), .int .i64 0] 44 (0, 0)) (by (with_reducible repeat (first | refine bN ?_ _ | refine bD ?_ | refine bA ?_ _)); exact BK230.out) hb); have n6_ := am (bB (g := gb257) (o := .cells #[.int .i64 t255, .int .i64 t256] 26 (0, 0)) (by (with_reducible repeat (first | refine bN ?_ _ | refine bD ?_ | refine bA ?_ _)); exact BK257.out) hb); have n7_ := am (below_step (by repeat (with_reducible first | exact HB.out | apply lA | apply lN | apply lD | refine lS ?_ GE229.out | refine lS ?_ GE230.out | refine lS ?_ GE257.out)) hb); clear HO251; clear HO254; clear HO260; clear BK229; clear BK230; clear BK257; clear HB; have HO251 := n0_; have HO254 := n1_; have HO260 := n2_; have HO263 := n3_; have BK229 := n4_; have BK230 := n5_; have BK257 := n6_; have HB := n7_; clear n0_ n1_ n2_ n3_ n4_ n5_ n6_ n7_; (try clear hb); (try clear hb2); (try clear hk); (try clear hi); (try clear ho0)) | ((with_reducible refine gate_dst (N := 6) rfl ?_); (try (refine gate_guard (by rfl) ?_; dsimp only)); refine box_event ?hg (N := 6) ?hd (cs := #[.int .i64 0, .int .i64 0]) (t := 26) ?hr ?_; (case hd => rfl); (case hg => rfl); (case hr => first | (go_simp; done) | (go_simp; rfl)); intro gb266 hg w50 hbox hb; have n0_ := am (Kd.R_below (by (with_reducible repeat (first | apply rA | apply rN | apply rD)); exact HO251.out) hb); have n1_ := am (Kd.R_below (by (with_reducible repeat (first | apply rA | apply rN | apply rD)); exact HO254.out) hb); have n2_ := am (Kd.R_below (by (with_reducible repeat (first | apply rA | apply rN | apply rD)); exact HO260.out) hb); have n3_ := am (Kd.R_below (by (with_reducible repeat (first | apply rA | apply rN | apply rD)); exact HO263.out) hb); have n4_ := am (bB (g := gb229) (o := .cells #[.int .i64 2, .string (⟨#[]⟩ : ByteArray), .int .i64 0] 44 (0, 0)) (by (with_reducible repeat (first | refine bN ?_ _ | refine bD ?_ | refine bA ?_ _)); exact BK229.out) hb); have n5_ := am (bB (g := gb230) (o := .cells #[.int .i64 3, .string (⟨#[]⟩ : ByteArray), .int .i64 0] 44 (0, 0)) (by (with_reducible repeat (first | refine bN ?_ _ | refine bD ?_ | refine bA ?_ _)); exact BK230.out) hb); have n6_ := am (bB (g := gb257) (o := .cells #[.int .i64 t255, .int .i64 t256] 26 (0, 0)) (by (with_reducible repeat (first | refine bN ?_ _ | refine bD ?_ | refine bA ?_ _)); exact BK257.out) hb); have n7_ := am (below_step (by repeat (with_reducible first | exact HB.out | apply lA | apply lN | apply lD | refine lS ?_ GE229.out | refine lS ?_ GE230.out | refine lS ?_ GE257.out)) hb); have n8_ := am (hbox); have n9_ := am ((by rw [hg]; exact (below_size (by repeat (with_reducible first | exact HB.out | apply lA | apply lN | apply lD | refine lS ?_ GE229.out | refine lS ?_ GE230.out | refine lS ?_ GE257.out))) : w.heap.size ≤ gb266)); have n10_ := am ((by rw [hg]; exact (below_size (by repeat (with_reducible first | exact HB.out | apply lA | apply lN | apply lD | refine lS ?_ GE229.out | refine lS ?_ GE230.out | refine lS ?_ GE257.out))) : w.heap.size ≤ gb266)); have n11_ := am ((by rw [hg]; exact Nat.ne_of_lt (blk_lt (g := gb229) (o := .cells #[.int .i64 2, .string (⟨#[]⟩ : ByteArray), .int .i64 0] 44 (0, 0)) (by (with_reducible repeat (first | refine bN ?_ _ | refine bD ?_ | refine bA ?_ _)); exact BK229.out)) : gb229 ≠ gb266)); have n12_ := am ((by rw [hg]; exact Nat.ne_of_gt (blk_lt (g := gb229) (o := .cells #[.int .i64 2, .string (⟨#[]⟩ : ByteArray), .int .i64 0] 44 (0, 0)) (by (with_reducible repeat (first | refine bN ?_ _ | refine bD ?_ | refine bA ?_ _)); exact BK229.out)) : gb266 ≠ gb229)); have n13_ := am ((by rw [hg]; exact Nat.ne_of_lt (blk_lt (g := gb230) (o := .cells #[.int .i64 3, .string (⟨#[]⟩ : ByteArray), .int .i64 0] 44 (0, 0)) (by (with_reducible repeat (first | refine bN ?_ _ | refine bD ?_ | refine bA ?_ _)); exact BK230.out)) : gb230 ≠ gb266)); have n14_ := am ((by rw [hg]; exact Nat.ne_of_gt (blk_lt (g := gb230) (o := .cells #[.int .i64 3, .string (⟨#[]⟩ : ByteArray), .int .i64 0] 44 (0, 0)) (by (with_reducible repeat (first | refine bN ?_ _ | refine bD ?_ | refine bA ?_ _)); exact BK230.out)) : gb266 ≠ gb230)); have n15_ := am ((by rw [hg]; exact Nat.ne_of_lt (blk_lt (g := gb257) (o := .cells #[.int .i64 t255, .int .i64 t256] 26 (0, 0)) (by (with_reducible repeat (first | refine bN ?_ _ | refine bD ?_ | refine bA ?_ _)); exact BK257.out)) : gb257 ≠ gb266)); have n16_ := am ((by rw [hg]; exact Nat.ne_of_gt (blk_lt (g := gb257) (o := .cells #[.int .i64 t255, .int .i64 t256] 26 (0, 0)) (by (with_reducible repeat (first | refine bN ?_ _ | refine bD ?_ | refine bA ?_ _)); exact BK257.out)) : gb266 ≠ gb257)); clear HO251; clear HO254; clear HO260; clear HO263; clear BK229; clear BK230; clear BK257; clear HB; have HO251 := n0_; have HO254 := n1_; have HO260 := n2_; have HO263 := n3_; have BK229 := n4_; have BK230 := n5_; have BK257 := n6_; have HB := n7_; have BK266 := n8_; have GW266 := n9_; have GE266 := n10_; have NB229_266 := n11_; have NB266_229 := n12_; have NB230_266 := n13_; have NB266_230 := n14_; have NB257_266 := n15_; have NB266_257 := n16_; clear n0_ n1_ n2_ n3_ n4_ n5_ n6_ n7_ n8_ n9_ n10_ n11_ n12_ n13_ n14_ n15_ n16_; clear hb hbox hg; have hnb51 := NB266_229.out; have hnc51 := NB229_266.out; have hnb52 := NB266_230.out; have hnc52 := NB230_266.out; have hnb53 := NB266_257.out; have hnc53 := NB257_266.out; have hcz54_0 : w50.cell? ⟨gb266, 0, none⟩ = some (.int .i64 0) := (bC BK266.out 0).trans rfl; have hcz54_1 : w50.cell? ⟨gb266, 1, none⟩ = some (.int .i64 0) := (bC BK266.out 1).trans rfl; have hfz54_0 := bF BK266.out 0; have hfz54_1 := bF BK266.out 1) | ((with_reducible refine gate_callee (f := 23) rfl ?_); refine goesL_ (some 37) rfl rfl Try.func23 (by kernel_rfl) rfl #[.string (⟨#[112]⟩ : ByteArray)] rfl (by (try simp only [List.map_toArray, List.map_cons, List.map_nil]); first | done | rfl | (simp only [List.length_drop, List.length_take]; rfl)) ?_; (with_reducible refine (variorumlaw06_command.calls (⟨#[112]⟩ : ByteArray) t267 t268 t269 _ A9.out).mono ?_); rintro e w55 ⟨rfl, hb⟩; refine ⟨_, rfl, ?_⟩; have n0_ := am (Kd.R_below (by (with_reducible repeat (first | apply rA | apply rN | apply rD)); exact (Kd.R_mono (Kd.R_far (p := ⟨gb266, 1, none⟩) (Kd.R_far (p := ⟨gb266, 0, none⟩) (Kd.R_types HO251.out BK266.out (by decide)) (fun _ hk => hk.2) (.int .i64 t264)) (fun _ hk => hk.2) (.int .i64 t265)) (fun _ h_ => h_.1))) hb); have n1_ := am (Kd.R_below (by (with_reducible repeat (first | apply rA | apply rN | apply rD)); exact (Kd.R_mono (Kd.R_far (p := ⟨gb266, 1, none⟩) (Kd.R_far (p := ⟨gb266, 0, none⟩) (Kd.R_types HO254.out BK266.out (by decide)) (fun _ hk => hk.2) (.int .i64 t264)) (fun _ hk => hk.2) (.int .i64 t265)) (fun _ h_ => h_.1))) hb); have n2_ := am (Kd.R_below (by (with_reducible repeat (first | apply rA | apply rN | apply rD)); exact (Kd.R_mono (Kd.R_far (p := ⟨gb266, 1, none⟩) (Kd.R_far (p := ⟨gb266, 0, none⟩) (Kd.R_types HO260.out BK266.out (by decide)) (fun _ hk => hk.2) (.int .i64 t264)) (fun _ hk => hk.2) (.int .i64 t265)) (fun _ h_ => h_.1))) hb); have n3_ := am (Kd.R_below (by (with_reducible repeat (first | apply rA | apply rN | apply rD)); exact (Kd.R_mono (Kd.R_far (p := ⟨gb266, 1, none⟩) (Kd.R_far (p := ⟨gb266, 0, none⟩) (Kd.R_types HO263.out BK266.out (by decide)) (fun _ hk => hk.2) (.int .i64 t264)) (fun _ hk => hk.2) (.int .i64 t265)) (fun _ h_ => h_.1))) hb); have n4_ := am (bB (g := gb229) (o := .cells #[.int .i64 2, .string (⟨#[]⟩ : ByteArray), .int .i64 0] 44 (0, 0)) (by (with_reducible repeat (first | refine bN ?_ _ | refine bD ?_ | refine bA ?_ _)); refine bR ?_ NB229_266.out _; (with_reducible repeat (first | refine bN ?_ _ | refine bD ?_ | refine bA ?_ _)); refine bR ?_ NB229_266.out _; (with_reducible repeat (first | refine bN ?_ _ | refine bD ?_ | refine bA ?_ _)); exact BK229.out) hb); have n5_ := am (bB (g := gb230) (o := .cells #[.int .i64 3, .string (⟨#[]⟩ : ByteArray), .int .i64 0] 44 (0, 0)) (by (with_reducible repeat (first | refine bN ?_ _ | refine bD ?_ | refine bA ?_ _)); refine bR ?_ NB230_266.out _; (with_reducible repeat (first | refine bN ?_ _ | refine bD ?_ | refine bA ?_ _)); refine bR ?_ NB230_266.out _; (with_reducible repeat (first | refine bN ?_ _ | refine bD ?_ | refine bA ?_ _)); exact BK230.out) hb); have n6_ := am (bB (g := gb257) (o := .cells #[.int .i64 t255, .int .i64 t256] 26 (0, 0)) (by (with_reducible repeat (first | refine bN ?_ _ | refine bD ?_ | refine bA ?_ _)); refine bR ?_ NB257_266.out _; (with_reducible repeat (first | refine bN ?_ _ | refine bD ?_ | refine bA ?_ _)); refine bR ?_ NB257_266.out _; (with_reducible repeat (first | refine bN ?_ _ | refine bD ?_ | refine bA ?_ _)); exact BK257.out) hb); have n7_ := am (bB (g := gb266) (o := .cells #[.int .i64 t264, .int .i64 t265] 26 (0, 0)) (by (with_reducible repeat (first | refine bN ?_ _ | refine bD ?_ | refine bA ?_ _)); refine bP (cs := #[.int .i64 t264, .int .i64 0]) ?_ 1 _ rfl; (with_reducible repeat (first | refine bN ?_ _ | refine bD ?_ | refine bA ?_ _)); refine bP (cs := #[.int .i64 0, .int .i64 0]) ?_ 0 _ rfl; (with_reducible repeat (first | refine bN ?_ _ | refine bD ?_ | refine bA ?_ _)); exact BK266.out) hb); have n8_ := am (below_step (by repeat (with_reducible first | exact HB.out | apply lA | apply lN | apply lD | refine lS ?_ GE229.out | refine lS ?_ GE230.out | refine lS ?_ GE257.out | refine lS ?_ GE266.out)) hb); clear HO251; clear HO254; clear HO260; clear HO263; clear BK229; clear BK230; clear BK257; clear BK266; clear HB; have HO251 := n0_; have HO254 := n1_; have HO260 := n2_; have HO263 := n3_; have BK229 := n4_; have BK230 := n5_; have BK257 := n6_; have BK266 := n7_; have HB := n8_; clear n0_ n1_ n2_ n3_ n4_ n5_ n6_ n7_ n8_; (try clear hb); (try clear hb2); (try clear hk); (try clear hi)) | ((with_reducible refine gate_dst (N := 39) rfl ?_); (try (refine gate_guard (by rfl) ?_; dsimp only)); refine Kd.R_lit k44 _ 44 ?hg (N := 39) ?hd (xs := ([(⟨t267, t268, t269⟩ : S44), (⟨2, (⟨#[]⟩ : ByteArray), 2⟩ : S44)] : List (S44))) (inner := [.int .i64 t267, .string t268, .int .i64 t269, .int .i64 2, .string (⟨#[]⟩ : ByteArray), .int .i64 2]) (ok := fun _ => True) (okp := fun _ => True) ?hr ?hp (fun _ hk => hk) trivial (Below.refl _ _) (Nat.le_refl _) (by simp) ?_; (case hd => rfl); (case hg => rfl); (case hr => first | (go_simp; done) | (go_simp; rfl)); (case hp => exact (Reps.c3 (show Kd.M k44 _ _ _ (⟨t267, t268, t269⟩ : S44) [.int .i64 t267, .string t268, .int .i64 t269] from (k44_mkM _ _ _ (⟨t267, t268, t269⟩ : S44) )) (Reps.c3 (show Kd.M k44 _ _ _ (⟨2, (⟨#[]⟩ : ByteArray), 2⟩ : S44) [.int .i64 2, .string (⟨#[]⟩ : ByteArray), .int .i64 2] from (k44_mkM _ _ _ (⟨2, (⟨#[]⟩ : ByteArray), 2⟩ : S44) )) (Reps.none _ _)))); intro v271 w56 ho57 hb hg_ hnew_; clear hg_ hnew_; (first | rw [← Ny270.out] at ho57 | (simp only [Int.reduceToNat] at ho57; rw [← Ny270.out] at ho57)); have n0_ := am (Kd.R_elder' (by (with_reducible repeat (first | apply rA | apply rN | apply rD)); exact HO251.out) (Kd.R_base ho57) hb); have n1_ := am (Kd.R_below (by (with_reducible repeat (first | apply rA | apply rN | apply rD)); exact HO254.out) hb); have n2_ := am (Kd.R_elder' (by (with_reducible repeat (first | apply rA | apply rN | apply rD)); exact HO260.out) (Kd.R_base ho57) hb); have n3_ := am (Kd.R_below (by (with_reducible repeat (first | apply rA | apply rN | apply rD)); exact HO263.out) hb); have n4_ := am (Kd.R_lower (Kd.R_newB (Kd.R_newB (Kd.R_new' (Kd.R_new' ho57 (Kd.R_lt (by (with_reducible repeat (first | apply rA | apply rN | apply rD)); exact HO251.out))) (Kd.R_lt (by (with_reducible repeat (first | apply rA | apply rN | apply rD)); exact HO260.out))) (g := gb229) (o := .cells #[.int .i64 2, .string (⟨#[]⟩ : ByteArray), .int .i64 0] 44 (0, 0)) (by (with_reducible repeat (first | refine bN ?_ _ | refine bD ?_ | refine bA ?_ _)); exact BK229.out)) (g := gb230) (o := .cells #[.int .i64 3, .string (⟨#[]⟩ : ByteArray), .int .i64 0] 44 (0, 0)) (by (with_reducible repeat (first | refine bN ?_ _ | refine bD ?_ | refine bA ?_ _)); exact BK230.out)) (below_size (by repeat (with_reducible first | exact HB.out | apply lA | apply lN | apply lD | refine lS ?_ GE229.out | refine lS ?_ GE230.out | refine lS ?_ GE257.out | refine lS ?_ GE266.out)))); have n5_ := am (bB (g := gb229) (o := .cells #[.int .i64 2, .string (⟨#[]⟩ : ByteArray), .int .i64 0] 44 (0, 0)) (by (with_reducible repeat (first | refine bN ?_ _ | refine bD ?_ | refine bA ?_ _)); exact BK229.out) hb); have n6_ := am (bB (g := gb230) (o := .cells #[.int .i64 3, .string (⟨#[]⟩ : ByteArray), .int .i64 0] 44 (0, 0)) (by (with_reducible repeat (first | refine bN ?_ _ | refine bD ?_ | refine bA ?_ _)); exact BK230.out) hb); have n7_ := am (bB (g := gb257) (o := .cells #[.int .i64 t255, .int .i64 t256] 26 (0, 0)) (by (with_reducible repeat (first | refine bN ?_ _ | refine bD ?_ | refine bA ?_ _)); exact BK257.out) hb); have n8_ := am (bB (g := gb266) (o := .cells #[.int .i64 t264, .int .i64 t265] 26 (0, 0)) (by (with_reducible repeat (first | refine bN ?_ _ | refine bD ?_ | refine bA ?_ _)); exact BK266.out) hb); have n9_ := am (below_step (by repeat (with_reducible first | exact HB.out | apply lA | apply lN | apply lD | refine lS ?_ GE229.out | refine lS ?_ GE230.out | refine lS ?_ GE257.out | refine lS ?_ GE266.out)) hb); clear HO251; clear HO254; clear HO260; clear HO263; clear BK229; clear BK230; clear BK257; clear BK266; clear HB; have HO251 := n0_; have HO254 := n1_; have HO260 := n2_; have HO263 := n3_; have HO272 := n4_; have BK229 := n5_; have BK230 := n6_; have BK257 := n7_; have BK266 := n8_; have HB := n9_; clear n0_ n1_ n2_ n3_ n4_ n5_ n6_ n7_ n8_ n9_; clear hb ho57; obtain ⟨Ao58, co58, eo58⟩ := Kd.R_slice HO272.out; subst eo58) | ((with_reducible refine gate_callee (f := 7) rfl ?_); refine goesL_ (some 40) rfl rfl Try.func7 (by kernel_rfl) rfl #[.slice Ao58 y270.length co58] rfl (by (try simp only [List.map_toArray, List.map_cons, List.map_nil]); first | done | rfl | (simp only [List.length_drop, List.length_take]; rfl)) ?_; (with_reducible refine (tree_Parse.calls k _ _ y270 t273 t276 t277 _ ?side1 ?side2 A10.out).mono ?_); (case side1 => repeat (first | exact (Kd.R_reads' HO272.out).2.2 | (with_reducible refine Kd.C_alloc ?_ _) | (with_reducible refine Kd.C_drewN ?_ _) | (with_reducible refine Kd.C_drew ?_))); (case side2 => exact (Kd.R_reads' HO272.out).2.1); rintro e w59 ⟨v274, rfl, ho0, hb⟩; refine ⟨_, rfl, ?_⟩; have n0_ := am (Kd.R_below (by (with_reducible repeat (first | apply rA | apply rN | apply rD)); exact HO251.out) hb); have n1_ := am (Kd.R_elder' (by (with_reducible repeat (first | apply rA | apply rN | apply rD)); exact HO254.out) (Kd.R_base ho0) hb); have n2_ := am (Kd.R_below (by (with_reducible repeat (first | apply rA | apply rN | apply rD)); exact HO260.out) hb); have n3_ := am (Kd.R_elder' (by (with_reducible repeat (first | apply rA | apply rN | apply rD)); exact HO263.out) (Kd.R_base ho0) hb); have n4_ := am (Kd.R_below (by (with_reducible repeat (first | apply rA | apply rN | apply rD)); exact HO272.out) hb); have n5_ := am (Kd.R_lower (Kd.R_new' (Kd.R_new' ho0 (Kd.R_lt (by (with_reducible repeat (first | apply rA | apply rN | apply rD)); exact HO254.out))) (Kd.R_lt (by (with_reducible repeat (first | apply rA | apply rN | apply rD)); exact HO263.out))) (below_size (by repeat (with_reducible first | exact HB.out | apply lA | apply lN | apply lD | refine lS ?_ GE229.out | refine lS ?_ GE230.out | refine lS ?_ GE257.out | refine lS ?_ GE266.out)))); have n6_ := am (bB (g := gb229) (o := .cells #[.int .i64 2, .string (⟨#[]⟩ : ByteArray), .int .i64 0] 44 (0, 0)) (by (with_reducible repeat (first | refine bN ?_ _ | refine bD ?_ | refine bA ?_ _)); exact BK229.out) hb); have n7_ := am (bB (g := gb230) (o := .cells #[.int .i64 3, .string (⟨#[]⟩ : ByteArray), .int .i64 0] 44 (0, 0)) (by (with_reducible repeat (first | refine bN ?_ _ | refine bD ?_ | refine bA ?_ _)); exact BK230.out) hb); have n8_ := am (bB (g := gb257) (o := .cells #[.int .i64 t255, .int .i64 t256] 26 (0, 0)) (by (with_reducible repeat (first | refine bN ?_ _ | refine bD ?_ | refine bA ?_ _)); exact BK257.out) hb); have n9_ := am (bB (g := gb266) (o := .cells #[.int .i64 t264, .int .i64 t265] 26 (0, 0)) (by (with_reducible repeat (first | refine bN ?_ _ | refine bD ?_ | refine bA ?_ _)); exact BK266.out) hb); have n10_ := am (below_step (by repeat (with_reducible first | exact HB.out | apply lA | apply lN | apply lD | refine lS ?_ GE229.out | refine lS ?_ GE230.out | refine lS ?_ GE257.out | refine lS ?_ GE266.out)) hb); clear HO251; clear HO254; clear HO260; clear HO263; clear HO272; clear BK229; clear BK230; clear BK257; clear BK266; clear HB; have HO251 := n0_; have HO254 := n1_; have HO260 := n2_; have HO263 := n3_; have HO272 := n4_; have HO275 := n5_; have BK229 := n6_; have BK230 := n7_; have BK257 := n8_; have BK266 := n9_; have HB := n10_; clear n0_ n1_ n2_ n3_ n4_ n5_ n6_ n7_ n8_ n9_ n10_; (try clear hb); (try clear hb2); (try clear hk); (try clear hi); (try clear ho0)) | ((with_reducible refine gate_dst (N := 8) rfl ?_); (try (refine gate_guard (by rfl) ?_; dsimp only)); refine box_event ?hg (N := 8) ?hd (cs := #[.int .i64 0, .int .i64 0]) (t := 26) ?hr ?_; (case hd => rfl); (case hg => rfl); (case hr => first | (go_simp; done) | (go_simp; rfl)); intro gb278 hg w60 hbox hb; have n0_ := am (Kd.R_below (by (with_reducible repeat (first | apply rA | apply rN | apply rD)); exact HO251.out) hb); have n1_ := am (Kd.R_below (by (with_reducible repeat (first | apply rA | apply rN | apply rD)); exact HO254.out) hb); have n2_ := am (Kd.R_below (by (with_reducible repeat (first | apply rA | apply rN | apply rD)); exact HO260.out) hb); have n3_ := am (Kd.R_below (by (with_reducible repeat (first | apply rA | apply rN | apply rD)); exact HO263.out) hb); have n4_ := am (Kd.R_below (by (with_reducible repeat (first | apply rA | apply rN | apply rD)); exact HO272.out) hb); have n5_ := am (Kd.R_below (by (with_reducible repeat (first | apply rA | apply rN | apply rD)); exact HO275.out) hb); have n6_ := am (bB (g := gb229) (o := .cells #[.int .i64 2, .string (⟨#[]⟩ : ByteArray), .int .i64 0] 44 (0, 0)) (by (with_reducible repeat (first | refine bN ?_ _ | refine bD ?_ | refine bA ?_ _)); exact BK229.out) hb); have n7_ := am (bB (g := gb230) (o := .cells #[.int .i64 3, .string (⟨#[]⟩ : ByteArray), .int .i64 0] 44 (0, 0)) (by (with_reducible repeat (first | refine bN ?_ _ | refine bD ?_ | refine bA ?_ _)); exact BK230.out) hb); have n8_ := am (bB (g := gb257) (o := .cells #[.int .i64 t255, .int .i64 t256] 26 (0, 0)) (by (with_reducible repeat (first | refine bN ?_ _ | refine bD ?_ | refine bA ?_ _)); exact BK257.out) hb); have n9_ := am (bB (g := gb266) (o := .cells #[.int .i64 t264, .int .i64 t265] 26 (0, 0)) (by (with_reducible repeat (first | refine bN ?_ _ | refine bD ?_ | refine bA ?_ _)); exact BK266.out) hb); have n10_ := am (below_step (by repeat (with_reducible first | exact HB.out | apply lA | apply lN | apply lD | refine lS ?_ GE229.out | refine lS ?_ GE230.out | refine lS ?_ GE257.out | refine lS ?_ GE266.out)) hb); have n11_ := am (hbox); have n12_ := am ((by rw [hg]; exact (below_size (by repeat (with_reducible first | exact HB.out | apply lA | apply lN | apply lD | refine lS ?_ GE229.out | refine lS ?_ GE230.out | refine lS ?_ GE257.out | refine lS ?_ GE266.out))) : w.heap.size ≤ gb278)); have n13_ := am ((by rw [hg]; exact (below_size (by repeat (with_reducible first | exact HB.out | apply lA | apply lN | apply lD | refine lS ?_ GE229.out | refine lS ?_ GE230.out | refine lS ?_ GE257.out | refine lS ?_ GE266.out))) : w.heap.size ≤ gb278)); have n14_ := am ((by rw [hg]; exact Nat.ne_of_lt (blk_lt (g := gb229) (o := .cells #[.int .i64 2, .string (⟨#[]⟩ : ByteArray), .int .i64 0] 44 (0, 0)) (by (with_reducible repeat (first | refine bN ?_ _ | refine bD ?_ | refine bA ?_ _)); exact BK229.out)) : gb229 ≠ gb278)); have n15_ := am ((by rw [hg]; exact Nat.ne_of_gt (blk_lt (g := gb229) (o := .cells #[.int .i64 2, .string (⟨#[]⟩ : ByteArray), .int .i64 0] 44 (0, 0)) (by (with_reducible repeat (first | refine bN ?_ _ | refine bD ?_ | refine bA ?_ _)); exact BK229.out)) : gb278 ≠ gb229)); have n16_ := am ((by rw [hg]; exact Nat.ne_of_lt (blk_lt (g := gb230) (o := .cells #[.int .i64 3, .string (⟨#[]⟩ : ByteArray), .int .i64 0] 44 (0, 0)) (by (with_reducible repeat (first | refine bN ?_ _ | refine bD ?_ | refine bA ?_ _)); exact BK230.out)) : gb230 ≠ gb278)); have n17_ := am ((by rw [hg]; exact Nat.ne_of_gt (blk_lt (g := gb230) (o := .cells #[.int .i64 3, .string (⟨#[]⟩ : ByteArray), .int .i64 0] 44 (0, 0)) (by (with_reducible repeat (first | refine bN ?_ _ | refine bD ?_ | refine bA ?_ _)); exact BK230.out)) : gb278 ≠ gb230)); have n18_ := am ((by rw [hg]; exact Nat.ne_of_lt (blk_lt (g := gb257) (o := .cells #[.int .i64 t255, .int .i64 t256] 26 (0, 0)) (by (with_reducible repeat (first | refine bN ?_ _ | refine bD ?_ | refine bA ?_ _)); exact BK257.out)) : gb257 ≠ gb278)); have n19_ := am ((by rw [hg]; exact Nat.ne_of_gt (blk_lt (g := gb257) (o := .cells #[.int .i64 t255, .int .i64 t256] 26 (0, 0)) (by (with_reducible repeat (first | refine bN ?_ _ | refine bD ?_ | refine bA ?_ _)); exact BK257.out)) : gb278 ≠ gb257)); have n20_ := am ((by rw [hg]; exact Nat.ne_of_lt (blk_lt (g := gb266) (o := .cells #[.int .i64 t264, .int .i64 t265] 26 (0, 0)) (by (with_reducible repeat (first | refine bN ?_ _ | refine bD ?_ | refine bA ?_ _)); exact BK266.out)) : gb266 ≠ gb278)); have n21_ := am ((by rw [hg]; exact Nat.ne_of_gt (blk_lt (g := gb266) (o := .cells #[.int .i64 t264, .int .i64 t265] 26 (0, 0)) (by (with_reducible repeat (first | refine bN ?_ _ | refine bD ?_ | refine bA ?_ _)); exact BK266.out)) : gb278 ≠ gb266)); clear HO251; clear HO254; clear HO260; clear HO263; clear HO272; clear HO275; clear BK229; clear BK230; clear BK257; clear BK266; clear HB; have HO251 := n0_; have HO254 := n1_; have HO260 := n2_; have HO263 := n3_; have HO272 := n4_; have HO275 := n5_; have BK229 := n6_; have BK230 := n7_; have BK257 := n8_; have BK266 := n9_; have HB := n10_; have BK278 := n11_; have GW278 := n12_; have GE278 := n13_; have NB229_278 := n14_; have NB278_229 := n15_; have NB230_278 := n16_; have NB278_230 := n17_; have NB257_278 := n18_; have NB278_257 := n19_; have NB266_278 := n20_; have NB278_266 := n21_; clear n0_ n1_ n2_ n3_ n4_ n5_ n6_ n7_ n8_ n9_ n10_ n11_ n12_ n13_ n14_ n15_ n16_ n17_ n18_ n19_ n20_ n21_; clear hb hbox hg; have hnb61 := NB278_229.out; have hnc61 := NB229_278.out; have hnb62 := NB278_230.out; have hnc62 := NB230_278.out; have hnb63 := NB278_257.out; have hnc63 := NB257_278.out; have hnb64 := NB278_266.out; have hnc64 := NB266_278.out; have hcz65_0 : w60.cell? ⟨gb278, 0, none⟩ = some (.int .i64 0) := (bC BK278.out 0).trans rfl; have hcz65_1 : w60.cell? ⟨gb278, 1, none⟩ = some (.int .i64 0) := (bC BK278.out 1).trans rfl; have hfz65_0 := bF BK278.out 0; have hfz65_1 := bF BK278.out 1) | ((with_reducible refine gate_dst (N := 45) rfl ?_); (try (refine gate_guard (by rfl) ?_; dsimp only)); refine Kd.R_lit k44 _ 44 ?hg (N := 45) ?hd (xs := ([(⟨3, (⟨#[]⟩ : ByteArray), 4⟩ : S44)] : List (S44))) (inner := [.int .i64 3, .string (⟨#[]⟩ : ByteArray), .int .i64 4]) (ok := fun _ => True) (okp := fun _ => True) ?hr ?hp (fun _ hk => hk) trivial (Below.refl _ _) (Nat.le_refl _) (by simp) ?_; (case hd => rfl); (case hg => rfl); (case hr => first | (go_simp; done) | (go_simp; rfl)); (case hp => exact (Reps.c3 (show Kd.M k44 _ _ _ (⟨3, (⟨#[]⟩ : ByteArray), 4⟩ : S44) [.int .i64 3, .string (⟨#[]⟩ : ByteArray), .int .i64 4] from (k44_mkM _ _ _ (⟨3, (⟨#[]⟩ : ByteArray), 4⟩ : S44) )) (Reps.none _ _))); intro v280 w66 ho67 hb hg_ hnew_; clear hg_ hnew_; (first | rw [← Ny279.out] at ho67 | (simp only [Int.reduceToNat] at ho67; rw [← Ny279.out] at ho67)); have n0_ := am (Kd.R_elder' (by (with_reducible repeat (first | apply rA | apply rN | apply rD)); exact (Kd.R_mono (Kd.R_far (p := ⟨gb278, 1, none⟩) (Kd.R_far (p := ⟨gb278, 0, none⟩) (Kd.R_types HO251.out BK278.out (by decide)) (fun _ hk => hk.2) (.int .i64 t276)) (fun _ hk => hk.2) (.int .i64 t277)) (fun _ h_ => h_.1))) (Kd.R_base ho67) hb); have n1_ := am (Kd.R_below (by (with_reducible repeat (first | apply rA | apply rN | apply rD)); exact (Kd.R_mono (Kd.R_far (p := ⟨gb278, 1, none⟩) (Kd.R_far (p := ⟨gb278, 0, none⟩) (Kd.R_types HO254.out BK278.out (by decide)) (fun _ hk => hk.2) (.int .i64 t276)) (fun _ hk => hk.2) (.int .i64 t277)) (fun _ h_ => h_.1))) hb); have n2_ := am (Kd.R_elder' (by (with_reducible repeat (first | apply rA | apply rN | apply rD)); exact (Kd.R_mono (Kd.R_far (p := ⟨gb278, 1, none⟩) (Kd.R_far (p := ⟨gb278, 0, none⟩) (Kd.R_types HO260.out BK278.out (by decide)) (fun _ hk => hk.2) (.int .i64 t276)) (fun _ hk => hk.2) (.int .i64 t277)) (fun _ h_ => h_.1))) (Kd.R_base ho67) hb); have n3_ := am (Kd.R_below (by (with_reducible repeat (first | apply rA | apply rN | apply rD)); exact (Kd.R_mono (Kd.R_far (p := ⟨gb278, 1, none⟩) (Kd.R_far (p := ⟨gb278, 0, none⟩) (Kd.R_types HO263.out BK278.out (by decide)) (fun _ hk => hk.2) (.int .i64 t276)) (fun _ hk => hk.2) (.int .i64 t277)) (fun _ h_ => h_.1))) hb); have n4_ := am (Kd.R_elder' (by (with_reducible repeat (first | apply rA | apply rN | apply rD)); exact (Kd.R_mono (Kd.R_far (p := ⟨gb278, 1, none⟩) (Kd.R_far (p := ⟨gb278, 0, none⟩) (Kd.R_types HO272.out BK278.out (by decide)) (fun _ hk => hk.2) (.int .i64 t276)) (fun _ hk => hk.2) (.int .i64 t277)) (fun _ h_ => h_.1))) (Kd.R_base ho67) hb); have n5_ := am (Kd.R_below (by (with_reducible repeat (first | apply rA | apply rN | apply rD)); exact (Kd.R_mono (Kd.R_far (p := ⟨gb278, 1, none⟩) (Kd.R_far (p := ⟨gb278, 0, none⟩) (Kd.R_types HO275.out BK278.out (by decide)) (fun _ hk => hk.2) (.int .i64 t276)) (fun _ hk => hk.2) (.int .i64 t277)) (fun _ h_ => h_.1))) hb); have n6_ := am (Kd.R_lower (Kd.R_newB (Kd.R_newB (Kd.R_new' (Kd.R_new' (Kd.R_new' ho67 (Kd.R_lt (by (with_reducible repeat (first | apply rA | apply rN | apply rD)); exact (Kd.R_mono (Kd.R_far (p := ⟨gb278, 1, none⟩) (Kd.R_far (p := ⟨gb278, 0, none⟩) (Kd.R_types HO251.out BK278.out (by decide)) (fun _ hk => hk.2) (.int .i64 t276)) (fun _ hk => hk.2) (.int .i64 t277)) (fun _ h_ => h_.1))))) (Kd.R_lt (by (with_reducible repeat (first | apply rA | apply rN | apply rD)); exact (Kd.R_mono (Kd.R_far (p := ⟨gb278, 1, none⟩) (Kd.R_far (p := ⟨gb278, 0, none⟩) (Kd.R_types HO260.out BK278.out (by decide)) (fun _ hk => hk.2) (.int .i64 t276)) (fun _ hk => hk.2) (.int .i64 t277)) (fun _ h_ => h_.1))))) (Kd.R_lt (by (with_reducible repeat (first | apply rA | apply rN | apply rD)); exact (Kd.R_mono (Kd.R_far (p := ⟨gb278, 1, none⟩) (Kd.R_far (p := ⟨gb278, 0, none⟩) (Kd.R_types HO272.out BK278.out (by decide)) (fun _ hk => hk.2) (.int .i64 t276)) (fun _ hk => hk.2) (.int .i64 t277)) (fun _ h_ => h_.1))))) (g := gb229) (o := .cells #[.int .i64 2, .string (⟨#[]⟩ : ByteArray), .int .i64 0] 44 (0, 0)) (by (with_reducible repeat (first | refine bN ?_ _ | refine bD ?_ | refine bA ?_ _)); refine bR ?_ NB229_278.out _; (with_reducible repeat (first | refine bN ?_ _ | refine bD ?_ | refine bA ?_ _)); refine bR ?_ NB229_278.out _; (with_reducible repeat (first | refine bN ?_ _ | refine bD ?_ | refine bA ?_ _)); exact BK229.out)) (g := gb230) (o := .cells #[.int .i64 3, .string (⟨#[]⟩ : ByteArray), .int .i64 0] 44 (0, 0)) (by (with_reducible repeat (first | refine bN ?_ _ | refine bD ?_ | refine bA ?_ _)); refine bR ?_ NB230_278.out _; (with_reducible repeat (first | refine bN ?_ _ | refine bD ?_ | refine bA ?_ _)); refine bR ?_ NB230_278.out _; (with_reducible repeat (first | refine bN ?_ _ | refine bD ?_ | refine bA ?_ _)); exact BK230.out)) (below_size (by repeat (with_reducible first | exact HB.out | apply lA | apply lN | apply lD | refine lS ?_ GE229.out | refine lS ?_ GE230.out | refine lS ?_ GE257.out | refine lS ?_ GE266.out | refine lS ?_ GE278.out)))); have n7_ := am (bB (g := gb229) (o := .cells #[.int .i64 2, .string (⟨#[]⟩ : ByteArray), .int .i64 0] 44 (0, 0)) (by (with_reducible repeat (first | refine bN ?_ _ | refine bD ?_ | refine bA ?_ _)); refine bR ?_ NB229_278.out _; (with_reducible repeat (first | refine bN ?_ _ | refine bD ?_ | refine bA ?_ _)); refine bR ?_ NB229_278.out _; (with_reducible repeat (first | refine bN ?_ _ | refine bD ?_ | refine bA ?_ _)); exact BK229.out) hb); have n8_ := am (bB (g := gb230) (o := .cells #[.int .i64 3, .string (⟨#[]⟩ : ByteArray), .int .i64 0] 44 (0, 0)) (by (with_reducible repeat (first | refine bN ?_ _ | refine bD ?_ | refine bA ?_ _)); refine bR ?_ NB230_278.out _; (with_reducible repeat (first | refine bN ?_ _ | refine bD ?_ | refine bA ?_ _)); refine bR ?_ NB230_278.out _; (with_reducible repeat (first | refine bN ?_ _ | refine bD ?_ | refine bA ?_ _)); exact BK230.out) hb); have n9_ := am (bB (g := gb257) (o := .cells #[.int .i64 t255, .int .i64 t256] 26 (0, 0)) (by (with_reducible repeat (first | refine bN ?_ _ | refine bD ?_ | refine bA ?_ _)); refine bR ?_ NB257_278.out _; (with_reducible repeat (first | refine bN ?_ _ | refine bD ?_ | refine bA ?_ _)); refine bR ?_ NB257_278.out _; (with_reducible repeat (first | refine bN ?_ _ | refine bD ?_ | refine bA ?_ _)); exact BK257.out) hb); have n10_ := am (bB (g := gb266) (o := .cells #[.int .i64 t264, .int .i64 t265] 26 (0, 0)) (by (with_reducible repeat (first | refine bN ?_ _ | refine bD ?_ | refine bA ?_ _)); refine bR ?_ NB266_278.out _; (with_reducible repeat (first | refine bN ?_ _ | refine bD ?_ | refine bA ?_ _)); refine bR ?_ NB266_278.out _; (with_reducible repeat (first | refine bN ?_ _ | refine bD ?_ | refine bA ?_ _)); exact BK266.out) hb); have n11_ := am (bB (g := gb278) (o := .cells #[.int .i64 t276, .int .i64 t277] 26 (0, 0)) (by (with_reducible repeat (first | refine bN ?_ _ | refine bD ?_ | refine bA ?_ _)); refine bP (cs := #[.int .i64 t276, .int .i64 0]) ?_ 1 _ rfl; (with_reducible repeat (first | refine bN ?_ _ | refine bD ?_ | refine bA ?_ _)); refine bP (cs := #[.int .i64 0, .int .i64 0]) ?_ 0 _ rfl; (with_reducible repeat (first | refine bN ?_ _ | refine bD ?_ | refine bA ?_ _)); exact BK278.out) hb); have n12_ := am (below_step (by repeat (with_reducible first | exact HB.out | apply lA | apply lN | apply lD | refine lS ?_ GE229.out | refine lS ?_ GE230.out | refine lS ?_ GE257.out | refine lS ?_ GE266.out | refine lS ?_ GE278.out)) hb); clear HO251; clear HO254; clear HO260; clear HO263; clear HO272; clear HO275; clear BK229; clear BK230; clear BK257; clear BK266; clear BK278; clear HB; have HO251 := n0_; have HO254 := n1_; have HO260 := n2_; have HO263 := n3_; have HO272 := n4_; have HO275 := n5_; have HO281 := n6_; have BK229 := n7_; have BK230 := n8_; have BK257 := n9_; have BK266 := n10_; have BK278 := n11_; have HB := n12_; clear n0_ n1_ n2_ n3_ n4_ n5_ n6_ n7_ n8_ n9_ n10_ n11_ n12_; clear hb ho67; obtain ⟨Ao68, co68, eo68⟩ := Kd.R_slice HO281.out; subst eo68) | ((with_reducible refine gate_callee (f := 7) rfl ?_); refine goesL_ (some 46) rfl rfl Try.func7 (by kernel_rfl) rfl #[.slice Ao68 y279.length co68] rfl (by (try simp only [List.map_toArray, List.map_cons, List.map_nil]); first | done | rfl | (simp only [List.length_drop, List.length_take]; rfl)) ?_; (with_reducible refine (tree_Parse.calls k _ _ y279 t282 t285 t286 _ ?side1 ?side2 A11.out).mono ?_); (case side1 => repeat (first | exact (Kd.R_reads' HO281.out).2.2 | (with_reducible refine Kd.C_alloc ?_ _) | (with_reducible refine Kd.C_drewN ?_ _) | (with_reducible refine Kd.C_drew ?_))); (case side2 => exact (Kd.R_reads' HO281.out).2.1); rintro e w69 ⟨v283, rfl, ho0, hb⟩; refine ⟨_, rfl, ?_⟩; have n0_ := am (Kd.R_below (by (with_reducible repeat (first | apply rA | apply rN | apply rD)); exact HO251.out) hb); have n1_ := am (Kd.R_elder' (by (with_reducible repeat (first | apply rA | apply rN | apply rD)); exact HO254.out) (Kd.R_base ho0) hb); have n2_ := am (Kd.R_below (by (with_reducible repeat (first | apply rA | apply rN | apply rD)); exact HO260.out) hb); have n3_ := am (Kd.R_elder' (by (with_reducible repeat (first | apply rA | apply rN | apply rD)); exact HO263.out) (Kd.R_base ho0) hb); have n4_ := am (Kd.R_below (by (with_reducible repeat (first | apply rA | apply rN | apply rD)); exact HO272.out) hb); have n5_ := am (Kd.R_elder' (by (with_reducible repeat (first | apply rA | apply rN | apply rD)); exact HO275.out) (Kd.R_base ho0) hb); have n6_ := am (Kd.R_below (by (with_reducible repeat (first | apply rA | apply rN | apply rD)); exact HO281.out) hb); have n7_ := am (Kd.R_lower (Kd.R_new' (Kd.R_new' (Kd.R_new' ho0 (Kd.R_lt (by (with_reducible repeat (first | apply rA | apply rN | apply rD)); exact HO254.out))) (Kd.R_lt (by (with_reducible repeat (first | apply rA | apply rN | apply rD)); exact HO263.out))) (Kd.R_lt (by (with_reducible repeat (first | apply rA | apply rN | apply rD)); exact HO275.out))) (below_size (by repeat (with_reducible first | exact HB.out | apply lA | apply lN | apply lD | refine lS ?_ GE229.out | refine lS ?_ GE230.out | refine lS ?_ GE257.out | refine lS ?_ GE266.out | refine lS ?_ GE278.out)))); have n8_ := am (bB (g := gb229) (o := .cells #[.int .i64 2, .string (⟨#[]⟩ : ByteArray), .int .i64 0] 44 (0, 0)) (by (with_reducible repeat (first | refine bN ?_ _ | refine bD ?_ | refine bA ?_ _)); exact BK229.out) hb); have n9_ := am (bB (g := gb230) (o := .cells #[.int .i64 3, .string (⟨#[]⟩ : ByteArray), .int .i64 0] 44 (0, 0)) (by (with_reducible repeat (first | refine bN ?_ _ | refine bD ?_ | refine bA ?_ _)); exact BK230.out) hb); have n10_ := am (bB (g := gb257) (o := .cells #[.int .i64 t255, .int .i64 t256] 26 (0, 0)) (by (with_reducible repeat (first | refine bN ?_ _ | refine bD ?_ | refine bA ?_ _)); exact BK257.out) hb); have n11_ := am (bB (g := gb266) (o := .cells #[.int .i64 t264, .int .i64 t265] 26 (0, 0)) (by (with_reducible repeat (first | refine bN ?_ _ | refine bD ?_ | refine bA ?_ _)); exact BK266.out) hb); have n12_ := am (bB (g := gb278) (o := .cells #[.int .i64 t276, .int .i64 t277] 26 (0, 0)) (by (with_reducible repeat (first | refine bN ?_ _ | refine bD ?_ | refine bA ?_ _)); exact BK278.out) hb); have n13_ := am (below_step (by repeat (with_reducible first | exact HB.out | apply lA | apply lN | apply lD | refine lS ?_ GE229.out | refine lS ?_ GE230.out | refine lS ?_ GE257.out | refine lS ?_ GE266.out | refine lS ?_ GE278.out)) hb); clear HO251; clear HO254; clear HO260; clear HO263; clear HO272; clear HO275; clear HO281; clear BK229; clear BK230; clear BK257; clear BK266; clear BK278; clear HB; have HO251 := n0_; have HO254 := n1_; have HO260 := n2_; have HO263 := n3_; have HO272 := n4_; have HO275 := n5_; have HO281 := n6_; have HO284 := n7_; have BK229 := n8_; have BK230 := n9_; have BK257 := n10_; have BK266 := n11_; have BK278 := n12_; have HB := n13_; clear n0_ n1_ n2_ n3_ n4_ n5_ n6_ n7_ n8_ n9_ n10_ n11_ n12_ n13_; (try clear hb); (try clear hb2); (try clear hk); (try clear hi); (try clear ho0)) | ((with_reducible refine gate_dst (N := 10) rfl ?_); (try (refine gate_guard (by rfl) ?_; dsimp only)); refine box_event ?hg (N := 10) ?hd (cs := #[.int .i64 0, .int .i64 0]) (t := 26) ?hr ?_; (case hd => rfl); (case hg => rfl); (case hr => first | (go_simp; done) | (go_simp; rfl)); intro gb287 hg w70 hbox hb; have n0_ := am (Kd.R_below (by (with_reducible repeat (first | apply rA | apply rN | apply rD)); exact HO251.out) hb); have n1_ := am (Kd.R_below (by (with_reducible repeat (first | apply rA | apply rN | apply rD)); exact HO254.out) hb); have n2_ := am (Kd.R_below (by (with_reducible repeat (first | apply rA | apply rN | apply rD)); exact HO260.out) hb); have n3_ := am (Kd.R_below (by (with_reducible repeat (first | apply rA | apply rN | apply rD)); exact HO263.out) hb); have n4_ := am (Kd.R_below (by (with_reducible repeat (first | apply rA | apply rN | apply rD)); exact HO272.out) hb); have n5_ := am (Kd.R_below (by (with_reducible repeat (first | apply rA | apply rN | apply rD)); exact HO275.out) hb); have n6_ := am (Kd.R_below (by (with_reducible repeat (first | apply rA | apply rN | apply rD)); exact HO281.out) hb); have n7_ := am (Kd.R_below (by (with_reducible repeat (first | apply rA | apply rN | apply rD)); exact HO284.out) hb); have n8_ := am (bB (g := gb229) (o := .cells #[.int .i64 2, .string (⟨#[]⟩ : ByteArray), .int .i64 0] 44 (0, 0)) (by (with_reducible repeat (first | refine bN ?_ _ | refine bD ?_ | refine bA ?_ _)); exact BK229.out) hb); have n9_ := am (bB (g := gb230) (o := .cells #[.int .i64 3, .string (⟨#[]⟩ : ByteArray), .int .i64 0] 44 (0, 0)) (by (with_reducible repeat (first | refine bN ?_ _ | refine bD ?_ | refine bA ?_ _)); exact BK230.out) hb); have n10_ := am (bB (g := gb257) (o := .cells #[.int .i64 t255, .int .i64 t256] 26 (0, 0)) (by (with_reducible repeat (first | refine bN ?_ _ | refine bD ?_ | refine bA ?_ _)); exact BK257.out) hb); have n11_ := am (bB (g := gb266) (o := .cells #[.int .i64 t264, .int .i64 t265] 26 (0, 0)) (by (with_reducible repeat (first | refine bN ?_ _ | refine bD ?_ | refine bA ?_ _)); exact BK266.out) hb); have n12_ := am (bB (g := gb278) (o := .cells #[.int .i64 t276, .int .i64 t277] 26 (0, 0)) (by (with_reducible repeat (first | refine bN ?_ _ | refine bD ?_ | refine bA ?_ _)); exact BK278.out) hb); have n13_ := am (below_step (by repeat (with_reducible first | exact HB.out | apply lA | apply lN | apply lD | refine lS ?_ GE229.out | refine lS ?_ GE230.out | refine lS ?_ GE257.out | refine lS ?_ GE266.out | refine lS ?_ GE278.out)) hb); have n14_ := am (hbox); have n15_ := am ((by rw [hg]; exact (below_size (by repeat (with_reducible first | exact HB.out | apply lA | apply lN | apply lD | refine lS ?_ GE229.out | refine lS ?_ GE230.out | refine lS ?_ GE257.out | refine lS ?_ GE266.out | refine lS ?_ GE278.out))) : w.heap.size ≤ gb287)); have n16_ := am ((by rw [hg]; exact (below_size (by repeat (with_reducible first | exact HB.out | apply lA | apply lN | apply lD | refine lS ?_ GE229.out | refine lS ?_ GE230.out | refine lS ?_ GE257.out | refine lS ?_ GE266.out | refine lS ?_ GE278.out))) : w.heap.size ≤ gb287)); have n17_ := am ((by rw [hg]; exact Nat.ne_of_lt (blk_lt (g := gb229) (o := .cells #[.int .i64 2, .string (⟨#[]⟩ : ByteArray), .int .i64 0] 44 (0, 0)) (by (with_reducible repeat (first | refine bN ?_ _ | refine bD ?_ | refine bA ?_ _)); exact BK229.out)) : gb229 ≠ gb287)); have n18_ := am ((by rw [hg]; exact Nat.ne_of_gt (blk_lt (g := gb229) (o := .cells #[.int .i64 2, .string (⟨#[]⟩ : ByteArray), .int .i64 0] 44 (0, 0)) (by (with_reducible repeat (first | refine bN ?_ _ | refine bD ?_ | refine bA ?_ _)); exact BK229.out)) : gb287 ≠ gb229)); have n19_ := am ((by rw [hg]; exact Nat.ne_of_lt (blk_lt (g := gb230) (o := .cells #[.int .i64 3, .string (⟨#[]⟩ : ByteArray), .int .i64 0] 44 (0, 0)) (by (with_reducible repeat (first | refine bN ?_ _ | refine bD ?_ | refine bA ?_ _)); exact BK230.out)) : gb230 ≠ gb287)); have n20_ := am ((by rw [hg]; exact Nat.ne_of_gt (blk_lt (g := gb230) (o := .cells #[.int .i64 3, .string (⟨#[]⟩ : ByteArray), .int .i64 0] 44 (0, 0)) (by (with_reducible repeat (first | refine bN ?_ _ | refine bD ?_ | refine bA ?_ _)); exact BK230.out)) : gb287 ≠ gb230)); have n21_ := am ((by rw [hg]; exact Nat.ne_of_lt (blk_lt (g := gb257) (o := .cells #[.int .i64 t255, .int .i64 t256] 26 (0, 0)) (by (with_reducible repeat (first | refine bN ?_ _ | refine bD ?_ | refine bA ?_ _)); exact BK257.out)) : gb257 ≠ gb287)); have n22_ := am ((by rw [hg]; exact Nat.ne_of_gt (blk_lt (g := gb257) (o := .cells #[.int .i64 t255, .int .i64 t256] 26 (0, 0)) (by (with_reducible repeat (first | refine bN ?_ _ | refine bD ?_ | refine bA ?_ _)); exact BK257.out)) : gb287 ≠ gb257)); have n23_ := am ((by rw [hg]; exact Nat.ne_of_lt (blk_lt (g := gb266) (o := .cells #[.int .i64 t264, .int .i64 t265] 26 (0, 0)) (by (with_reducible repeat (first | refine bN ?_ _ | refine bD ?_ | refine bA ?_ _)); exact BK266.out)) : gb266 ≠ gb287)); have n24_ := am ((by rw [hg]; exact Nat.ne_of_gt (blk_lt (g := gb266) (o := .cells #[.int .i64 t264, .int .i64 t265] 26 (0, 0)) (by (with_reducible repeat (first | refine bN ?_ _ | refine bD ?_ | refine bA ?_ _)); exact BK266.out)) : gb287 ≠ gb266)); have n25_ := am ((by rw [hg]; exact Nat.ne_of_lt (blk_lt (g := gb278) (o := .cells #[.int .i64 t276, .int .i64 t277] 26 (0, 0)) (by (with_reducible repeat (first | refine bN ?_ _ | refine bD ?_ | refine bA ?_ _)); exact BK278.out)) : gb278 ≠ gb287)); have n26_ := am ((by rw [hg]; exact Nat.ne_of_gt (blk_lt (g := gb278) (o := .cells #[.int .i64 t276, .int .i64 t277] 26 (0, 0)) (by (with_reducible repeat (first | refine bN ?_ _ | refine bD ?_ | refine bA ?_ _)); exact BK278.out)) : gb287 ≠ gb278)); clear HO251; clear HO254; clear HO260; clear HO263; clear HO272; clear HO275; clear HO281; clear HO284; clear BK229; clear BK230; clear BK257; clear BK266; clear BK278; clear HB; have HO251 := n0_; have HO254 := n1_; have HO260 := n2_; have HO263 := n3_; have HO272 := n4_; have HO275 := n5_; have HO281 := n6_; have HO284 := n7_; have BK229 := n8_; have BK230 := n9_; have BK257 := n10_; have BK266 := n11_; have BK278 := n12_; have HB := n13_; have BK287 := n14_; have GW287 := n15_; have GE287 := n16_; have NB229_287 := n17_; have NB287_229 := n18_; have NB230_287 := n19_; have NB287_230 := n20_; have NB257_287 := n21_; have NB287_257 := n22_; have NB266_287 := n23_; have NB287_266 := n24_; have NB278_287 := n25_; have NB287_278 := n26_; clear n0_ n1_ n2_ n3_ n4_ n5_ n6_ n7_ n8_ n9_ n10_ n11_ n12_ n13_ n14_ n15_ n16_ n17_ n18_ n19_ n20_ n21_ n22_ n23_ n24_ n25_ n26_; clear hb hbox hg; have hnb71 := NB287_229.out; have hnc71 := NB229_287.out; have hnb72 := NB287_230.out; have hnc72 := NB230_287.out; have hnb73 := NB287_257.out; have hnc73 := NB257_287.out; have hnb74 := NB287_266.out; have hnc74 := NB266_287.out; have hnb75 := NB287_278.out; have hnc75 := NB278_287.out; have hcz76_0 : w70.cell? ⟨gb287, 0, none⟩ = some (.int .i64 0) := (bC BK287.out 0).trans rfl; have hcz76_1 : w70.cell? ⟨gb287, 1, none⟩ = some (.int .i64 0) := (bC BK287.out 1).trans rfl; have hfz76_0 := bF BK287.out 0; have hfz76_1 := bF BK287.out 1) | ((with_reducible refine gate_store (t := 26) (p := 10) rfl ?_); refine store_event (t := 26) (p := 10) (v := ?vo_w77) (w1 := ((w70.setCell ⟨gb287, 0, none⟩ (.int .i64 t285)).setCell ⟨gb287, 1, none⟩ (.int .i64 t286))) ?hg ?ho ?hn ?hr ?_; (case ho => rfl); (case hg => rfl); (case hn => rfl); (case hr => first | (go_simp; done) | (go_simp; rfl)); intro w77 hw; have n0_ : Aside0 (Kd.R k44 44 w77 w.heap.size (fun k_ => some k_ ≠ (.slice Ao48 y258.length co48 : Value).ownBlock ∧ some k_ ≠ (.slice Ao58 y270.length co58 : Value).ownBlock ∧ some k_ ≠ (.slice Ao68 y279.length co68 : Value).ownBlock ∧ k_ ≠ gb229 ∧ k_ ≠ gb230) v250 y249) := ⟨(by rw [hw]; exact (by (with_reducible repeat (first | apply rA | apply rN | apply rD)); exact Kd.R_mono (Kd.R_far (p := ⟨gb287, 1, none⟩) (Kd.R_far (p := ⟨gb287, 0, none⟩) (Kd.R_types HO251.out BK287.out (by decide)) (fun _ hk => hk.2) (.int .i64 t285)) (fun _ hk => hk.2) (.int .i64 t286)) (fun _ hk => ⟨hk.1.1.1.2, ⟨hk.1.1.2, ⟨hk.1.2, ⟨hk.1.1.1.1.1, hk.1.1.1.1.2⟩⟩⟩⟩)))⟩; have n1_ : Aside0 (Kd.R k38 38 w77 w.heap.size (fun k_ => some k_ ≠ (v262 : Value).ownBlock ∧ some k_ ≠ (v274 : Value).ownBlock ∧ some k_ ≠ (v283 : Value).ownBlock) v253 t252) := ⟨(by rw [hw]; exact (by (with_reducible repeat (first | apply rA | apply rN | apply rD)); exact Kd.R_mono (Kd.R_far (p := ⟨gb287, 1, none⟩) (Kd.R_far (p := ⟨gb287, 0, none⟩) (Kd.R_types HO254.out BK287.out (by decide)) (fun _ hk => hk.2) (.int .i64 t285)) (fun _ hk => hk.2) (.int .i64 t286)) (fun _ hk => ⟨hk.1.1.1.2, ⟨hk.1.1.2, hk.1.2⟩⟩)))⟩; have n2_ : Aside0 (Kd.R k44 44 w77 w.heap.size (fun k_ => some k_ ≠ (v250 : Value).ownBlock ∧ some k_ ≠ (.slice Ao58 y270.length co58 : Value).ownBlock ∧ some k_ ≠ (.slice Ao68 y279.length co68 : Value).ownBlock ∧ k_ ≠ gb229 ∧ k_ ≠ gb230) (.slice Ao48 y258.length co48) y258) := ⟨(by rw [hw]; exact (by (with_reducible repeat (first | apply rA | apply rN | apply rD)); exact Kd.R_mono (Kd.R_far (p := ⟨gb287, 1, none⟩) (Kd.R_far (p := ⟨gb287, 0, none⟩) (Kd.R_types HO260.out BK287.out (by decide)) (fun _ hk => hk.2) (.int .i64 t285)) (fun _ hk => hk.2) (.int .i64 t286)) (fun _ hk => ⟨hk.1.1.1.1.1.2, ⟨hk.1.1.2, ⟨hk.1.2, ⟨hk.1.1.1.1.2, hk.1.1.1.2⟩⟩⟩⟩)))⟩; have n3_ : Aside0 (Kd.R k38 38 w77 w.heap.size (fun k_ => some k_ ≠ (v253 : Value).ownBlock ∧ some k_ ≠ (v274 : Value).ownBlock ∧ some k_ ≠ (v283 : Value).ownBlock) v262 t261) := ⟨(by rw [hw]; exact (by (with_reducible repeat (first | apply rA | apply rN | apply rD)); exact Kd.R_mono (Kd.R_far (p := ⟨gb287, 1, none⟩) (Kd.R_far (p := ⟨gb287, 0, none⟩) (Kd.R_types HO263.out BK287.out (by decide)) (fun _ hk => hk.2) (.int .i64 t285)) (fun _ hk => hk.2) (.int .i64 t286)) (fun _ hk => ⟨hk.1.1.1.2, ⟨hk.1.1.2, hk.1.2⟩⟩)))⟩; have n4_ : Aside0 (Kd.R k44 44 w77 w.heap.size (fun k_ => some k_ ≠ (v250 : Value).ownBlock ∧ some k_ ≠ (.slice Ao48 y258.length co48 : Value).ownBlock ∧ some k_ ≠ (.slice Ao68 y279.length co68 : Value).ownBlock ∧ k_ ≠ gb229 ∧ k_ ≠ gb230) (.slice Ao58 y270.length co58) y270) := ⟨(by rw [hw]; exact (by (with_reducible repeat (first | apply rA | apply rN | apply rD)); exact Kd.R_mono (Kd.R_far (p := ⟨gb287, 1, none⟩) (Kd.R_far (p := ⟨gb287, 0, none⟩) (Kd.R_types HO272.out BK287.out (by decide)) (fun _ hk => hk.2) (.int .i64 t285)) (fun _ hk => hk.2) (.int .i64 t286)) (fun _ hk => ⟨hk.1.1.1.1.1.2, ⟨hk.1.1.1.1.2, ⟨hk.1.2, ⟨hk.1.1.1.2, hk.1.1.2⟩⟩⟩⟩)))⟩; have n5_ : Aside0 (Kd.R k38 38 w77 w.heap.size (fun k_ => some k_ ≠ (v253 : Value).ownBlock ∧ some k_ ≠ (v262 : Value).ownBlock ∧ some k_ ≠ (v283 : Value).ownBlock) v274 t273) := ⟨(by rw [hw]; exact (by (with_reducible repeat (first | apply rA | apply rN | apply rD)); exact Kd.R_mono (Kd.R_far (p := ⟨gb287, 1, none⟩) (Kd.R_far (p := ⟨gb287, 0, none⟩) (Kd.R_types HO275.out BK287.out (by decide)) (fun _ hk => hk.2) (.int .i64 t285)) (fun _ hk => hk.2) (.int .i64 t286)) (fun _ hk => ⟨hk.1.1.1.2, ⟨hk.1.1.2, hk.1.2⟩⟩)))⟩; have n6_ : Aside0 (Kd.R k44 44 w77 w.heap.size (fun k_ => some k_ ≠ (v250 : Value).ownBlock ∧ some k_ ≠ (.slice Ao48 y258.length co48 : Value).ownBlock ∧ some k_ ≠ (.slice Ao58 y270.length co58 : Value).ownBlock ∧ k_ ≠ gb229 ∧ k_ ≠ gb230) (.slice Ao68 y279.length co68) y279) := ⟨(by rw [hw]; exact (by (with_reducible repeat (first | apply rA | apply rN | apply rD)); exact Kd.R_mono (Kd.R_far (p := ⟨gb287, 1, none⟩) (Kd.R_far (p := ⟨gb287, 0, none⟩) (Kd.R_types HO281.out BK287.out (by decide)) (fun _ hk => hk.2) (.int .i64 t285)) (fun _ hk => hk.2) (.int .i64 t286)) (fun _ hk => ⟨hk.1.1.1.1.1.2, ⟨hk.1.1.1.1.2, ⟨hk.1.1.1.2, ⟨hk.1.1.2, hk.1.2⟩⟩⟩⟩)))⟩; have n7_ : Aside0 (Kd.R k38 38 w77 w.heap.size (fun k_ => some k_ ≠ (v253 : Value).ownBlock ∧ some k_ ≠ (v262 : Value).ownBlock ∧ some k_ ≠ (v274 : Value).ownBlock) v283 t282) := ⟨(by rw [hw]; exact (by (with_reducible repeat (first | apply rA | apply rN | apply rD)); exact Kd.R_mono (Kd.R_far (p := ⟨gb287, 1, none⟩) (Kd.R_far (p := ⟨gb287, 0, none⟩) (Kd.R_types HO284.out BK287.out (by decide)) (fun _ hk => hk.2) (.int .i64 t285)) (fun _ hk => hk.2) (.int .i64 t286)) (fun _ hk => ⟨hk.1.1.1.2, ⟨hk.1.1.2, hk.1.2⟩⟩)))⟩; have n8_ : Aside0 (w77.heap[gb229]? = some (.cells #[.int .i64 2, .string (⟨#[]⟩ : ByteArray), .int .i64 0] 44 (0, 0))) := ⟨(by rw [hw]; exact (by (with_reducible repeat (first | refine bN ?_ _ | refine bD ?_ | refine bA ?_ _)); refine bR ?_ NB229_287.out _; (with_reducible repeat (first | refine bN ?_ _ | refine bD ?_ | refine bA ?_ _)); refine bR ?_ NB229_287.out _; (with_reducible repeat (first | refine bN ?_ _ | refine bD ?_ | refine bA ?_ _)); exact BK229.out))⟩; have n9_ : Aside0 (w77.heap[gb230]? = some (.cells #[.int .i64 3, .string (⟨#[]⟩ : ByteArray), .int .i64 0] 44 (0, 0))) := ⟨(by rw [hw]; exact (by (with_reducible repeat (first | refine bN ?_ _ | refine bD ?_ | refine bA ?_ _)); refine bR ?_ NB230_287.out _; (with_reducible repeat (first | refine bN ?_ _ | refine bD ?_ | refine bA ?_ _)); refine bR ?_ NB230_287.out _; (with_reducible repeat (first | refine bN ?_ _ | refine bD ?_ | refine bA ?_ _)); exact BK230.out))⟩; have n10_ : Aside0 (w77.heap[gb257]? = some (.cells #[.int .i64 t255, .int .i64 t256] 26 (0, 0))) := ⟨(by rw [hw]; exact (by (with_reducible repeat (first | refine bN ?_ _ | refine bD ?_ | refine bA ?_ _)); refine bR ?_ NB257_287.out _; (with_reducible repeat (first | refine bN ?_ _ | refine bD ?_ | refine bA ?_ _)); refine bR ?_ NB257_287.out _; (with_reducible repeat (first | refine bN ?_ _ | refine bD ?_ | refine bA ?_ _)); exact BK257.out))⟩; have n11_ : Aside0 (w77.heap[gb266]? = some (.cells #[.int .i64 t264, .int .i64 t265] 26 (0, 0))) := ⟨(by rw [hw]; exact (by (with_reducible repeat (first | refine bN ?_ _ | refine bD ?_ | refine bA ?_ _)); refine bR ?_ NB266_287.out _; (with_reducible repeat (first | refine bN ?_ _ | refine bD ?_ | refine bA ?_ _)); refine bR ?_ NB266_287.out _; (with_reducible repeat (first | refine bN ?_ _ | refine bD ?_ | refine bA ?_ _)); exact BK266.out))⟩; have n12_ : Aside0 (w77.heap[gb278]? = some (.cells #[.int .i64 t276, .int .i64 t277] 26 (0, 0))) := ⟨(by rw [hw]; exact (by (with_reducible repeat (first | refine bN ?_ _ | refine bD ?_ | refine bA ?_ _)); refine bR ?_ NB278_287.out _; (with_reducible repeat (first | refine bN ?_ _ | refine bD ?_ | refine bA ?_ _)); refine bR ?_ NB278_287.out _; (with_reducible repeat (first | refine bN ?_ _ | refine bD ?_ | refine bA ?_ _)); exact BK278.out))⟩; have n13_ : Aside0 (w77.heap[gb287]? = some (.cells #[.int .i64 t285, .int .i64 t286] 26 (0, 0))) := ⟨(by rw [hw]; exact (by (with_reducible repeat (first | refine bN ?_ _ | refine bD ?_ | refine bA ?_ _)); refine bP (cs := #[.int .i64 t285, .int .i64 0]) ?_ 1 _ rfl; (with_reducible repeat (first | refine bN ?_ _ | refine bD ?_ | refine bA ?_ _)); refine bP (cs := #[.int .i64 0, .int .i64 0]) ?_ 0 _ rfl; (with_reducible repeat (first | refine bN ?_ _ | refine bD ?_ | refine bA ?_ _)); exact BK287.out))⟩; have n14_ : Aside0 (Below w.heap.size w w77) := ⟨(by rw [hw]; exact (by repeat (with_reducible first | exact HB.out | apply lA | apply lN | apply lD | refine lS ?_ GE229.out | refine lS ?_ GE230.out | refine lS ?_ GE257.out | refine lS ?_ GE266.out | refine lS ?_ GE278.out | refine lS ?_ GE287.out)))⟩; clear hw; clear HO251; clear HO254; clear HO260; clear HO263; clear HO272; clear HO275; clear HO281; clear HO284; clear BK229; clear BK230; clear BK257; clear BK266; clear BK278; clear BK287; clear HB; have HO251 := n0_; have HO254 := n1_; have HO260 := n2_; have HO263 := n3_; have HO272 := n4_; have HO275 := n5_; have HO281 := n6_; have HO284 := n7_; have BK229 := n8_; have BK230 := n9_; have BK257 := n10_; have BK266 := n11_; have BK278 := n12_; have BK287 := n13_; have HB := n14_; clear n0_ n1_ n2_ n3_ n4_ n5_ n6_ n7_ n8_ n9_ n10_ n11_ n12_ n13_ n14_; have hnb78 := NB257_229.out; have hnc78 := NB229_257.out; have hnb79 := NB257_230.out; have hnc79 := NB230_257.out; have hcz80_0 : w77.cell? ⟨gb257, 0, none⟩ = some (.int .i64 t255) := (bC BK257.out 0).trans rfl; have hcz80_1 : w77.cell? ⟨gb257, 1, none⟩ = some (.int .i64 t256) := (bC BK257.out 1).trans rfl; have hfz80_0 := bF BK257.out 0; have hfz80_1 := bF BK257.out 1; obtain ⟨Ao81, co81, eo81⟩ := Kd.R_slice HO254.out; subst eo81; have p288 : 0 ≤ (0 : Int) := (by omega); have q288 : 0 < (t252.length : Int) := of_decide_eq_true (by first | (with_reducible assumption) | assumption); obtain ⟨ad288, A288_2, c288_2, e288, hx288_0, hx288_1, hx288_2, hx288_3, hl288_2, hi288_2⟩ := at_T38 (Kd.R_reads' HO254.out).2.2 0 p288 q288; cases e288; obtain ⟨ce288, hce288, hMe288, hcc288⟩ := Kd.R_get HO254.out z38 0 p288 (by first | exact q288 | exact of_decide_eq_true (by first | (with_reducible assumption) | assumption) | (have e_ := (Kd.R_reads' HO254.out).1; omega)); obtain ⟨ve288_2, rfl, ge288_2⟩ := k38_openM hMe288; have hv288_2 := hcc288 2 _ rfl; rw [add_field _ _ 2 (by omega)] at hv288_2; replace hv288_2 := Option.some.inj (hv288_2.symm.trans hx288_2); rw [hv288_2] at ge288_2; have HL288_2 := am (show Kd.R (Kd.slice 38 k38) 23 _ _ _ _ ((rd_T38 t252 0).f2) from ge288_2); clear hv288_2 ge288_2; clear hcc288 hce288; have qi288 : (0 < t252.length) = True := eq_true (by omega); (try rw [show ((0 : Int)).toNat = 0 from rfl] at hx288_0); (try rw [show 0 * 4 = 0 from rfl] at hx288_0); (try rw [Addr.add_zero'] at hx288_0); (try rw [show ((0 : Int)).toNat = 0 from rfl] at hx288_1); (try rw [show 0 * 4 = 0 from rfl] at hx288_1); (try rw [Addr.add_zero'] at hx288_1); (try rw [show ((0 : Int)).toNat = 0 from rfl] at hx288_2); (try rw [show 0 * 4 = 0 from rfl] at hx288_2); (try rw [Addr.add_zero'] at hx288_2); (try rw [show ((0 : Int)).toNat = 0 from rfl] at hx288_3); (try rw [show 0 * 4 = 0 from rfl] at hx288_3); (try rw [Addr.add_zero'] at hx288_3); have HR288_2 := am hi288_2; have HC288_2 := am hl288_2; clear hi288_2 hl288_2; replace p288 := eq_true p288; replace q288 := eq_true q288; have p289 : 0 ≤ (1 : Int) := (by omega); have q289 : 1 < (t252.length : Int) := of_decide_eq_true (by first | (with_reducible assumption) | assumption); obtain ⟨ad289, A289_2, c289_2, e289, hx289_0, hx289_1, hx289_2, hx289_3, hl289_2, hi289_2⟩ := at_T38 (Kd.R_reads' HO254.out).2.2 1 p289 q289; obtain rfl : ad288 = ad289 := (by injection e289); obtain ⟨ce289, hce289, hMe289, hcc289⟩ := Kd.R_get HO254.out z38 1 p289 (by first | exact q289 | exact of_decide_eq_true (by first | (with_reducible assumption) | assumption) | (have e_ := (Kd.R_reads' HO254.out).1; omega)); obtain ⟨ve289_2, rfl, ge289_2⟩ := k38_openM hMe289; have hv289_2 := hcc289 2 _ rfl; rw [add_field _ _ 2 (by omega)] at hv289_2; replace hv289_2 := Option.some.inj (hv289_2.symm.trans hx289_2); rw [hv289_2] at ge289_2; have HL289_2 := am (show Kd.R (Kd.slice 38 k38) 23 _ _ _ _ ((rd_T38 t252 1).f2) from ge289_2); clear hv289_2 ge289_2; clear hcc289 hce289; (try simp only [show (1 : Int).toNat = 1 from rfl, Nat.reduceMul, Nat.reduceEqDiff, Go.Addr.add, ↓reduceIte] at hx289_0); (try simp only [show (1 : Int).toNat = 1 from rfl, Nat.reduceMul, Nat.reduceEqDiff, Go.Addr.add, ↓reduceIte] at hx289_1); (try simp only [show (1 : Int).toNat = 1 from rfl, Nat.reduceMul, Nat.reduceEqDiff, Go.Addr.add, ↓reduceIte] at hx289_2); (try simp only [show (1 : Int).toNat = 1 from rfl, Nat.reduceMul, Nat.reduceEqDiff, Go.Addr.add, ↓reduceIte] at hx289_3); have qi289 : (1 < t252.length) = True := eq_true (by omega); (try rw [show ((1 : Int)).toNat = 1 from rfl] at hx289_0); (try rw [show 1 * 4 = 4 from rfl] at hx289_0); (try rw [show ((1 : Int)).toNat = 1 from rfl] at hx289_1); (try rw [show 1 * 4 = 4 from rfl] at hx289_1); (try rw [show ((1 : Int)).toNat = 1 from rfl] at hx289_2); (try rw [show 1 * 4 = 4 from rfl] at hx289_2); (try rw [show ((1 : Int)).toNat = 1 from rfl] at hx289_3); (try rw [show 1 * 4 = 4 from rfl] at hx289_3); have HR289_2 := am hi289_2; have HC289_2 := am hl289_2; clear hi289_2 hl289_2; replace p289 := eq_true p289; replace q289 := eq_true q289; have hcz82_0 : w77.cell? ⟨gb266, 0, none⟩ = some (.int .i64 t264) := (bC BK266.out 0).trans rfl; have hcz82_1 : w77.cell? ⟨gb266, 1, none⟩ = some (.int .i64 t265) := (bC BK266.out 1).trans rfl; have hfz82_0 := bF BK266.out 0; have hfz82_1 := bF BK266.out 1; have hcz83_0 : w77.cell? ⟨gb278, 0, none⟩ = some (.int .i64 t276) := (bC BK278.out 0).trans rfl; have hcz83_1 : w77.cell? ⟨gb278, 1, none⟩ = some (.int .i64 t277) := (bC BK278.out 1).trans rfl; have hfz83_0 := bF BK278.out 0; have hfz83_1 := bF BK278.out 1; have hcz84_0 : w77.cell? ⟨gb287, 0, none⟩ = some (.int .i64 t285) := (bC BK287.out 0).trans rfl; have hcz84_1 : w77.cell? ⟨gb287, 1, none⟩ = some (.int .i64 t286) := (bC BK287.out 1).trans rfl; have hfz84_0 := bF BK287.out 0; have hfz84_1 := bF BK287.out 1) | (go_at_call 13; (with_reducible refine (tree_Depth.calls k _ _ t252 t290 _ ?side1 ?side2 A21.out).mono ?_); (case side1 => repeat (first | exact (Kd.R_reads' HO254.out).2.2 | (with_reducible refine Kd.C_alloc ?_ _) | (with_reducible refine Kd.C_drewN ?_ _) | (with_reducible refine Kd.C_drew ?_))); (case side2 => exact (Kd.R_reads' HO254.out).2.1); rintro e w85 ⟨rfl, hb⟩; have n0_ := am (Kd.R_below (by (with_reducible repeat (first | apply rA | apply rN | apply rD)); exact HO251.out) hb); have n1_ := am (Kd.R_below (by (with_reducible repeat (first | apply rA | apply rN | apply rD)); exact HO254.out) hb); have n2_ := am (Kd.R_below (by (with_reducible repeat (first | apply rA | apply rN | apply rD)); exact HO260.out) hb); have n3_ := am (Kd.R_below (by (with_reducible repeat (first | apply rA | apply rN | apply rD)); exact HO263.out) hb); have n4_ := am (Kd.R_below (by (with_reducible repeat (first | apply rA | apply rN | apply rD)); exact HO272.out) hb); have n5_ := am (Kd.R_below (by (with_reducible repeat (first | apply rA | apply rN | apply rD)); exact HO275.out) hb); have n6_ := am (Kd.R_below (by (with_reducible repeat (first | apply rA | apply rN | apply rD)); exact HO281.out) hb); have n7_ := am (Kd.R_below (by (with_reducible repeat (first | apply rA | apply rN | apply rD)); exact HO284.out) hb); have n8_ := am (Kd.R_below (by (with_reducible repeat (first | apply rA | apply rN | apply rD)); exact HL288_2.out) hb); have n9_ := am (Kd.R_below (by (with_reducible repeat (first | apply rA | apply rN | apply rD)); exact HL289_2.out) hb); have n10_ := am (bB (g := gb229) (o := .cells #[.int .i64 2, .string (⟨#[]⟩ : ByteArray), .int .i64 0] 44 (0, 0)) (by (with_reducible repeat (first | refine bN ?_ _ | refine bD ?_ | refine bA ?_ _)); exact BK229.out) hb); have n11_ := am (bB (g := gb230) (o := .cells #[.int .i64 3, .string (⟨#[]⟩ : ByteArray), .int .i64 0] 44 (0, 0)) (by (with_reducible repeat (first | refine bN ?_ _ | refine bD ?_ | refine bA ?_ _)); exact BK230.out) hb); have n12_ := am (bB (g := gb257) (o := .cells #[.int .i64 t255, .int .i64 t256] 26 (0, 0)) (by (with_reducible repeat (first | refine bN ?_ _ | refine bD ?_ | refine bA ?_ _)); exact BK257.out) hb); have n13_ := am (bB (g := gb266) (o := .cells #[.int .i64 t264, .int .i64 t265] 26 (0, 0)) (by (with_reducible repeat (first | refine bN ?_ _ | refine bD ?_ | refine bA ?_ _)); exact BK266.out) hb); have n14_ := am (bB (g := gb278) (o := .cells #[.int .i64 t276, .int .i64 t277] 26 (0, 0)) (by (with_reducible repeat (first | refine bN ?_ _ | refine bD ?_ | refine bA ?_ _)); exact BK278.out) hb); have n15_ := am (bB (g := gb287) (o := .cells #[.int .i64 t285, .int .i64 t286] 26 (0, 0)) (by (with_reducible repeat (first | refine bN ?_ _ | refine bD ?_ | refine bA ?_ _)); exact BK287.out) hb); have n16_ := am (Kd.C_below (by repeat (first | (with_reducible exact HR288_2.out) | (with_reducible refine Kd.C_alloc ?_ _) | (with_reducible refine Kd.C_drewN ?_ _) | (with_reducible refine Kd.C_drew ?_) | exact HR288_2.out)) hb); have n17_ := am (Kd.C_below (by repeat (first | (with_reducible exact HR289_2.out) | (with_reducible refine Kd.C_alloc ?_ _) | (with_reducible refine Kd.C_drewN ?_ _) | (with_reducible refine Kd.C_drew ?_) | exact HR289_2.out)) hb); have n18_ := am (below_step (by repeat (with_reducible first | exact HB.out | apply lA | apply lN | apply lD | refine lS ?_ GE229.out | refine lS ?_ GE230.out | refine lS ?_ GE257.out | refine lS ?_ GE266.out | refine lS ?_ GE278.out | refine lS ?_ GE287.out)) hb); clear HO251; clear HO254; clear HO260; clear HO263; clear HO272; clear HO275; clear HO281; clear HO284; clear HL288_2; clear HL289_2; clear BK229; clear BK230; clear BK257; clear BK266; clear BK278; clear BK287; clear HR288_2; clear HR289_2; clear HB; have HO251 := n0_; have HO254 := n1_; have HO260 := n2_; have HO263 := n3_; have HO272 := n4_; have HO275 := n5_; have HO281 := n6_; have HO284 := n7_; have HL288_2 := n8_; have HL289_2 := n9_; have BK229 := n10_; have BK230 := n11_; have BK257 := n12_; have BK266 := n13_; have BK278 := n14_; have BK287 := n15_; have HR288_2 := n16_; have HR289_2 := n17_; have HB := n18_; clear n0_ n1_ n2_ n3_ n4_ n5_ n6_ n7_ n8_ n9_ n10_ n11_ n12_ n13_ n14_ n15_ n16_ n17_ n18_; (try clear hb); (try clear hb2); (try clear hk); (try clear hi)) | (go_at_call 12; (with_reducible refine (tree_Words.calls k _ _ t252 t291 _ ?side1 ?side2 A23.out).mono ?_); (case side1 => repeat (first | exact (Kd.R_reads' HO254.out).2.2 | (with_reducible refine Kd.C_alloc ?_ _) | (with_reducible refine Kd.C_drewN ?_ _) | (with_reducible refine Kd.C_drew ?_))); (case side2 => exact (Kd.R_reads' HO254.out).2.1); rintro e w86 ⟨v292, rfl, ho0, hb⟩; have n0_ := am (Kd.R_below (by (with_reducible repeat (first | apply rA | apply rN | apply rD)); exact HO251.out) hb); have n1_ := am (Kd.R_below (by (with_reducible repeat (first | apply rA | apply rN | apply rD)); exact HO254.out) hb); have n2_ := am (Kd.R_below (by (with_reducible repeat (first | apply rA | apply rN | apply rD)); exact HO260.out) hb); have n3_ := am (Kd.R_below (by (with_reducible repeat (first | apply rA | apply rN | apply rD)); exact HO263.out) hb); have n4_ := am (Kd.R_below (by (with_reducible repeat (first | apply rA | apply rN | apply rD)); exact HO272.out) hb); have n5_ := am (Kd.R_below (by (with_reducible repeat (first | apply rA | apply rN | apply rD)); exact HO275.out) hb); have n6_ := am (Kd.R_below (by (with_reducible repeat (first | apply rA | apply rN | apply rD)); exact HO281.out) hb); have n7_ := am (Kd.R_below (by (with_reducible repeat (first | apply rA | apply rN | apply rD)); exact HO284.out) hb); have n8_ := am (Kd.R_below (by (with_reducible repeat (first | apply rA | apply rN | apply rD)); exact HL288_2.out) hb); have n9_ := am (Kd.R_below (by (with_reducible repeat (first | apply rA | apply rN | apply rD)); exact HL289_2.out) hb); have n10_ := am (Kd.R_lower ho0 (below_size (by repeat (with_reducible first | exact HB.out | apply lA | apply lN | apply lD | refine lS ?_ GE229.out | refine lS ?_ GE230.out | refine lS ?_ GE257.out | refine lS ?_ GE266.out | refine lS ?_ GE278.out | refine lS ?_ GE287.out)))); have n11_ := am (bB (g := gb229) (o := .cells #[.int .i64 2, .string (⟨#[]⟩ : ByteArray), .int .i64 0] 44 (0, 0)) (by (with_reducible repeat (first | refine bN ?_ _ | refine bD ?_ | refine bA ?_ _)); exact BK229.out) hb); have n12_ := am (bB (g := gb230) (o := .cells #[.int .i64 3, .string (⟨#[]⟩ : ByteArray), .int .i64 0] 44 (0, 0)) (by (with_reducible repeat (first | refine bN ?_ _ | refine bD ?_ | refine bA ?_ _)); exact BK230.out) hb); have n13_ := am (bB (g := gb257) (o := .cells #[.int .i64 t255, .int .i64 t256] 26 (0, 0)) (by (with_reducible repeat (first | refine bN ?_ _ | refine bD ?_ | refine bA ?_ _)); exact BK257.out) hb); have n14_ := am (bB (g := gb266) (o := .cells #[.int .i64 t264, .int .i64 t265] 26 (0, 0)) (by (with_reducible repeat (first | refine bN ?_ _ | refine bD ?_ | refine bA ?_ _)); exact BK266.out) hb); have n15_ := am (bB (g := gb278) (o := .cells #[.int .i64 t276, .int .i64 t277] 26 (0, 0)) (by (with_reducible repeat (first | refine bN ?_ _ | refine bD ?_ | refine bA ?_ _)); exact BK278.out) hb); have n16_ := am (bB (g := gb287) (o := .cells #[.int .i64 t285, .int .i64 t286] 26 (0, 0)) (by (with_reducible repeat (first | refine bN ?_ _ | refine bD ?_ | refine bA ?_ _)); exact BK287.out) hb); have n17_ := am (Kd.C_below (by repeat (first | (with_reducible exact HR288_2.out) | (with_reducible refine Kd.C_alloc ?_ _) | (with_reducible refine Kd.C_drewN ?_ _) | (with_reducible refine Kd.C_drew ?_) | exact HR288_2.out)) hb); have n18_ := am (Kd.C_below (by repeat (first | (with_reducible exact HR289_2.out) | (with_reducible refine Kd.C_alloc ?_ _) | (with_reducible refine Kd.C_drewN ?_ _) | (with_reducible refine Kd.C_drew ?_) | exact HR289_2.out)) hb); have n19_ := am (below_step (by repeat (with_reducible first | exact HB.out | apply lA | apply lN | apply lD | refine lS ?_ GE229.out | refine lS ?_ GE230.out | refine lS ?_ GE257.out | refine lS ?_ GE266.out | refine lS ?_ GE278.out | refine lS ?_ GE287.out)) hb); clear HO251; clear HO254; clear HO260; clear HO263; clear HO272; clear HO275; clear HO281; clear HO284; clear HL288_2; clear HL289_2; clear BK229; clear BK230; clear BK257; clear BK266; clear BK278; clear BK287; clear HR288_2; clear HR289_2; clear HB; have HO251 := n0_; have HO254 := n1_; have HO260 := n2_; have HO263 := n3_; have HO272 := n4_; have HO275 := n5_; have HO281 := n6_; have HO284 := n7_; have HL288_2 := n8_; have HL289_2 := n9_; have HO293 := n10_; have BK229 := n11_; have BK230 := n12_; have BK257 := n13_; have BK266 := n14_; have BK278 := n15_; have BK287 := n16_; have HR288_2 := n17_; have HR289_2 := n18_; have HB := n19_; clear n0_ n1_ n2_ n3_ n4_ n5_ n6_ n7_ n8_ n9_ n10_ n11_ n12_ n13_ n14_ n15_ n16_ n17_ n18_ n19_; (try clear hb); (try clear hb2); (try clear hk); (try clear hi); (try clear ho0)) | ((with_reducible refine gate_dst (N := 95) rfl ?_); (try (refine gate_guard (by rfl) ?_; dsimp only)); refine Kd.R_lit Kd.string _ 9 ?hg (N := 95) ?hd (xs := ([(⟨#[97]⟩ : ByteArray), (⟨#[98]⟩ : ByteArray), (⟨#[99]⟩ : ByteArray), (⟨#[100]⟩ : ByteArray)] : List ByteArray)) (inner := [.string (⟨#[97]⟩ : ByteArray), .string (⟨#[98]⟩ : ByteArray), .string (⟨#[99]⟩ : ByteArray), .string (⟨#[100]⟩ : ByteArray)]) (ok := fun _ => True) (okp := fun _ => True) ?hr ?hp (fun _ hk => hk) trivial (Below.refl _ _) (Nat.le_refl _) (by simp) ?_; (case hd => rfl); (case hg => rfl); (case hr => first | (go_simp; done) | (go_simp; rfl)); (case hp => exact (Reps.one (show Kd.M Kd.string _ _ _ (⟨#[97]⟩ : ByteArray) [.string (⟨#[97]⟩ : ByteArray)] from rfl) (Reps.one (show Kd.M Kd.string _ _ _ (⟨#[98]⟩ : ByteArray) [.string (⟨#[98]⟩ : ByteArray)] from rfl) (Reps.one (show Kd.M Kd.string _ _ _ (⟨#[99]⟩ : ByteArray) [.string (⟨#[99]⟩ : ByteArray)] from rfl) (Reps.one (show Kd.M Kd.string _ _ _ (⟨#[100]⟩ : ByteArray) [.string (⟨#[100]⟩ : ByteArray)] from rfl) (Reps.none _ _)))))); intro v295 w87 ho88 hb hg_ hnew_; clear hg_ hnew_; (first | rw [← Ny294.out] at ho88 | (simp only [Int.reduceToNat] at ho88; rw [← Ny294.out] at ho88)); have n0_ := am (Kd.R_below (by (with_reducible repeat (first | apply rA | apply rN | apply rD)); exact HO251.out) hb); have n1_ := am (Kd.R_below (by (with_reducible repeat (first | apply rA | apply rN | apply rD)); exact HO254.out) hb); have n2_ := am (Kd.R_below (by (with_reducible repeat (first | apply rA | apply rN | apply rD)); exact HO260.out) hb); have n3_ := am (Kd.R_below (by (with_reducible repeat (first | apply rA | apply rN | apply rD)); exact HO263.out) hb); have n4_ := am (Kd.R_below (by (with_reducible repeat (first | apply rA | apply rN | apply rD)); exact HO272.out) hb); have n5_ := am (Kd.R_below (by (with_reducible repeat (first | apply rA | apply rN | apply rD)); exact HO275.out) hb); have n6_ := am (Kd.R_below (by (with_reducible repeat (first | apply rA | apply rN | apply rD)); exact HO281.out) hb); have n7_ := am (Kd.R_below (by (with_reducible repeat (first | apply rA | apply rN | apply rD)); exact HO284.out) hb); have n8_ := am (Kd.R_below (by (with_reducible repeat (first | apply rA | apply rN | apply rD)); exact HL288_2.out) hb); have n9_ := am (Kd.R_below (by (with_reducible repeat (first | apply rA | apply rN | apply rD)); exact HL289_2.out) hb); have n10_ := am (Kd.R_elder' (by (with_reducible repeat (first | apply rA | apply rN | apply rD)); exact HO293.out) (Kd.R_base ho88) hb); have n11_ := am (Kd.R_lower (Kd.R_new' ho88 (Kd.R_lt (by (with_reducible repeat (first | apply rA | apply rN | apply rD)); exact HO293.out))) (below_size (by repeat (with_reducible first | exact HB.out | apply lA | apply lN | apply lD | refine lS ?_ GE229.out | refine lS ?_ GE230.out | refine lS ?_ GE257.out | refine lS ?_ GE266.out | refine lS ?_ GE278.out | refine lS ?_ GE287.out)))); have n12_ := am (bB (g := gb229) (o := .cells #[.int .i64 2, .string (⟨#[]⟩ : ByteArray), .int .i64 0] 44 (0, 0)) (by (with_reducible repeat (first | refine bN ?_ _ | refine bD ?_ | refine bA ?_ _)); exact BK229.out) hb); have n13_ := am (bB (g := gb230) (o := .cells #[.int .i64 3, .string (⟨#[]⟩ : ByteArray), .int .i64 0] 44 (0, 0)) (by (with_reducible repeat (first | refine bN ?_ _ | refine bD ?_ | refine bA ?_ _)); exact BK230.out) hb); have n14_ := am (bB (g := gb257) (o := .cells #[.int .i64 t255, .int .i64 t256] 26 (0, 0)) (by (with_reducible repeat (first | refine bN ?_ _ | refine bD ?_ | refine bA ?_ _)); exact BK257.out) hb); have n15_ := am (bB (g := gb266) (o := .cells #[.int .i64 t264, .int .i64 t265] 26 (0, 0)) (by (with_reducible repeat (first | refine bN ?_ _ | refine bD ?_ | refine bA ?_ _)); exact BK266.out) hb); have n16_ := am (bB (g := gb278) (o := .cells #[.int .i64 t276, .int .i64 t277] 26 (0, 0)) (by (with_reducible repeat (first | refine bN ?_ _ | refine bD ?_ | refine bA ?_ _)); exact BK278.out) hb); have n17_ := am (bB (g := gb287) (o := .cells #[.int .i64 t285, .int .i64 t286] 26 (0, 0)) (by (with_reducible repeat (first | refine bN ?_ _ | refine bD ?_ | refine bA ?_ _)); exact BK287.out) hb); have n18_ := am (Kd.C_below (by repeat (first | (with_reducible exact HR288_2.out) | (with_reducible refine Kd.C_alloc ?_ _) | (with_reducible refine Kd.C_drewN ?_ _) | (with_reducible refine Kd.C_drew ?_) | exact HR288_2.out)) hb); have n19_ := am (Kd.C_below (by repeat (first | (with_reducible exact HR289_2.out) | (with_reducible refine Kd.C_alloc ?_ _) | (with_reducible refine Kd.C_drewN ?_ _) | (with_reducible refine Kd.C_drew ?_) | exact HR289_2.out)) hb); have n20_ := am (below_step (by repeat (with_reducible first | exact HB.out | apply lA | apply lN | apply lD | refine lS ?_ GE229.out | refine lS ?_ GE230.out | refine lS ?_ GE257.out | refine lS ?_ GE266.out | refine lS ?_ GE278.out | refine lS ?_ GE287.out)) hb); clear HO251; clear HO254; clear HO260; clear HO263; clear HO272; clear HO275; clear HO281; clear HO284; clear HL288_2; clear HL289_2; clear HO293; clear BK229; clear BK230; clear BK257; clear BK266; clear BK278; clear BK287; clear HR288_2; clear HR289_2; clear HB; have HO251 := n0_; have HO254 := n1_; have HO260 := n2_; have HO263 := n3_; have HO272 := n4_; have HO275 := n5_; have HO281 := n6_; have HO284 := n7_; have HL288_2 := n8_; have HL289_2 := n9_; have HO293 := n10_; have HO296 := n11_; have BK229 := n12_; have BK230 := n13_; have BK257 := n14_; have BK266 := n15_; have BK278 := n16_; have BK287 := n17_; have HR288_2 := n18_; have HR289_2 := n19_; have HB := n20_; clear n0_ n1_ n2_ n3_ n4_ n5_ n6_ n7_ n8_ n9_ n10_ n11_ n12_ n13_ n14_ n15_ n16_ n17_ n18_ n19_ n20_; clear hb ho88; obtain ⟨Ao89, co89, eo89⟩ := Kd.R_slice HO293.out; subst eo89; obtain ⟨Ao90, co90, eo90⟩ := Kd.R_slice HO296.out; subst eo90) | (go_at_call 14; (with_reducible refine (variorumref06_Texts.calls k _ _ t291 _ _ y294 t297 _ ?side1 ?side2 ?side3 ?side4 A24.out).mono ?_); (case side1 => repeat (first | exact (Kd.R_reads' HO293.out).2.2 | (with_reducible refine Kd.C_alloc ?_ _) | (with_reducible refine Kd.C_drewN ?_ _) | (with_reducible refine Kd.C_drew ?_))); (case side2 => exact (Kd.R_reads' HO293.out).2.1); (case side3 => repeat (first | exact (Kd.R_reads' HO296.out).2.2 | (with_reducible refine Kd.C_alloc ?_ _) | (with_reducible refine Kd.C_drewN ?_ _) | (with_reducible refine Kd.C_drew ?_))); (case side4 => exact (Kd.R_reads' HO296.out).2.1); rintro e w' ⟨rfl, ⟨nd, rfl⟩⟩))
           go_ret
           exact ⟨by first | rfl | (simp [errW_none, errW_some] <;> rfl) | (simp [*, errW_none, errW_some] <;> rfl), by repeat (with_reducible first | exact HB.out | apply lA | apply lN | apply lD | refine lS ?_ GE229.out | refine lS ?_ GE230.out | refine lS ?_ GE257.out | refine lS ?_ GE266.out | refine lS ?_ GE278.out | refine lS ?_ GE287.out)⟩
          ·rw [if_neg c22] at H
           exact absurd H (by simp)
         ·rw [if_neg c20] at H
          exact absurd H (by simp)
        ·rw [if_neg c19] at H
         exact absurd H (by simp)
       ·rw [if_neg c18] at H
        exact absurd H (by simp)
      ·rw [if_neg c17] at H
       exact absurd H (by simp)
     ·rw [if_neg c16] at H
      exact absurd H (by simp)
    ·rw [if_neg c15] at H
     exact absurd H (by simp)
   ·rw [if_neg c14] at H
    exact absurd H (by simp)
  ·rw [if_neg c13] at H
   exact absurd H (by simp)
 ·rw [if_neg c12] at H
  exact absurd H (by simp)
end Go.Proofs.Ytmpglkeoppbpgaa.PTree
