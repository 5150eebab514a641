/- A part of the row's proof. -/
import Derived.Test.YtmpglkeoppbpgaaATreeSpecF
import Derived.Test.YtmpglkeoppbpgaaAPTreex12
namespace Go.Proofs.Ytmpglkeoppbpgaa.PTree
open Go.RowKit Go.Proofs.YtmpglkeoppbpgaaW.PrintWords Go.Proofs.YtmpglkeoppbpgaaW.PrintLast Go.Proofs.YtmpglkeoppbpgaaW.PrintMore
set_option linter.unusedVariables false
set_option linter.unusedSimpArgs false
theorem parse_ev (l : List S44) (hl : l.length ≤ 8388608) : ∃ ns c a, Ev (fun k => tree_Parse.f k l) (if c = 0 then (ns, 0, 0) else ([], c, a)) ∧ scan [] false (rl l 0) = (c, a) ∧ (c = 0 → a = 0 ∧ Rn ns (rl l 0) ∧ Lv 64 ns) := by
 have hr := rl_len l 0
 obtain ⟨ns, q, code, a, hE, hq, hle, h0, hs⟩ := (parser_ends l hl _).1 0 0 [] (by omega) (by omega) (Nat.le_refl _) (by simp; omega)
 rw [List.nil_append] at hE
 have hN : Ev (fun k => tree_parser_nodes.f k l 0 0 0 0) (ns, ((q : Nat) : Int), code, a) :=
  Ev.step (f := NL 0 [] l 0 0 0) (fun k => by simp only [tree_parser_nodes.f, NL]; rfl) hE
 have hs0 := hs [] rfl
 refine ⟨ns, code, a, ?_, ?_, ?_⟩
 ·refine Ev.congr (f := fun k => (tree_parser_nodes.f k l 0 0 0 0).bind fun b => if b.2.2.1 = 0 then some (b.1, 0, 0) else some ([], b.2.2.1, b.2.2.2)) (fun k => rfl) (Ev.bind hN ?_)
  by_cases hc : code = 0
  ·rw [show (if code = 0 then (ns, (0 : Int), (0 : Int)) else ([], code, a)) = (ns, 0, 0) from if_pos hc]
   exact Ev.congr (f := fun _ => some (ns, 0, 0)) (fun k => by simp [hc]) (Ev.now _)
  ·rw [show (if code = 0 then (ns, (0 : Int), (0 : Int)) else ([], code, a)) = ([], code, a) from if_neg hc]
   exact Ev.congr (f := fun _ => some ([], code, a)) (fun k => by simp [hc]) (Ev.now _)
 ·by_cases hc : code = 0
  ·obtain ⟨ha, used, h1, h2, h3, h4, h5⟩ := h0 hc
   rcases h5 with h5 | h5
   ·rw [hs0, if_pos hc, h5, ha, hc]; rfl
   ·omega
  ·rw [hs0, if_neg hc]
 ·intro hc
  obtain ⟨ha, used, h1, h2, h3, h4, h5⟩ := h0 hc
  rcases h5 with h5 | h5
  ·rw [h5, List.append_nil] at h1
   exact ⟨ha, by rw [h1]; exact h2, h4⟩
  ·omega
theorem ref_parse (l : List S44) (hl : l.length ≤ 8388608) {ns : List S38} {c a : Int} (hs : scan [] false (rl l 0) = (c, a)) (h0 : c = 0 → a = 0 ∧ Rn ns (rl l 0) ∧ Lv 64 ns) :
  Ev (fun k => variorumref06_Parse.f k l) (if c = 0 then (ns, 0, 0) else ([], c, a)) := by
 have hr := rl_len l 0
 have hF := fault_ev (rl l 0) (by omega)
 rw [hs] at hF
 refine Ev.congr (f := fun k => (variorumref06_Real.f k l).bind fun t => ((variorumref06_Fault.f k t).bind fun b => (if b.1 = 0 then ((variorumref06_nodes.f k t).bind fun t2 => (some (t2, b.1, b.2))) else (some (([] : List (S38)), b.1, b.2))))) (fun k => rfl) (Ev.bind (real_ev l hl) (Ev.bind hF ?_))
 by_cases hc : c = 0
 ·obtain ⟨ha, h1, h2⟩ := h0 hc
  have hN : Ev (fun k => variorumref06_nodes.f k (rl l 0)) ns := Rn.f ((ref_nodes h1).1 [] [] (by simp; omega) (by simp; omega))
  rw [if_pos hc]
  refine Ev.congr (f := fun k => (variorumref06_nodes.f k (rl l 0)).bind fun t2 => (some (t2, 0, 0))) (fun k => by simp [hc, ha]) (Ev.bind hN (Ev.now _))
 ·rw [if_neg hc]
  exact Ev.congr (f := fun _ => some ([], c, a)) (fun k => by simp [hc]) (Ev.now _)
set_option maxRecDepth 1000000 in
theorem fixed_at : variorumlaw06_fixed.f 40 = some true := by kernel_rfl
theorem fixed_ev : Ev (fun k => variorumlaw06_fixed.f k) true := Ev.of (fun k => variorumlaw06_fixed.mono k) fixed_at
theorem TreeParses_pure (l : List S44) (hl : l.length ≤ 8388608) : Ev (fun k => variorumlaw06_TreeParses.f k l) true := by
 obtain ⟨ns, c, a, hE, hs, h0⟩ := parse_ev l hl
 have hR := ref_parse l hl hs h0
 have hr := rl_len l 0
 have hP : Ev (fun k => variorumref06_Places.f k (if c = 0 then ns else []) (if c = 0 then ns else [])) true := by
  refine variorumref06_Places_refl _ ?_
  by_cases hc : c = 0
  ·rw [if_pos hc, (h0 hc).2.1.sz]; omega
  ·rw [if_neg hc]; simp [szL]
 refine Ev.congr (f := fun k => (tree_Parse.f k l).bind fun b => ((variorumref06_Parse.f k l).bind fun b2 => ((variorumlaw06_fixed.f k).bind fun t => (if t = true then ((variorumref06_Places.f k b.1 b2.1).bind fun t2 => (if t2 = true then (some (b.2.1 == b2.2.1 && (b.2.2 == b2.2.2))) else (some false))) else (some false))))) (fun k => rfl) (Ev.bind hE (Ev.bind hR (Ev.bind fixed_ev ?_)))
 have e1 : (if c = 0 then (ns, (0 : Int), (0 : Int)) else ([], c, a)).1 = if c = 0 then ns else [] := by split <;> rfl
 refine Ev.congr (f := fun k => (variorumref06_Places.f k (if c = 0 then ns else []) (if c = 0 then ns else [])).bind fun t2 => if t2 = true then some true else some false) (fun k => by simp [e1]) (Ev.bind hP ?_)
 exact Ev.congr (f := fun _ => some true) (fun k => by simp) (Ev.now _)
end Go.Proofs.Ytmpglkeoppbpgaa.PTree
