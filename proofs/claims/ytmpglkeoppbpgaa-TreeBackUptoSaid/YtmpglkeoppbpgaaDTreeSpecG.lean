/- A part of the row's proof. -/
import Derived.Test.YtmpglkeoppbpgaaDTreeSpecF
import Derived.Test.YtmpglkeoppbpgaaDPTreex12
namespace Go.Proofs.Ytmpglkeoppbpgaa.PTree
open Go.RowKit Go.Proofs.YtmpglkeoppbpgaaW.PrintWords Go.Proofs.YtmpglkeoppbpgaaW.PrintLast Go.Proofs.YtmpglkeoppbpgaaW.PrintMore
set_option linter.unusedVariables false
set_option linter.unusedSimpArgs false
theorem Ev.unique {α : Type} {g : Nat → Option α} {a b : α} (h : Ev g a) (k : Ev g b) : a = b := by
 obtain ⟨m, hm⟩ := h
 obtain ⟨n, hn⟩ := k
 have h1 := hm (max m n) (by omega)
 have h2 := hn (max m n) (by omega)
 rw [h1] at h2
 exact Option.some.inj h2
theorem Rn.unique {a b : List S38} {ts : List S44} (hl : ts.length ≤ 8388608) (h : Rn a ts) (k : Rn b ts) : a = b := by
 have h1 := (ref_nodes h).1 [] [] (by simp; omega) (by simp; omega)
 have h2 := (ref_nodes k).1 [] [] (by simp; omega) (by simp; omega)
 simpa using Ev.unique h1 h2
theorem parse_ev (l : List S44) (hl : l.length ≤ 8388608) : ∃ ns c a, Ev (fun k => tree_Parse.f k l) (if c = 0 then (ns, 0, 0) else ([], c, a)) ∧ scan [] false (rl l 0) = (c, a) ∧ (c = 0 → a = 0 ∧ Rn ns (rl l 0) ∧ Lv 64 ns) := by
 have hr := rl_len l 0
 obtain ⟨ns, q, code, a, hE, hq, hle, h0, hs⟩ := (parser_ends l hl _).1 0 0 [] (by omega) (by omega) (Nat.le_refl _) (by simp; omega)
 rw [List.nil_append] at hE
 have hN : Ev (fun k => tree_parser_nodes.f k l 0 0 0 0) (ns, ((q : Nat) : Int), code, a) :=
  Ev.step (f := NL 0 [] l 0 0 0) (fun k => by simp only [tree_parser_nodes.f, NL]; rfl) hE
 have hs0 := hs [] rfl
 refine ⟨ns, code, a, ?_, ?_, ?_⟩
 ·refine Ev.congr (f := fun k => (tree_parser_nodes.f k l 0 0 0 0).bind fun b => if b.2.2.1 = 0 then some (b.1, 0, 0) else some ([], b.2.2.1, b.2.2.2)) (fun k => rfl) (Ev.bind hN ?_)
  by_cases hc : code = 0
  ·rw [show (if code = 0 then (ns, (0 : Int), (0 : Int)) else ([], code, a)) = (ns, 0, 0) from if_pos hc]
   exact Ev.congr (f := fun _ => some (ns, 0, 0)) (fun k => by simp [hc]) (Ev.now _)
  ·rw [show (if code = 0 then (ns, (0 : Int), (0 : Int)) else ([], code, a)) = ([], code, a) from if_neg hc]
   exact Ev.congr (f := fun _ => some ([], code, a)) (fun k => by simp [hc]) (Ev.now _)
 ·by_cases hc : code = 0
  ·obtain ⟨ha, used, h1, h2, h3, h4, h5⟩ := h0 hc
   rcases h5 with h5 | h5
   ·rw [hs0, if_pos hc, h5, ha, hc]; rfl
   ·omega
  ·rw [hs0, if_neg hc]
 ·intro hc
  obtain ⟨ha, used, h1, h2, h3, h4, h5⟩ := h0 hc
  rcases h5 with h5 | h5
  ·rw [h5, List.append_nil] at h1
   exact ⟨ha, by rw [h1]; exact h2, h4⟩
  ·omega
theorem parse_of (l : List S44) (hl : l.length ≤ 8388608) {ns : List S38} (h : Rn ns (rl l 0)) (hv : Lv 64 ns) : Ev (fun k => tree_Parse.f k l) (ns, 0, 0) := by
 obtain ⟨ns', c, a, hE, hs, h0⟩ := parse_ev l hl
 have hx := scan_Rn (m := 64) (st := []) (rest := []) h false hv (by simp) trivial
 rw [List.append_nil] at hx
 rw [hx] at hs
 simp only [scan, Prod.mk.injEq] at hs
 obtain ⟨rfl, rfl⟩ := hs
 obtain ⟨_, h2, _⟩ := h0 rfl
 have := rl_len l 0
 rw [Rn.unique (by omega) h2 h, if_pos rfl] at hE
 exact hE
set_option maxRecDepth 1000000 in
theorem fixed_at : variorumlaw06_fixed.f 40 = some true := by kernel_rfl
theorem fixed_ev : Ev (fun k => variorumlaw06_fixed.f k) true := Ev.of (fun k => variorumlaw06_fixed.mono k) fixed_at
end Go.Proofs.Ytmpglkeoppbpgaa.PTree
