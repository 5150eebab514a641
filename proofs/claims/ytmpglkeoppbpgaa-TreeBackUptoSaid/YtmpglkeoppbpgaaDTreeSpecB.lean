/- A part of the row's proof. -/
import Derived.Test.YtmpglkeoppbpgaaDTreeSpecA
namespace Go.Proofs.Ytmpglkeoppbpgaa.PTree
open Go.RowKit Go.Proofs.YtmpglkeoppbpgaaW.PrintWords Go.Proofs.YtmpglkeoppbpgaaW.PrintLast Go.Proofs.YtmpglkeoppbpgaaW.PrintMore
set_option linter.unusedVariables false
set_option linter.unusedSimpArgs false
theorem w64 {n : Nat} (h : n ≤ 4294967296) : wrap64 ((n : Int) + 1) = ((n + 1 : Nat) : Int) := by unfold wrap64; omega
def NPost (toks : List S44) (d p : Nat) (ns : List S38) (q : Nat) (code a : Int) : Prop :=
 q ≤ toks.length ∧ (rl toks q).length ≤ (rl toks p).length ∧
 (code = 0 → a = 0 ∧ ∃ used, rl toks p = used ++ rl toks q ∧ Rn ns used ∧ ns.length ≤ used.length ∧ Lv (64 - d) ns ∧ (rl toks q = [] ∨ 0 < d ∧ ∃ c r, rl toks q = c :: r ∧ c.f0 = 3)) ∧
 ∀ st : List Int, st.length = d → scan st false (rl toks p) = if code = 0 then scan st false (rl toks q) else (code, a)
def APost (toks : List S44) (d p : Nat) (al : List (List S38)) (q : Nat) (code a : Int) : Prop :=
 q ≤ toks.length ∧ (rl toks q).length ≤ (rl toks p).length ∧
 (code = 0 → a = 0 ∧ ∃ used, rl toks p = used ++ rl toks q ∧ (∀ (t : S44) (ns : List S38) (ts : List S44), t.f0 = 1 → Rn ns ts → Rn (⟨true, t.f1, al, t.f2⟩ :: ns) (t :: (used ++ ts))) ∧ al.length ≤ used.length ∧ Lv (64 - d) [⟨true, ⟨#[]⟩, al, 0⟩] ∧ NoOpen (rl toks q)) ∧
 ∀ st : List Int, st.length = d → scan st true (rl toks p) = if code = 0 then scan st true (rl toks q) else (code, a)
theorem Lv.cmd {m : Nat} {t t' : ByteArray} {p p' : Int} {al : List (List S38)} (h : Lv m [⟨true, t, al, p⟩]) : Lv m [⟨true, t', al, p'⟩] := by
 cases m <;> simp only [Lv, List.mem_cons, List.not_mem_nil, or_false, forall_eq] at * <;> exact h
abbrev NL (d : Nat) (out : List S38) (toks : List S44) (p : Nat) (c a : Int) : Nat → Option (List S38 × Int × Int × Int) := fun k => tree_parser_nodes.l0 k (d : Int) out toks (p : Int) c a
abbrev AL (d : Nat) (out : List (List S38)) (toks : List S44) (p : Nat) (c a : Int) : Nat → Option (List (List S38) × Int × Int × Int) := fun k => tree_parser_args.l0 k (d : Int) out toks (p : Int) c a
theorem Lv.more {m : Nat} {ns : List S38} {b : Bool} {t : ByteArray} {al : List (List S38)} {p : Int} (h : Lv m ns) (k : Lv (m + 1) [⟨b, t, al, p⟩]) : Lv (m + 1) [⟨b, t, ns :: al, p⟩] := by
 simp only [Lv, List.mem_cons, List.not_mem_nil, or_false, forall_eq, forall_eq_or_imp] at *
 exact ⟨h, k⟩
theorem fail_set {toks : List S44} {p c a k : Int} : tree_parser_fail.f toks p 0 a k c = some (p, k, c) := by simp [tree_parser_fail.f]
theorem fail_held {toks : List S44} {p c a k x : Int} (h : c ≠ 0) : tree_parser_fail.f toks p c a k x = some (p, c, a) := by simp [tree_parser_fail.f, h]
theorem NL_stop {d : Nat} {out : List S38} {toks : List S44} {p : Nat} {c a : Int} (h : c ≠ 0) : Ev (NL d out toks p c a) (out, (p : Int), c, a) :=
 Ev.step (f := fun _ => some (out, (p : Int), c, a)) (fun k => by simp only [NL, tree_parser_nodes.l0]; rw [if_neg h]) (Ev.now _)
theorem AJ4 {out : List (List S38)} {toks : List S44} {p c a : Int} : Ev (fun k => tree_parser_args.j4 k out toks p c a) (out, p, c, a) :=
 Ev.step (f := fun _ => some (out, p, c, a)) (fun k => by simp only [tree_parser_args.j4]) (Ev.now _)
theorem AL_stop {d : Nat} {out : List (List S38)} {toks : List S44} {p : Nat} {c a : Int} (h : c ≠ 0) : Ev (AL d out toks p c a) (out, (p : Int), c, a) :=
 Ev.step (f := fun k => tree_parser_args.j4 k out toks (p : Int) c a) (fun k => by simp only [AL, tree_parser_args.l0]; rw [if_neg h]) AJ4
theorem AJ2 {d : Nat} {out : List (List S38)} {ns : List S38} {toks : List S44} {p : Nat} {c a : Int} {r : List (List S38) × Int × Int × Int} (ho : out.length ≤ 8388608) (h : Ev (AL d (out ++ [ns]) toks p c a) r) : Ev (fun k => tree_parser_args.j2 k (d : Int) out ns toks (p : Int) c a) r :=
 Ev.step (f := fun k => tree_parser_args.j3 k (d : Int) (out ++ [ns]) toks (p : Int) c a) (fun k => by simp only [tree_parser_args.j2]; rw [if_pos (by omega)]) (Ev.step (f := AL d (out ++ [ns]) toks p c a) (fun k => by simp only [tree_parser_args.j3]) h)
theorem AJ1_group {d q : Nat} {out : List (List S38)} {toks : List S44} {t1 : ByteArray} {t0 t2 : Int} {ns : List S38} {q2 : Nat} {code a : Int} {r : List (List S38) × Int × Int × Int} (hlen : toks.length ≤ 8388608) (hd : d < 64) (hq : q < toks.length) (hq2 : q2 ≤ toks.length) (ho : out.length ≤ 8388608)
  (hN : Ev (NL (d + 1) [] toks (q + 1) 0 0) (ns, (q2 : Int), code, a))
  (hn : rl toks q2 = [] → Ev (AL d (out ++ [ns]) toks toks.length (if code = 0 then 62 else code) (if code = 0 then t2 else a)) r)
  (hc : ∀ c s q3, rl toks q2 = c :: s → q3 < toks.length → rl toks q3 = c :: s → rl toks (q3 + 1) = s → c.f0 = 3 → tree_parser_peek.f toks (q2 : Int) code a = some (c.f0, c.f1, c.f2, true, (q3 : Int), code, a) →  Ev (AL d (out ++ [ns]) toks (q3 + 1) code a) r)
  (hx : ∀ c s q3, rl toks q2 = c :: s → q3 < toks.length → rl toks q3 = c :: s → rl toks (q3 + 1) = s → c.f0 ≠ 3 → tree_parser_peek.f toks (q2 : Int) code a = some (c.f0, c.f1, c.f2, true, (q3 : Int), code, a) →  Ev (AL d (out ++ [ns]) toks q3 (if code = 0 then 62 else code) (if code = 0 then t2 else a)) r) :
  Ev (fun k => tree_parser_args.j1 k (d : Int) out false toks (q : Int) 0 0 t0 t1 t2) r := by
 have e1 : wrap64 ((q : Int) + 1) = ((q + 1 : Nat) : Int) := w64 (by omega)
 have e2 : wrap64 ((d : Int) + 1) = ((d + 1 : Nat) : Int) := w64 (by omega)
 have hf : ∀ p', tree_parser_fail.f toks p' code a 62 t2 = some (p', (if code = 0 then 62 else code), (if code = 0 then t2 else a)) := by
  intro p'
  by_cases h : code = 0
  ·subst h; rw [fail_set, if_pos rfl, if_pos rfl]
  ·rw [fail_held h, if_neg h, if_neg h]
 have hN' : Ev (fun k => tree_parser_nodes.f k toks (((q + 1 : Nat) : Int)) 0 0 (((d + 1 : Nat) : Int))) (ns, (q2 : Int), code, a) :=
  Ev.step (f := NL (d + 1) [] toks (q + 1) 0 0) (fun k => by simp only [tree_parser_nodes.f, NL]) hN
 cases hr : rl toks q2 with
 | nil =>
  have hp := peek_none (c := code) (a := a) hq2 hr
  refine Ev.step (f := fun k => (tree_parser_nodes.f k toks (((q + 1 : Nat) : Int)) 0 0 (((d + 1 : Nat) : Int))).bind fun b => _) (fun k => by
   simp only [tree_parser_args.j1]
   rw [if_neg (by simp), if_neg (by omega), e1, e2]) (Ev.bind hN' ?_)
  simp only [hp, Option.bind_some]
  refine Ev.congr (f := fun k => tree_parser_args.j3 k (d : Int) (out ++ [ns]) toks (toks.length : Int) (if code = 0 then 62 else code) (if code = 0 then t2 else a)) (fun k => by
   rw [if_neg (by simp), hf]; simp only [Option.bind_some]; rw [if_pos (by omega)]) ?_
  exact Ev.step (f := AL d (out ++ [ns]) toks toks.length _ _) (fun k => by simp only [tree_parser_args.j3]) (hn hr)
 | cons c s =>
  obtain ⟨q3, hq3, h1, h2, hp⟩ := peek_some (c := code) (a := a) hq2 hr
  have e3 : wrap64 ((q3 : Int) + 1) = ((q3 + 1 : Nat) : Int) := w64 (by omega)
  refine Ev.step (f := fun k => (tree_parser_nodes.f k toks (((q + 1 : Nat) : Int)) 0 0 (((d + 1 : Nat) : Int))).bind fun b => _) (fun k => by
   simp only [tree_parser_args.j1]
   rw [if_neg (by simp), if_neg (by omega), e1, e2]) (Ev.bind hN' ?_)
  simp only [hp, Option.bind_some]
  by_cases h3 : c.f0 = 3
  ·refine Ev.congr (f := fun k => tree_parser_args.j2 k (d : Int) out ns toks ((q3 + 1 : Nat) : Int) code a) (fun k => by
    rw [if_true, if_pos h3, e3]) ?_
   exact AJ2 ho (hc c s q3 hr hq3 h1 h2 h3 hp)
  ·refine Ev.congr (f := fun k => tree_parser_args.j2 k (d : Int) out ns toks (q3 : Int) (if code = 0 then 62 else code) (if code = 0 then t2 else a)) (fun k => by
    rw [if_true, if_neg h3, hf]; simp only [Option.bind_some]) ?_
   exact AJ2 ho (hx c s q3 hr hq3 h1 h2 h3 hp)
theorem parser_ends (toks : List S44) (hlen : toks.length ≤ 8388608) (m : Nat) :
  (∀ (d p : Nat) (out : List S38), d ≤ 64 → p ≤ toks.length → (rl toks p).length ≤ m → out.length + (rl toks p).length ≤ 8388608 → ∃ ns q code a, Ev (NL d out toks p 0 0) (out ++ ns, ((q : Nat) : Int), code, a) ∧ NPost toks d p ns q code a) ∧
  (∀ (d p : Nat) (out : List (List S38)), d ≤ 64 → p ≤ toks.length → (rl toks p).length ≤ m → out.length + (rl toks p).length ≤ 8388608 → ∃ al q code a, Ev (AL d out toks p 0 0) (out ++ al, ((q : Nat) : Int), code, a) ∧ APost toks d p al q code a) := by
 induction m using Nat.strongRecOn with
 | _ m ih =>
 have hA : ∀ (d p : Nat) (out : List (List S38)), d ≤ 64 → p ≤ toks.length → (rl toks p).length ≤ m → out.length + (rl toks p).length ≤ 8388608 → ∃ al q code a, Ev (AL d out toks p 0 0) (out ++ al, ((q : Nat) : Int), code, a) ∧ APost toks d p al q code a := by
  intro d p out hd hp hm ho
  cases hr : rl toks p with
  | nil =>
   refine ⟨[], toks.length, 0, 0, ?_, Nat.le_refl _, by simp [rl_end], fun _ => ⟨rfl, [], by simp [hr, rl_end], fun t ns ts ht h => by simpa using Rn.cmd ht h, Nat.le_refl _, Lv.bare _ _ _ _, by rw [rl_end (Nat.le_refl _)]; trivial⟩, fun st hst => by rw [if_pos rfl, hr, rl_end (Nat.le_refl _)]⟩
   refine Ev.step (f := fun k => tree_parser_args.j1 k (d : Int) out true toks (toks.length : Int) 0 0 0 ⟨#[]⟩ 0) (fun k => by simp only [AL, tree_parser_args.l0]; rw [if_true, peek_none hp hr]; simp only [Option.bind_some]; rw [if_neg (by simp)]) ?_
   refine Ev.step (f := fun k => tree_parser_args.j4 k out toks (toks.length : Int) 0 0) (fun k => by simp only [tree_parser_args.j1]; rw [if_true]) ?_
   rw [List.append_nil]; exact AJ4
  | cons t r =>
   obtain ⟨q, hq, hq1, hq2, hpk⟩ := peek_some (c := 0) (a := 0) hp hr
   have hstep : ∀ k, AL d out toks p 0 0 (k + 1) = tree_parser_args.j1 k (d : Int) out (t.f0 != 2) toks (q : Int) 0 0 t.f0 t.f1 t.f2 := fun k => by
    simp only [AL, tree_parser_args.l0]; rw [if_true, hpk]; simp only [Option.bind_some, if_true]
   by_cases h2 : t.f0 = 2
   ·by_cases hdeep : d = 64
    ·
     refine ⟨[], q, 63, t.f2, ?_, by omega, by rw [hq1, hr]; exact Nat.le_refl _, fun h => absurd h (by decide), fun st hst => by rw [if_neg (by decide), hr, scan_deep h2 (by omega)]⟩
     refine Ev.step hstep ?_
     refine Ev.step (f := fun k => tree_parser_args.j4 k out toks (q : Int) 63 t.f2) (fun k => by
      simp only [tree_parser_args.j1]
      rw [if_neg (by simp [h2]), if_pos (by omega)]
      simp [tree_parser_fail.f]) ?_
     rw [List.append_nil]; exact AJ4
    ·
     have hd64 : d < 64 := by omega
     have ho0 : out.length ≤ 8388608 := by omega
     have hlr : (rl toks (q + 1)).length < m := by rw [hq2]; rw [hr] at hm; simp only [List.length_cons] at hm; omega
     have hor : out.length + r.length + 1 ≤ 8388608 := by rw [hr] at ho; simp only [List.length_cons] at ho; omega
     obtain ⟨ns, q2, code, a, hN, hNq, hNl, hN0, hNs⟩ := (ih _ hlr).1 (d + 1) (q + 1) [] (by omega) (by omega) (Nat.le_refl _) (by rw [hq2]; simp; omega)
     rw [List.nil_append] at hN
     rw [hq2] at hNl
     have hb : (t.f0 != 2) = false := by simp [h2]
     have hstep' : ∀ k, AL d out toks p 0 0 (k + 1) = tree_parser_args.j1 k (d : Int) out false toks (q : Int) 0 0 t.f0 t.f1 t.f2 := fun k => by rw [hstep, hb]
     have hsc : ∀ st : List Int, st.length = d → scan st true (rl toks p) = scan (t.f2 :: st) false (rl toks (q + 1)) := fun st hst => by rw [hr, hq2, scan_open h2 (by omega)]
     by_cases hcode : code = 0
     ·subst hcode
      obtain ⟨rfl, used, hu1, hu2, hu3, hu4, hu5⟩ := hN0 rfl
      rcases hu5 with hu5 | ⟨-, c, s, hcs, hc3⟩
      ·refine ⟨[ns], toks.length, 62, t.f2, ?_, Nat.le_refl _, by rw [rl_end (Nat.le_refl _)]; simp, fun h => absurd h (by decide), fun st hst => by
        rw [if_neg (by decide), hsc st hst, hNs _ (by simp [hst]), if_pos rfl, hu5]; rfl⟩
       refine Ev.step hstep' (AJ1_group hlen hd64 hq hNq ho0 hN (fun _ => ?_) (fun c s q3 h => by rw [hu5] at h; cases h) (fun c s q3 h => by rw [hu5] at h; cases h))
       rw [if_pos rfl, if_pos rfl]; exact AL_stop (by decide)
      ·have hsl : s.length + 1 ≤ r.length := by rw [hcs] at hNl; simpa using hNl
       obtain ⟨q3, hq3, g1, g2, hpk3⟩ := peek_some (c := 0) (a := 0) hNq hcs
       obtain ⟨al, q4, code4, a4, hE, hA1, hA2, hA3, hA4⟩ := (ih s.length (by rw [hq2] at hlr; omega)).2 d (q3 + 1) (out ++ [ns]) hd (by omega) (by rw [g2]; exact Nat.le_refl _) (by rw [g2, List.length_append, List.length_singleton]; omega)
       rw [g2] at hA2 hA3 hA4
       refine ⟨ns :: al, q4, code4, a4, ?_, hA1, by rw [hr]; simp only [List.length_cons]; omega, fun h4 => ?_, fun st hst => ?_⟩
       ·refine Ev.step hstep' (AJ1_group hlen hd64 hq hNq ho0 hN (fun h => by rw [hcs] at h; cases h) (fun c' s' q3' h x1 x2 x3 x4 x5 => ?_) (fun c' s' q3' h x1 x2 x3 x4 x5 => by rw [hcs] at h; injection h with h _; exact absurd (h ▸ hc3) x4))
        rw [hpk3] at x5; injection x5 with x5; injection x5 with y1 y2; injection y2 with y2 y3; injection y3 with y3 y4; injection y4 with y4 y5; injection y5 with y5 _; have y6 : q3' = q3 := by omega
        subst y6
        rw [List.append_assoc] at hE; exact hE
       ·obtain ⟨rfl, us, v1, v2, v3, v4, v5⟩ := hA3 h4
        refine ⟨rfl, t :: (used ++ c :: us), ?_, ?_, ?_, ?_, v5⟩
        ·rw [hr, ← hq2, hu1, hcs, v1]; simp
        ·intro t' ns' ts ht' hts
         have := v2 t' ns' ts ht' hts
         have := Rn.arg h2 hc3 hu2 this
         simpa using this
        ·simp only [List.length_cons, List.length_append]; omega
        ·obtain ⟨m', hm'⟩ : ∃ m', 64 - d = m' + 1 := ⟨63 - d, by omega⟩
         rw [hm'] at v4 ⊢
         exact Lv.more (by rw [show 64 - (d + 1) = m' by omega] at hu4; exact hu4) v4
       ·rw [hsc st hst, hNs _ (by simp [hst]), if_pos rfl, hcs, scan_close hc3, hA4 st hst]
     ·have hAny : ∃ q5, q5 ≤ toks.length ∧ (rl toks q5).length ≤ r.length ∧ Ev (AL d out toks p 0 0) (out ++ [ns], ((q5 : Nat) : Int), code, a) := by
       cases hr2 : rl toks q2 with
       | nil =>
        refine ⟨toks.length, Nat.le_refl _, by rw [rl_end (Nat.le_refl _)]; simp, Ev.step hstep' (AJ1_group hlen hd64 hq hNq ho0 hN (fun _ => ?_) (fun c s q3 h => by rw [hr2] at h; cases h) (fun c s q3 h => by rw [hr2] at h; cases h))⟩
        rw [if_neg hcode, if_neg hcode]; exact AL_stop hcode
       | cons c s =>
        rw [hr2] at hNl
        simp only [List.length_cons] at hNl
        obtain ⟨q3, hq3, g1, g2, hpk3⟩ := peek_some (c := code) (a := a) hNq hr2
        by_cases h3 : c.f0 = 3
        ·refine ⟨q3 + 1, by omega, by rw [g2]; omega, Ev.step hstep' (AJ1_group hlen hd64 hq hNq ho0 hN (fun h => by rw [hr2] at h; cases h) (fun c' s' q3' h x1 x2 x3 x4 x5 => ?_) (fun c' s' q3' h x1 x2 x3 x4 x5 => by rw [hr2] at h; injection h with h _; exact absurd (h ▸ h3) x4))⟩
         rw [hpk3] at x5; injection x5 with x5; injection x5 with y1 y2; injection y2 with y2 y3; injection y3 with y3 y4; injection y4 with y4 y5; injection y5 with y5 _; have y6 : q3' = q3 := by omega
         subst y6; exact AL_stop hcode
        ·refine ⟨q3, by omega, by rw [g1]; simp only [List.length_cons]; omega, Ev.step hstep' (AJ1_group hlen hd64 hq hNq ho0 hN (fun h => by rw [hr2] at h; cases h) (fun c' s' q3' h x1 x2 x3 x4 x5 => by rw [hr2] at h; injection h with h _; exact absurd (h ▸ x4) h3) (fun c' s' q3' h x1 x2 x3 x4 x5 => ?_))⟩
         rw [hpk3] at x5; injection x5 with x5; injection x5 with y1 y2; injection y2 with y2 y3; injection y3 with y3 y4; injection y4 with y4 y5; injection y5 with y5 _; have y6 : q3' = q3 := by omega
         subst y6; rw [if_neg hcode, if_neg hcode]; exact AL_stop hcode
      obtain ⟨q5, z1, z2, z3⟩ := hAny
      exact ⟨[ns], q5, code, a, z3, z1, by rw [hr]; simp only [List.length_cons]; omega, fun h => absurd h hcode, fun st hst => by
       rw [if_neg hcode, hsc st hst, hNs _ (by simp [hst]), if_neg hcode]⟩
   ·refine ⟨[], q, 0, 0, ?_, by omega, by rw [hq1, hr]; exact Nat.le_refl _, fun _ => ⟨rfl, [], by rw [hq1, hr]; rfl, fun t ns ts ht h => by simpa using Rn.cmd ht h, Nat.le_refl _, Lv.bare _ _ _ _, by rw [hq1]; exact h2⟩, fun st hst => by rw [if_pos rfl, hr, hq1]⟩
    refine Ev.step hstep ?_
    refine Ev.step (f := fun k => tree_parser_args.j4 k out toks (q : Int) 0 0) (fun k => by simp only [tree_parser_args.j1]; rw [if_pos (by simp [h2])]) ?_
    rw [List.append_nil]; exact AJ4
 refine ⟨?_, hA⟩
 intro d p out hd hp hm ho
 cases hr : rl toks p with
 | nil =>
  refine ⟨[], toks.length, 0, 0, ?_, Nat.le_refl _, by simp [rl_end], fun _ => ⟨rfl, [], by simp [hr, rl_end], .nil, Nat.le_refl _, Lv.nil _, .inl (rl_end (Nat.le_refl _))⟩, fun st hst => by rw [if_pos rfl, hr, rl_end (Nat.le_refl _)]⟩
  refine Ev.step (f := fun k => some (out, (toks.length : Int), 0, 0)) (fun k => by simp only [NL, tree_parser_nodes.l0]; rw [if_true, peek_none hp hr]; simp only [Option.bind_some]; rw [if_neg (by simp)]) ?_
  rw [List.append_nil]; exact Ev.now _
 | cons t r =>
  obtain ⟨q, hq, hq1, hq2, hpk⟩ := peek_some (c := 0) (a := 0) hp hr
  have e1 : wrap64 ((q : Int) + 1) = ((q + 1 : Nat) : Int) := w64 (by omega)
  have hlr : (rl toks (q + 1)).length < m := by rw [hq2]; rw [hr] at hm; simp only [List.length_cons] at hm; omega
  have hor : out.length + r.length + 1 ≤ 8388608 := by rw [hr] at ho; simp only [List.length_cons] at ho; omega
  have ho0 : out.length < 2513169434916 := by omega
  have hq0 : q + 1 ≤ toks.length := by omega
  rcases isReal_of_rl hr with h0 | h1 | h2 | h3
  ·
   obtain ⟨ns, q2, code, a, hE, hN1, hN2, hN3, hN4⟩ := (ih _ hlr).1 d (q + 1) (out ++ [⟨false, t.f1, [], t.f2⟩]) hd hq0 (Nat.le_refl _) (by rw [hq2, List.length_append, List.length_singleton]; omega)
   rw [hq2] at hN2 hN3 hN4
   refine ⟨⟨false, t.f1, [], t.f2⟩ :: ns, q2, code, a, ?_, hN1, by rw [hr]; simp only [List.length_cons]; omega, fun hc => ?_, fun st hst => by rw [hr, scan_word h0, hN4 st hst]⟩
   ·refine Ev.step (f := NL d (out ++ [⟨false, t.f1, [], t.f2⟩]) toks (q + 1) 0 0) (fun k => by
     simp only [NL, tree_parser_nodes.l0]; rw [if_true, hpk]; simp only [Option.bind_some]; rw [if_true, if_pos h0, if_pos ho0, e1]) ?_
    rw [List.append_assoc] at hE; exact hE
   ·obtain ⟨v0, us, v1, v2, v3, v4, v5⟩ := hN3 hc
    refine ⟨v0, t :: us, by rw [hr, v1]; rfl, .word h0 v2, by simp only [List.length_cons]; omega, Lv.cons (Lv.bare _ _ _ _) v4, v5⟩
  ·
   obtain ⟨al, q2, code, a, hE, hA1, hA2, hA3, hA4⟩ := (ih _ hlr).2 d (q + 1) [] hd hq0 (Nat.le_refl _) (by rw [hq2]; simp only [List.length_nil]; omega)
   rw [List.nil_append] at hE
   rw [hq2] at hA2 hA3 hA4
   have hF : Ev (fun k => tree_parser_args.f k toks ((q + 1 : Nat) : Int) 0 0 (d : Int)) (al, (q2 : Int), code, a) :=
    Ev.step (f := AL d [] toks (q + 1) 0 0) (fun k => by simp only [tree_parser_args.f, AL]) hE
   have hG : ∀ r', Ev (NL d (out ++ [⟨true, t.f1, al, t.f2⟩]) toks q2 code a) r' → Ev (NL d out toks p 0 0) r' := by
    intro r' h
    refine Ev.step (f := fun k => (tree_parser_args.f k toks ((q + 1 : Nat) : Int) 0 0 (d : Int)).bind fun b => _) (fun k => by
     simp only [NL, tree_parser_nodes.l0]; rw [if_true, hpk]; simp only [Option.bind_some]; rw [if_true, if_neg (by omega), if_pos h1, e1]) (Ev.bind hF ?_)
    simp only []
    exact Ev.congr (f := NL d (out ++ [⟨true, t.f1, al, t.f2⟩]) toks q2 code a) (fun k => by rw [if_pos ho0]) h
   by_cases hcode : code = 0
   ·subst hcode
    obtain ⟨rfl, us, v1, v2, v3, v4, v5⟩ := hA3 rfl
    have hm2 : (rl toks q2).length < m := by rw [hq2] at hlr; omega
    obtain ⟨ns, q4, code4, a4, hE4, hN1, hN2, hN3, hN4⟩ := (ih _ hm2).1 d q2 (out ++ [⟨true, t.f1, al, t.f2⟩]) hd hA1 (Nat.le_refl _) (by rw [List.length_append, List.length_singleton]; omega)
    refine ⟨⟨true, t.f1, al, t.f2⟩ :: ns, q4, code4, a4, ?_, hN1, by rw [hr]; simp only [List.length_cons]; omega, fun hc => ?_, fun st hst => by rw [hr, scan_cmd h1, hA4 st hst, if_pos rfl, scan_b v5 true false, hN4 st hst]⟩
    ·refine hG _ ?_
     rw [List.append_assoc] at hE4; exact hE4
    ·obtain ⟨w0, us2, w1, w2, w3, w4, w5⟩ := hN3 hc
     refine ⟨w0, t :: (us ++ us2), by rw [hr, v1, w1]; simp, v2 t ns us2 h1 w2, by simp only [List.length_cons, List.length_append]; omega, Lv.cons (Lv.cmd v4) w4, w5⟩
   ·refine ⟨[⟨true, t.f1, al, t.f2⟩], q2, code, a, hG _ (NL_stop hcode), hA1, by rw [hr]; simp only [List.length_cons]; omega, fun h => absurd h hcode, fun st hst => by rw [if_neg hcode, hr, scan_cmd h1, hA4 st hst, if_neg hcode]⟩
  ·
   refine ⟨[], q, 60, t.f2, ?_, by omega, by rw [hq1, hr]; exact Nat.le_refl _, fun h => absurd h (by decide), fun st hst => by rw [if_neg (by decide), hr, scan_bad h2]⟩
   refine Ev.step (f := NL d out toks q 60 t.f2) (fun k => by
    simp only [NL, tree_parser_nodes.l0]; rw [if_true, hpk]; simp only [Option.bind_some]; rw [if_true, if_neg (by omega), if_neg (by omega), if_pos h2, fail_set]; rfl) ?_
   rw [List.append_nil]; exact NL_stop (by decide)
  ·
   by_cases hd0 : 0 < d
   ·refine ⟨[], q, 0, 0, ?_, by omega, by rw [hq1, hr]; exact Nat.le_refl _, fun _ => ⟨rfl, [], by rw [hq1, hr]; rfl, .nil, Nat.le_refl _, Lv.nil _, .inr ⟨hd0, t, r, hq1, h3⟩⟩, fun st hst => by rw [if_pos rfl, hr, hq1]⟩
    refine Ev.step (f := fun _ => some (out, (q : Int), 0, 0)) (fun k => by
     simp only [NL, tree_parser_nodes.l0]; rw [if_true, hpk]; simp only [Option.bind_some]; rw [if_true, if_neg (by omega), if_neg (by omega), if_neg (by omega), if_pos h3, if_pos (by omega)]) ?_
    rw [List.append_nil]; exact Ev.now _
   ·refine ⟨[], q, 61, t.f2, ?_, by omega, by rw [hq1, hr]; exact Nat.le_refl _, fun h => absurd h (by decide), fun st hst => by
     rw [if_neg (by decide), hr]
     obtain rfl : st = [] := List.length_eq_zero_iff.1 (by omega)
     exact scan_close0 h3⟩
    refine Ev.step (f := NL d out toks q 61 t.f2) (fun k => by
     simp only [NL, tree_parser_nodes.l0]; rw [if_true, hpk]; simp only [Option.bind_some]; rw [if_true, if_neg (by omega), if_neg (by omega), if_neg (by omega), if_pos h3, if_neg (by omega), fail_set]; rfl) ?_
    rw [List.append_nil]; exact NL_stop (by decide)
end Go.Proofs.Ytmpglkeoppbpgaa.PTree
