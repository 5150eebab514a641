/- A part of the row's proof. -/
import Derived.Test.YtmpglkeoppbpgaaBTreeSpecE
namespace Go.Proofs.Ytmpglkeoppbpgaa.PTree
open Go.RowKit Go.Proofs.YtmpglkeoppbpgaaW.PrintWords Go.Proofs.YtmpglkeoppbpgaaW.PrintLast Go.Proofs.YtmpglkeoppbpgaaW.PrintMore
set_option linter.unusedVariables false
set_option linter.unusedSimpArgs false
theorem ref_stop {pre us : List S44} {out : List S38} {b : Bool} {tx : ByteArray} {acc : List (List S38)} {p : Int} {r : List S38} (hno : NoOpen us) (ho : out.length ≤ 16777216)
  (h : Ev (fun k => variorumref06_nodes.l0 k (pre ++ us) (out ++ [⟨b, tx, acc, p⟩]) (pre.length : Int)) r) : Ev (fun k => variorumref06_nodes.l1 k (pre ++ us) out (pre.length : Int) b tx acc p) r := by
 have h2 : Ev (fun k => variorumref06_nodes.j2 k (pre ++ us) out (pre.length : Int) false b tx acc p) r :=
  Ev.step (f := fun k => variorumref06_nodes.l0 k (pre ++ us) (out ++ [⟨b, tx, acc, p⟩]) (pre.length : Int)) (fun k => by
   simp only [variorumref06_nodes.j2]
   rw [if_neg (by simp), if_pos (by omega)]) h
 refine Ev.step (fun k => ?_) h2
 simp only [variorumref06_nodes.l1]
 cases b with
 | false => rw [if_neg (by simp)]
 | true =>
  rw [if_pos rfl]
  cases us with
  | nil => rw [if_neg (by simp)]
  | cons u us =>
   have hu : (u.f0 == 2) = false := by simpa using (show u.f0 ≠ 2 from hno)
   rw [if_pos (by simp; omega), if_pos (by omega), get_at, hu]
theorem ref_read {pre us : List S44} {t : S44} {out : List S38} {r : List S38} (hl : (pre ++ t :: us).length ≤ 16777216)
  (h : Ev (fun k => variorumref06_nodes.l1 k ((pre ++ [t]) ++ us) out ((pre ++ [t]).length : Int) (t.f0 == 1) t.f1 [] t.f2) r) : Ev (fun k => variorumref06_nodes.l0 k (pre ++ t :: us) out (pre.length : Int)) r := by
 have e : pre ++ t :: us = (pre ++ [t]) ++ us := by simp
 have hlt : pre.length < (pre ++ t :: us).length := by simp
 refine Ev.step (fun k => ?_) h
 simp only [variorumref06_nodes.l0]
 rw [if_pos (by omega), if_pos (by omega), get_at, w64 (by omega), ← e]
 simp
theorem Rn.f {ns : List S38} {ts : List S44} (h : Ev (fun k => variorumref06_nodes.l0 k ([] ++ ts) [] (([] : List S44).length : Int)) ([] ++ ns)) : Ev (fun k => variorumref06_nodes.f k ts) ns := by
 refine Ev.step (fun k => ?_) h
 simp only [variorumref06_nodes.f]
 rfl
theorem ref_nodes {ns : List S38} {ts : List S44} (h : Rn ns ts) :
  (∀ (pre : List S44) (out : List S38), (pre ++ ts).length ≤ 16777216 → out.length + ts.length ≤ 16777216 → Ev (fun k => variorumref06_nodes.l0 k (pre ++ ts) out (pre.length : Int)) (out ++ ns)) ∧
  (∀ n ns' t us, ns = n :: ns' → ts = t :: us → n.f0 = true → ∀ (pre : List S44) (acc : List (List S38)) (tx : ByteArray) (p : Int) (out : List S38), (pre ++ us).length ≤ 16777216 → out.length + us.length + 1 ≤ 16777216 → acc.length + us.length ≤ 16777216 → Ev (fun k => variorumref06_nodes.l1 k (pre ++ us) out (pre.length : Int) true tx acc p) (out ++ ⟨true, tx, acc ++ n.f2, p⟩ :: ns')) := by
 induction h with
 | nil =>
  refine ⟨fun pre out hl ho => ?_, fun n ns' t us h => by cases h⟩
  refine Ev.step (f := fun _ => some out) (fun k => ?_) (by rw [List.append_nil]; exact Ev.now _)
  simp only [variorumref06_nodes.l0]
  rw [if_neg (by simp)]
 | @word t ns ts ht h ih =>
  refine ⟨fun pre out hl ho => ?_, fun n ns' t us h1 h2 h3 => by injection h1 with h1 _; subst h1; cases h3⟩
  refine ref_read hl ?_
  have hb : (t.f0 == 1) = false := by simp [ht]
  rw [hb]
  have e : out ++ ⟨false, t.f1, [], t.f2⟩ :: ns = (out ++ [⟨false, t.f1, [], t.f2⟩]) ++ ns := by simp
  rw [e]
  have hx := ih.1 (pre ++ [t]) (out ++ [⟨false, t.f1, [], t.f2⟩]) (by simp at hl ⊢; omega) (by simp at ho ⊢; omega)
  refine Ev.step (f := fun k => variorumref06_nodes.j2 k (pre ++ [t] ++ ts) out ((pre ++ [t]).length : Int) false false t.f1 [] t.f2) (fun k => ?_) (Ev.step (fun k => ?_) hx)
  ·simp only [variorumref06_nodes.l1]; rw [if_neg (by simp)]
  ·simp only [variorumref06_nodes.j2]; rw [if_neg (by simp), if_pos (by simp at ho; omega)]
 | @cmd t ns ts ht h ih =>
  have hq : ∀ (pre : List S44) (acc : List (List S38)) (tx : ByteArray) (p : Int) (out : List S38), (pre ++ ts).length ≤ 16777216 → out.length + ts.length + 1 ≤ 16777216 → Ev (fun k => variorumref06_nodes.l1 k (pre ++ ts) out (pre.length : Int) true tx acc p) (out ++ ⟨true, tx, acc, p⟩ :: ns) := by
   intro pre acc tx p out hl ho
   refine ref_stop (by have := h.noOpen (r := []) trivial; simpa using this) (by omega) ?_
   have := ih.1 pre (out ++ [⟨true, tx, acc, p⟩]) hl (by simp; omega)
   simpa using this
  refine ⟨fun pre out hl ho => ?_, fun n ns' t' us h1 h2 h3 pre acc tx p out hl ho ha => ?_⟩
  ·refine ref_read hl ?_
   have hb : (t.f0 == 1) = true := by simp [ht]
   rw [hb]
   exact hq (pre ++ [t]) [] t.f1 t.f2 out (by simp at hl ⊢; omega) (by simp at ho ⊢; omega)
  ·injection h1 with h1 h1'; injection h2 with h2 h2'; subst h1; subst h1'; subst h2'
   have := hq pre acc tx p out hl (by omega)
   simpa using this
 | @arg tx0 p0 al ns a t o c us ts ho2 hc ha h ih1 ih2 =>
  have hq : ∀ (pre : List S44) (acc : List (List S38)) (tx : ByteArray) (p : Int) (out : List S38), (pre ++ o :: (ts ++ c :: us)).length ≤ 16777216 → out.length + (o :: (ts ++ c :: us)).length + 1 ≤ 16777216 → acc.length + (o :: (ts ++ c :: us)).length ≤ 16777216 → Ev (fun k => variorumref06_nodes.l1 k (pre ++ o :: (ts ++ c :: us)) out (pre.length : Int) true tx acc p) (out ++ ⟨true, tx, acc ++ a :: al, p⟩ :: ns) := by
   intro pre acc tx p out hl ho hac
   simp only [List.length_append, List.length_cons] at hl ho hac
   have hx := ih2.2 _ _ _ _ rfl rfl rfl (pre ++ o :: ts ++ [c]) (acc ++ [a]) tx p out (by simp; omega) (by omega) (by simp; omega)
   have e2 : pre ++ o :: (ts ++ c :: us) = (pre ++ o :: ts ++ [c]) ++ us := by simp
   rw [← e2] at hx
   have hEnd : Ev (fun k => variorumref06_End.f k (pre ++ o :: (ts ++ c :: us)) (pre.length : Int)) ((pre.length + 1 + ts.length : Nat) : Int) := by
    have hlt : pre.length < (pre ++ o :: (ts ++ c :: us)).length := by simp
    have hlt2 : (pre ++ o :: ts).length < (pre ++ o :: (ts ++ c :: us)).length := by simp
    have hL : (pre ++ o :: (ts ++ c :: us)).length ≤ 16777216 := by simp; omega
    have hg2 : rd_T44 (pre ++ o :: (ts ++ c :: us)) ((pre ++ o :: ts).length : Int) = c := by
     rw [show pre ++ o :: (ts ++ c :: us) = (pre ++ o :: ts) ++ c :: us by simp]; exact get_at
    have e1 : pre ++ o :: (ts ++ c :: us) = (pre ++ [o]) ++ (ts ++ (c :: us)) := by simp
    have hb := End_bal ha.bal (pre ++ [o]) (c :: us) 1 ((pre.length + 1 + ts.length : Nat) : Int) (by omega) (by omega) (by rw [← e1]; omega) (by
     rw [← e1]
     have hp : (((pre ++ [o]).length + ts.length : Nat) : Int) = ((pre ++ o :: ts).length : Int) := by simp; omega
     rw [hp]
     refine Ev.step (f := fun k => variorumref06_End.j1 k (pre ++ o :: (ts ++ c :: us)) ((1 : Nat) : Int) ((pre ++ o :: ts).length : Int)) (fun k => ?_) (Ev.step (f := fun k => some ((pre.length + 1 + ts.length : Nat) : Int)) (fun k => ?_) (Ev.now _))
     ·simp only [variorumref06_End.l0]
      rw [if_pos (by omega), if_pos (by omega), hg2, if_neg (by omega)]
     ·simp only [variorumref06_End.j1]
      rw [if_pos (by omega), if_pos (by omega), hg2, if_pos hc, if_pos (by unfold wrap64; omega)]
      simp; omega)
    rw [← e1] at hb
    refine Ev.congr (f := fun k => variorumref06_End.l0 k (pre ++ o :: (ts ++ c :: us)) 0 (pre.length : Int)) (fun k => rfl) ?_
    refine Ev.step (f := fun k => variorumref06_End.j1 k (pre ++ o :: (ts ++ c :: us)) ((1 : Nat) : Int) (pre.length : Int)) (fun k => ?_) (Ev.step (f := fun k => variorumref06_End.l0 k (pre ++ o :: (ts ++ c :: us)) ((1 : Nat) : Int) ((pre ++ [o]).length : Int)) (fun k => ?_) hb)
    ·simp only [variorumref06_End.l0]
     rw [if_pos (by omega), if_pos (by omega), get_at, if_pos ho2, show wrap64 (0 + 1) = ((1 : Nat) : Int) by unfold wrap64; omega]
    ·simp only [variorumref06_End.j1]
     rw [if_pos (by omega), if_pos (by omega), get_at, if_neg (by omega), if_neg (by omega), w64 (by omega)]
     simp
   have hmid : ((pre ++ o :: (ts ++ c :: us)).take (((pre.length + 1 + ts.length : Nat) : Int)).toNat).drop (wrap64 ((pre.length : Int) + 1)).toNat = ts := by
    rw [w64 (by omega), Int.toNat_natCast, Int.toNat_natCast, show pre ++ o :: (ts ++ c :: us) = (pre ++ [o] ++ ts) ++ c :: us by simp, List.take_left' (by simp; omega), show pre ++ [o] ++ ts = (pre ++ [o]) ++ ts by simp, List.drop_left' (by simp)]
   have hN : Ev (fun k => variorumref06_nodes.f k ts) a := Rn.f (ih1.1 [] [] (by simp; omega) (by simp; omega))
   have hlt : pre.length < (pre ++ o :: (ts ++ c :: us)).length := by simp
   refine Ev.step (f := fun k => variorumref06_nodes.j2 k (pre ++ o :: (ts ++ c :: us)) out (pre.length : Int) true true tx acc p) (fun k => ?_) (Ev.step (f := fun k => (variorumref06_End.f k (pre ++ o :: (ts ++ c :: us)) (pre.length : Int)).bind fun t196 => (if 0 ≤ (wrap64 ((pre.length : Int) + 1)) then (if (wrap64 ((pre.length : Int) + 1)) ≤ t196 then (if t196 ≤ ((pre ++ o :: (ts ++ c :: us)).length : Int) then ((variorumref06_nodes.f k (((pre ++ o :: (ts ++ c :: us)).take (t196 : Int).toNat).drop ((wrap64 ((pre.length : Int) + 1)) : Int).toNat)).bind fun t201 => (if acc.length < 5864062014805 then (variorumref06_nodes.l1 k (pre ++ o :: (ts ++ c :: us)) out (wrap64 (t196 + 1)) true tx (acc ++ [t201]) p) else (none))) else (none)) else (none)) else (none))) (fun k => ?_) (Ev.bind hEnd ?_))
   ·simp only [variorumref06_nodes.l1]
    rw [if_true, if_pos (by omega), if_pos (by omega), get_at, ho2]
    rfl
   ·simp only [variorumref06_nodes.j2]
    rw [if_true]
   ·simp only [hmid]
    refine Ev.congr (f := fun k => (variorumref06_nodes.f k ts).bind fun t201 => (if acc.length < 5864062014805 then (variorumref06_nodes.l1 k (pre ++ o :: (ts ++ c :: us)) out (wrap64 (((pre.length + 1 + ts.length : Nat) : Int) + 1)) true tx (acc ++ [t201]) p) else (none))) (fun k => ?_) (Ev.bind hN ?_)
    ·rw [if_pos (by rw [w64 (by omega)]; omega), if_pos (by rw [w64 (by omega)]; omega), if_pos (by simp; omega)]
    ·refine Ev.congr (f := fun k => variorumref06_nodes.l1 k (pre ++ o :: (ts ++ c :: us)) out ((pre ++ o :: ts ++ [c]).length : Int) true tx (acc ++ [a]) p) (fun k => ?_) ?_
     ·rw [if_pos (by omega), w64 (by omega)]
      congr 1; simp; omega
     ·simpa using hx
  refine ⟨fun pre out hl ho => ?_, fun n ns' t' us' h1 h2 h3 pre acc tx p out hl ho hac => ?_⟩
  ·obtain ⟨x1, x2, x3⟩ := h.head rfl rfl rfl
   refine ref_read hl ?_
   have hb : (t.f0 == 1) = true := by simp [x1]
   rw [hb]
   have := hq (pre ++ [t]) [] t.f1 t.f2 out (by simp at hl ⊢; omega) (by simp at ho ⊢; omega) (by simp at ho ⊢; omega)
   simp only [] at x2 x3
   rw [List.nil_append, ← x2, ← x3] at this
   rw [← x2, ← x3]
   exact this
  ·injection h1 with h1 h1'; injection h2 with h2 h2'; subst h1; subst h1'; subst h2'
   exact hq pre acc tx p out hl ho hac
end Go.Proofs.Ytmpglkeoppbpgaa.PTree
