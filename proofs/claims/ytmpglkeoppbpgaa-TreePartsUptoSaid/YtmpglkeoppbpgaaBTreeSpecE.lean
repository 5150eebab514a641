/- A part of the row's proof. -/
import Derived.Test.YtmpglkeoppbpgaaBTreeSpecC
namespace Go.Proofs.Ytmpglkeoppbpgaa.PTree
open Go.RowKit Go.Proofs.YtmpglkeoppbpgaaW.PrintWords Go.Proofs.YtmpglkeoppbpgaaW.PrintLast Go.Proofs.YtmpglkeoppbpgaaW.PrintMore
set_option linter.unusedVariables false
set_option linter.unusedSimpArgs false
theorem Rn.sz {ns : List S38} {ts : List S44} (h : Rn ns ts) : szL ns = ts.length := by
 induction h with
 | nil => rfl
 | word ht h ih => simp only [szL, szN, szA, ih, List.length_cons]; omega
 | cmd ht h ih => simp only [szL, szN, szA, ih, List.length_cons]; omega
 | arg ho hc ha h ih1 ih2 => simp only [szL, szN, szA, List.length_cons, List.length_append] at *; omega
theorem Rn.append {a b : List S38} {ts us : List S44} (h : Rn a ts) (k : Rn b us) : Rn (a ++ b) (ts ++ us) := by
 induction h with
 | nil => exact k
 | word ht h ih => exact .word ht ih
 | cmd ht h ih => exact .cmd ht ih
 | arg ho hc ha h ih1 ih2 =>
  have := Rn.arg ho hc ha ih2
  simpa using this
theorem Rn.ok {ns : List S38} {ts : List S44} (h : Rn ns ts) : okL ns := by
 induction h with
 | nil => trivial
 | word ht h ih => exact ⟨⟨fun _ => rfl, trivial⟩, ih⟩
 | cmd ht h ih => exact ⟨⟨fun h => (by cases h), trivial⟩, ih⟩
 | arg ho hc ha h ih1 ih2 => exact ⟨⟨fun h => (by cases h), ⟨ih1, ih2.1.2⟩⟩, ih2.2⟩
theorem Rn.head {ns : List S38} {ts : List S44} (h : Rn ns ts) : ∀ {n l t us}, ns = n :: l → ts = t :: us → n.f0 = true → t.f0 = 1 ∧ n.f1 = t.f1 ∧ n.f3 = t.f2 := by
 induction h with
 | nil => intro n l t us h; cases h
 | word ht h ih => intro n l t us h1 h2 h3; injection h1 with h1 _; subst h1; cases h3
 | cmd ht h ih => intro n l t us h1 h2 h3; injection h1 with h1 _; injection h2 with h2 _; subst h1; subst h2; exact ⟨ht, rfl, rfl⟩
 | arg ho hc ha h ih1 ih2 => intro n l t us h1 h2 h3; injection h1 with h1 _; injection h2 with h2 _; subst h1; subst h2; obtain ⟨x1, x2, x3⟩ := ih2 rfl rfl rfl; exact ⟨x1, x2, x3⟩
theorem Lv.arg {m : Nat} {tx : ByteArray} {a : List S38} {al : List (List S38)} {p : Int} {ns : List S38} (h : Lv m (⟨true, tx, a :: al, p⟩ :: ns)) : ∃ m', m = m' + 1 ∧ Lv m' a ∧ Lv m (⟨true, tx, al, p⟩ :: ns) := by
 cases m with
 | zero => have := h ⟨true, tx, a :: al, p⟩ (by simp); cases this
 | succ m =>
  simp only [Lv, List.mem_cons, forall_eq_or_imp] at h
  exact ⟨m, rfl, h.1.1, by simp only [Lv, List.mem_cons, forall_eq_or_imp]; exact ⟨h.1.2, h.2⟩⟩
theorem Lv.tail {m : Nat} {n : S38} {ns : List S38} (h : Lv m (n :: ns)) : Lv m ns := by
 cases m <;> exact fun x hx => h x (by simp [hx])
theorem scan_Rn {ns : List S38} {ts : List S44} (h : Rn ns ts) : ∀ {m : Nat} {st : List Int} {rest : List S44} (b : Bool), Lv m ns → st.length + m ≤ 64 → NoOpen rest → scan st b (ts ++ rest) = scan st false rest := by
 induction h with
 | nil => intro m st rest b hl hs hr; exact scan_b hr _ _
 | word ht h ih => intro m st rest b hl hs hr; rw [List.cons_append, scan_word ht]; exact ih _ hl.tail hs hr
 | cmd ht h ih => intro m st rest b hl hs hr; rw [List.cons_append, scan_cmd ht]; exact ih _ hl.tail hs hr
 | @arg tx p al ns a t o c us ts ho hc ha h ih1 ih2 =>
  intro m st rest b hl hs hr
  obtain ⟨m', rfl, h1, h2⟩ := hl.arg
  obtain ⟨h3, _⟩ := h.head rfl rfl rfl
  have e := ih2 (rest := rest) b h2 hs hr
  rw [List.cons_append, scan_cmd h3] at e
  rw [List.cons_append, scan_cmd h3, List.cons_append, scan_open ho (by omega), List.append_assoc, List.cons_append, ih1 (m := m') false h1 (by simp; omega) (by show _ ≠ _; omega), scan_close hc]
  exact e
inductive Bal : List S44 → Prop
 | nil : Bal []
 | tok {t : S44} {ts : List S44} (h2 : t.f0 ≠ 2) (h3 : t.f0 ≠ 3) (h : Bal ts) : Bal (t :: ts)
 | grp {o c : S44} {ts us : List S44} (ho : o.f0 = 2) (hc : c.f0 = 3) (h : Bal ts) (k : Bal us) : Bal (o :: (ts ++ c :: us))
theorem Rn.bal {ns : List S38} {ts : List S44} (h : Rn ns ts) : Bal ts := by
 induction h with
 | nil => exact .nil
 | word ht h ih => exact .tok (by omega) (by omega) ih
 | cmd ht h ih => exact .tok (by omega) (by omega) ih
 | arg ho hc ha h ih1 ih2 =>
  obtain ⟨h3, _⟩ := h.head rfl rfl rfl
  generalize hx : _ :: _ = x at ih2
  cases ih2 with
  | nil => cases hx
  | tok _ _ hb => injection hx with h5 h6; subst h5; subst h6; exact .tok (by omega) (by omega) (.grp ho hc ih1 hb)
  | grp ho' _ _ _ => injection hx with h5 h6; subst h5; omega
theorem w64s {n : Nat} (h : n ≤ 4294967296) : wrap64 (((n + 1 : Nat) : Int) - 1) = (n : Int) := by unfold wrap64; omega
theorem get_at {pre : List S44} {t : S44} {r : List S44} : rd_T44 (pre ++ t :: r) (pre.length : Int) = t := by
 unfold rd_T44; simp [List.getD_eq_getElem?_getD]
theorem End_bal {ts : List S44} (h : Bal ts) : ∀ (pre rest : List S44) (d : Nat) (r : Int), 1 ≤ d → d + ts.length ≤ 4294967296 → (pre ++ (ts ++ rest)).length ≤ 4294967296 → Ev (fun k => variorumref06_End.l0 k (pre ++ (ts ++ rest)) (d : Int) ((pre.length + ts.length : Nat) : Int)) r → Ev (fun k => variorumref06_End.l0 k (pre ++ (ts ++ rest)) (d : Int) (pre.length : Int)) r := by
 induction h with
 | nil => intro pre rest d r hd hdl hl h; exact h
 | @tok t ts h2 h3 h ih =>
  intro pre rest d r hd hdl hl hr
  have e : pre ++ (t :: ts ++ rest) = (pre ++ [t]) ++ (ts ++ rest) := by simp
  have hlt : pre.length < (pre ++ (t :: ts ++ rest)).length := by simp
  have hg : rd_T44 (pre ++ (t :: ts ++ rest)) (pre.length : Int) = t := get_at
  have h1 := ih (pre ++ [t]) rest d r hd (by simp at hdl; omega) (by rw [← e]; exact hl) (by rw [← e]; simp only [List.length_append, List.length_cons, List.length_nil] at *; rw [show pre.length + (0 + 1) + ts.length = pre.length + (ts.length + 1) by omega]; exact hr)
  rw [← e] at h1
  refine Ev.step (f := fun k => variorumref06_End.j1 k (pre ++ (t :: ts ++ rest)) (d : Int) (pre.length : Int)) (fun k => ?_) (Ev.step (f := fun k => variorumref06_End.l0 k (pre ++ (t :: ts ++ rest)) (d : Int) ((pre ++ [t]).length : Int)) (fun k => ?_) h1)
  ·simp only [variorumref06_End.l0]
   rw [if_pos (by omega), if_pos (by omega), hg, if_neg h2]
  ·simp only [variorumref06_End.j1]
   rw [if_pos (by omega), if_pos (by omega), hg, if_neg h3, if_neg (by omega), w64 (by omega)]
   simp
 | @grp o c ts us ho hc h k ih1 ih2 =>
  intro pre rest d r hd hdl hl hr
  have e1 : pre ++ (o :: (ts ++ c :: us) ++ rest) = (pre ++ [o]) ++ (ts ++ (c :: us ++ rest)) := by simp
  have e2 : pre ++ (o :: (ts ++ c :: us) ++ rest) = (pre ++ o :: ts ++ [c]) ++ (us ++ rest) := by simp
  have hlt : pre.length < (pre ++ (o :: (ts ++ c :: us) ++ rest)).length := by simp
  have hg : rd_T44 (pre ++ (o :: (ts ++ c :: us) ++ rest)) (pre.length : Int) = o := get_at
  have hlt2 : (pre ++ o :: ts).length < (pre ++ (o :: (ts ++ c :: us) ++ rest)).length := by simp
  have hg2 : rd_T44 (pre ++ (o :: (ts ++ c :: us) ++ rest)) ((pre ++ o :: ts).length : Int) = c := by
   rw [show pre ++ (o :: (ts ++ c :: us) ++ rest) = (pre ++ o :: ts) ++ c :: (us ++ rest) by simp]; exact get_at
  have hdl' : d + (ts.length + us.length + 2) ≤ 4294967296 := by simp at hdl; omega
  have h2 := ih2 (pre ++ o :: ts ++ [c]) rest d r hd (by omega) (by rw [← e2]; exact hl) (by rw [← e2]; refine Ev.congr (fun k => ?_) hr; congr 1; simp; omega)
  rw [← e2] at h2
  have hL : (pre ++ (o :: (ts ++ c :: us) ++ rest)).length ≤ 4294967296 := hl
  have h1 := ih1 (pre ++ [o]) (c :: us ++ rest) (d + 1) r (by omega) (by omega) (by rw [← e1]; exact hl) (by
   rw [← e1]
   have hp : (((pre ++ [o]).length + ts.length : Nat) : Int) = ((pre ++ o :: ts).length : Int) := by simp; omega
   rw [hp]
   refine Ev.step (f := fun k => variorumref06_End.j1 k (pre ++ (o :: (ts ++ c :: us) ++ rest)) ((d + 1 : Nat) : Int) ((pre ++ o :: ts).length : Int)) (fun k => ?_) (Ev.step (f := fun k => variorumref06_End.l0 k (pre ++ (o :: (ts ++ c :: us) ++ rest)) (d : Int) ((pre ++ o :: ts ++ [c]).length : Int)) (fun k => ?_) h2)
   ·simp only [variorumref06_End.l0]
    rw [if_pos (by omega), if_pos (by omega), hg2, if_neg (by omega)]
   ·simp only [variorumref06_End.j1]
    rw [if_pos (by omega), if_pos (by omega), hg2, if_pos hc, w64s (by omega), if_neg (by omega), w64 (by omega)]
    congr 1; simp; omega)
  rw [← e1] at h1
  refine Ev.step (f := fun k => variorumref06_End.j1 k (pre ++ (o :: (ts ++ c :: us) ++ rest)) ((d + 1 : Nat) : Int) (pre.length : Int)) (fun k => ?_) (Ev.step (f := fun k => variorumref06_End.l0 k (pre ++ (o :: (ts ++ c :: us) ++ rest)) ((d + 1 : Nat) : Int) ((pre ++ [o]).length : Int)) (fun k => ?_) h1)
  ·simp only [variorumref06_End.l0]
   rw [if_pos (by omega), if_pos (by omega), hg, if_pos ho, w64 (by omega)]
  ·simp only [variorumref06_End.j1]
   rw [if_pos (by omega), if_pos (by omega), hg, if_neg (by omega), if_neg (by omega), w64 (by omega)]
   simp
end Go.Proofs.Ytmpglkeoppbpgaa.PTree
