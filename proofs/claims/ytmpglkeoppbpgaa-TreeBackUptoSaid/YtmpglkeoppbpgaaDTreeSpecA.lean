/- A part of the row's proof. -/
import Derived.Test.YtmpglkeoppbpgaaDOwnParse
namespace Go.Proofs.Ytmpglkeoppbpgaa.PTree
open Go.RowKit Go.Proofs.YtmpglkeoppbpgaaW.PrintWords Go.Proofs.YtmpglkeoppbpgaaW.PrintLast Go.Proofs.YtmpglkeoppbpgaaW.PrintMore
set_option linter.unusedVariables false
set_option linter.unusedSimpArgs false
inductive Rn : List S38 → List S44 → Prop
 | nil : Rn [] []
 | word {t : S44} {ns : List S38} {ts : List S44} (ht : t.f0 = 0) (h : Rn ns ts) : Rn (⟨false, t.f1, [], t.f2⟩ :: ns) (t :: ts)
 | cmd {t : S44} {ns : List S38} {ts : List S44} (ht : t.f0 = 1) (h : Rn ns ts) : Rn (⟨true, t.f1, [], t.f2⟩ :: ns) (t :: ts)
 | arg {tx : ByteArray} {p : Int} {al : List (List S38)} {ns a : List S38} {t o c : S44} {us ts : List S44} (ho : o.f0 = 2) (hc : c.f0 = 3) (ha : Rn a ts) (h : Rn (⟨true, tx, al, p⟩ :: ns) (t :: us)) : Rn (⟨true, tx, a :: al, p⟩ :: ns) (t :: o :: (ts ++ c :: us))
def Lv : Nat → List S38 → Prop
 | 0, l => ∀ n ∈ l, n.f2 = []
 | m + 1, l => ∀ n ∈ l, ∀ a ∈ n.f2, Lv m a
theorem Lv.nil (m : Nat) : Lv m [] := by cases m <;> simp [Lv]
theorem Lv.cons {m : Nat} {n : S38} {l : List S38} (h : Lv m [n]) (k : Lv m l) : Lv m (n :: l) := by
 cases m <;> simp only [Lv, List.mem_cons, forall_eq_or_imp, List.not_mem_nil, false_implies, implies_true, and_true] at * <;> exact ⟨h, k⟩
theorem Lv.append {m : Nat} {l r : List S38} (h : Lv m l) (k : Lv m r) : Lv m (l ++ r) := by
 cases m <;> simp only [Lv, List.mem_append] at * <;> intro n hn <;> rcases hn with hn | hn
 ·exact h n hn
 ·exact k n hn
 ·exact h n hn
 ·exact k n hn
theorem Lv.bare (m : Nat) (b : Bool) (t : ByteArray) (p : Int) : Lv m [⟨b, t, [], p⟩] := by cases m <;> simp [Lv]
theorem Lv.mono {m k : Nat} (h : m ≤ k) : ∀ {l : List S38}, Lv m l → Lv k l := by
 induction m generalizing k with
 | zero =>
  intro l hl
  cases k with
  | zero => exact hl
  | succ k => intro n hn a ha; rw [hl n hn] at ha; cases ha
 | succ m ih =>
  intro l hl
  cases k with
  | zero => omega
  | succ k => intro n hn a ha; exact ih (by omega) (hl n hn a ha)
def scan : List Int → Bool → List S44 → Int × Int
 | [], _, [] => (0, 0)
 | p :: _, _, [] => (62, p)
 | st, b, t :: ts =>
  if t.f0 = 2 then (if b = true then (if st.length = 64 then (63, t.f2) else scan (t.f2 :: st) false ts) else (60, t.f2))
  else if t.f0 = 3 then (match st with | [] => (61, t.f2) | _ :: st' => scan st' true ts)
  else scan st (t.f0 == 1) ts
def NoOpen : List S44 → Prop
 | [] => True
 | t :: _ => t.f0 ≠ 2
theorem scan_b {st : List Int} {r : List S44} (h : NoOpen r) (b b' : Bool) : scan st b r = scan st b' r := by
 cases r with
 | nil => cases st <;> rfl
 | cons t r =>
  have h : t.f0 ≠ 2 := h
  cases st <;> (rw [scan.eq_def]; conv => { rhs; rw [scan.eq_def] }; simp only; rw [if_neg h, if_neg h])
theorem scan_word {st : List Int} {b : Bool} {t : S44} {ts : List S44} (h : t.f0 = 0) : scan st b (t :: ts) = scan st false ts := by
 cases st <;> (rw [scan.eq_def]; simp only; rw [if_neg (by omega), if_neg (by omega), h]; rfl)
theorem scan_cmd {st : List Int} {b : Bool} {t : S44} {ts : List S44} (h : t.f0 = 1) : scan st b (t :: ts) = scan st true ts := by
 cases st <;> (rw [scan.eq_def]; simp only; rw [if_neg (by omega), if_neg (by omega), h]; rfl)
theorem scan_open {st : List Int} {t : S44} {ts : List S44} (h : t.f0 = 2) (hl : st.length < 64) : scan st true (t :: ts) = scan (t.f2 :: st) false ts := by
 cases st <;> (rw [scan.eq_def]; simp only; rw [if_pos h, if_pos trivial, if_neg (by omega)])
theorem scan_deep {st : List Int} {t : S44} {ts : List S44} (h : t.f0 = 2) (hl : st.length = 64) : scan st true (t :: ts) = (63, t.f2) := by
 cases st <;> (rw [scan.eq_def]; simp only; rw [if_pos h, if_pos trivial, if_pos hl])
theorem scan_bad {st : List Int} {t : S44} {ts : List S44} (h : t.f0 = 2) : scan st false (t :: ts) = (60, t.f2) := by
 cases st <;> (rw [scan.eq_def]; simp only; rw [if_pos h, if_neg (by simp)])
theorem scan_close {p : Int} {st : List Int} {b : Bool} {t : S44} {ts : List S44} (h : t.f0 = 3) : scan (p :: st) b (t :: ts) = scan st true ts := by
 rw [scan.eq_def]; simp only; rw [if_neg (by omega), if_pos h]
theorem scan_close0 {b : Bool} {t : S44} {ts : List S44} (h : t.f0 = 3) : scan [] b (t :: ts) = (61, t.f2) := by
 rw [scan.eq_def]; simp only; rw [if_neg (by omega), if_pos h]
theorem Rn.noOpen {ns : List S38} {ts r : List S44} (h : Rn ns ts) (hr : NoOpen r) : NoOpen (ts ++ r) := by
 have : ∀ {n : S38} {l : List S38} {t : S44} {us : List S44}, Rn (n :: l) (t :: us) → t.f0 = 0 ∨ t.f0 = 1 := by
  intro n l t us h
  generalize he : n :: l = ns at h
  generalize hu : t :: us = ts at h
  induction h generalizing n l us with
  | nil => cases he
  | word ht _ _ => injection hu with hu _; subst hu; exact .inl ht
  | cmd ht _ _ => injection hu with hu _; subst hu; exact .inr ht
  | arg ho hc ha h _ ih => injection hu with hu _; subst hu; exact ih rfl rfl
 cases h with
 | nil => exact hr
 | word ht h => show _ ≠ _; omega
 | cmd ht h => show _ ≠ _; omega
 | arg ho hc ha h => show _ ≠ _; have := this h; omega
def rl (toks : List S44) (p : Nat) : List S44 := (toks.drop p).filter isReal
theorem rl_end {toks : List S44} {p : Nat} (h : toks.length ≤ p) : rl toks p = [] := by unfold rl; rw [List.drop_eq_nil_of_le h]; rfl
theorem rl_yes {toks : List S44} {p : Nat} (h : p < toks.length) (hr : isReal toks[p] = true) : rl toks p = toks[p] :: rl toks (p + 1) := by
 unfold rl; rw [List.drop_eq_getElem_cons h, List.filter_cons, if_pos hr]
theorem rl_no {toks : List S44} {p : Nat} (h : p < toks.length) (hr : isReal toks[p] = false) : rl toks p = rl toks (p + 1) := by
 unfold rl; rw [List.drop_eq_getElem_cons h, List.filter_cons, if_neg (by simp [hr])]
theorem rl_len (toks : List S44) (p : Nat) : (rl toks p).length ≤ toks.length - p := by
 unfold rl; have := List.length_filter_le isReal (toks.drop p); rw [List.length_drop] at this; exact this
theorem pk_spec (toks : List S44) : ∀ (m p : Nat), toks.length - p = m → p ≤ toks.length → pkAt toks p ≤ toks.length ∧ rl toks (pkAt toks p) = rl toks p ∧ ((rl toks p = [] ∧ pkAt toks p = toks.length) ∨ ∃ h : pkAt toks p < toks.length, rl toks p = toks[pkAt toks p] :: rl toks (pkAt toks p + 1)) := by
 intro m
 induction m with
 | zero =>
  intro p hm hp
  have hl : toks.length ≤ p := by omega
  have he : p = toks.length := by omega
  rw [pkAt_end hl]
  exact ⟨hp, rfl, .inl ⟨rl_end hl, he⟩⟩
 | succ m ih =>
  intro p hm hp
  have hl : p < toks.length := by omega
  cases hr : isReal toks[p] with
  | true =>
   rw [pkAt_yes hl hr]
   exact ⟨hp, rfl, .inr ⟨hl, rl_yes hl hr⟩⟩
  | false =>
   rw [pkAt_no hl hr, rl_no hl hr]
   exact ih (p + 1) (by omega) (by omega)
theorem peek_none {toks : List S44} {p : Nat} {c a : Int} (hp : p ≤ toks.length) (h : rl toks p = []) :
  tree_parser_peek.f toks (p : Int) c a = some (0, ⟨#[]⟩, 0, false, (toks.length : Int), c, a) := by
 obtain ⟨_, _, h3⟩ := pk_spec toks _ p rfl hp
 rcases h3 with ⟨_, h3⟩ | ⟨hl, h3⟩
 ·unfold tree_parser_peek.f
  rw [if_pos (by omega), Int.toNat_natCast, h3, if_neg (by omega)]
 ·rw [h] at h3; cases h3
theorem peek_some {toks : List S44} {p : Nat} {c a : Int} {t : S44} {r : List S44} (hp : p ≤ toks.length) (h : rl toks p = t :: r) :
  ∃ q, q < toks.length ∧ rl toks q = t :: r ∧ rl toks (q + 1) = r ∧ tree_parser_peek.f toks (p : Int) c a = some (t.f0, t.f1, t.f2, true, (q : Int), c, a) := by
 obtain ⟨_, h2, h3⟩ := pk_spec toks _ p rfl hp
 rcases h3 with ⟨h3, _⟩ | ⟨hl, h3⟩
 ·rw [h] at h3; cases h3
 ·rw [h] at h3
  injection h3 with ht hr
  refine ⟨pkAt toks p, hl, h2.trans h, hr.symm, ?_⟩
  unfold tree_parser_peek.f
  rw [if_pos (by omega), Int.toNat_natCast, if_pos hl, rd_T44_eq hl, ht]
theorem isReal_of_rl {toks : List S44} {p : Nat} {t : S44} {r : List S44} (h : rl toks p = t :: r) : t.f0 = 0 ∨ t.f0 = 1 ∨ t.f0 = 2 ∨ t.f0 = 3 := by
 have : t ∈ rl toks p := by rw [h]; simp
 unfold rl at this
 have := (List.mem_filter.1 this).2
 unfold isReal at this
 simp at this
 omega
end Go.Proofs.Ytmpglkeoppbpgaa.PTree
