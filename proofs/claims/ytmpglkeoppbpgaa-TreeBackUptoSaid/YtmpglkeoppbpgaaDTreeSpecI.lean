/- A part of the row's proof. -/
import Derived.Test.YtmpglkeoppbpgaaDTreeSpecH
namespace Go.Proofs.Ytmpglkeoppbpgaa.PTree
open Go.RowKit Go.Proofs.YtmpglkeoppbpgaaW.PrintWords Go.Proofs.YtmpglkeoppbpgaaW.PrintLast Go.Proofs.YtmpglkeoppbpgaaW.PrintMore
set_option linter.unusedVariables false
set_option linter.unusedSimpArgs false
theorem walkL_cons {α : Type} (step : Int → S38 → List α) (d : Nat) (n : S38) (r : List S38) : walkL step d (n :: r) = walkL step d [n] ++ walkL step d r := walkL_append step d [n] r
theorem walkL_bare {α : Type} (step : Int → S38 → List α) (d : Nat) (t : ByteArray) (p : Int) : walkL step d [⟨true, t, [], p⟩] = step 1 ⟨true, t, [], p⟩ := by
 cases d with
 | zero => exact walkL_zero _ _ _ _
 | succ d => rw [walkL_comm]; simp
theorem flat_args {r : List S38} {ts : List S44} (t : ByteArray) (p : Int) (d : Nat) (n0 : S38) (h1 : n0.f1 = t) (h3 : n0.f3 = p) (hr : Rn r ts) : ∀ (al : List (List S38)), (∀ a ∈ al, Rn a (walkL ftok d a)) → Rn (⟨true, t, al, p⟩ :: r) (⟨1, t, p⟩ :: (al.flatMap (partL ftok d n0) ++ ts))
 | [], _ => Rn.cmd (t := ⟨1, t, p⟩) rfl hr
 | a :: al, h => by
  have h2 := Rn.arg (o := ⟨2, ⟨#[]⟩, p⟩) (c := ⟨3, ⟨#[]⟩, p⟩) rfl rfl (h a (by simp)) (flat_args t p d n0 h1 h3 hr al (fun x hx => h x (by simp [hx])))
  have e : (a :: al).flatMap (partL ftok d n0) ++ ts = (⟨2, ⟨#[]⟩, p⟩ : S44) :: (walkL ftok d a ++ (⟨3, ⟨#[]⟩, p⟩ : S44) :: (al.flatMap (partL ftok d n0) ++ ts)) := by
   simp [List.flatMap_cons, partL, ftok, tok, h3]
  rw [e]
  exact h2
theorem flat_Rn (m : Nat) : ∀ (d : Nat) (l : List S38), m ≤ d → Lv m l → okL l → Rn l (walkL ftok d l) := by
 induction m with
 | zero =>
  intro d l hd hl ho
  induction l with
  | nil => rw [walkL_nil]; exact .nil
  | cons n r ih =>
   have h2 : n.f2 = [] := hl n (by simp)
   have hr := ih (fun x hx => hl x (by simp [hx])) ho.2
   rw [walkL_cons]
   obtain ⟨b, t, al, p⟩ := n
   simp only at h2
   subst h2
   cases b
   ·rw [walkL_word]; exact Rn.word (t := ⟨0, t, p⟩) rfl hr
   ·rw [walkL_bare]; exact Rn.cmd (t := ⟨1, t, p⟩) rfl hr
 | succ m ihm =>
  intro d l hd hl ho
  obtain ⟨d, rfl⟩ : ∃ x, d = x + 1 := ⟨d - 1, by omega⟩
  induction l with
  | nil => rw [walkL_nil]; exact .nil
  | cons n r ih =>
   have h2 : ∀ a ∈ n.f2, Lv m a := hl n (by simp)
   have hr := ih (fun x hx => hl x (by simp [hx])) ho.2
   have hk := ((okL_iff _).1 ho) n (by simp)
   rw [walkL_cons]
   obtain ⟨b, t, al, p⟩ := n
   simp only at h2 hk
   cases b
   ·obtain rfl := hk.1 rfl
    rw [walkL_word]; exact Rn.word (t := ⟨0, t, p⟩) rfl hr
   ·rw [walkL_comm]
    exact flat_args t p d _ rfl rfl hr al (fun a ha => ihm d a (by omega) (h2 a ha) (hk.2 a ha))
theorem Rn.real {ns : List S38} {ts : List S44} (h : Rn ns ts) : ∀ t ∈ ts, isReal t = true := by
 induction h with
 | nil => simp
 | word ht _ ih => simp only [List.mem_cons, forall_eq_or_imp]; exact ⟨by simp [isReal, ht], ih⟩
 | cmd ht _ ih => simp only [List.mem_cons, forall_eq_or_imp]; exact ⟨by simp [isReal, ht], ih⟩
 | arg ho hc _ _ ih1 ih2 =>
  simp only [List.mem_cons, forall_eq_or_imp, List.mem_append] at ih2 ⊢
  refine ⟨ih2.1, by simp [isReal, ho], fun x hx => ?_⟩
  rcases hx with hx | hx | hx
  ·exact ih1 x hx
  ·subst hx; simp [isReal, hc]
  ·exact ih2.2 x hx
theorem Rn.rl {ns : List S38} {ts : List S44} (h : Rn ns ts) : rl ts 0 = ts := by
 unfold PTree.rl
 rw [List.drop_zero]
 exact List.filter_eq_self.2 h.real
def pl (t : S44) : S44 := ⟨t.f0, t.f1, 0⟩
def clr (t : S44) : S44 := if t.f0 > 1 then ⟨t.f0, ⟨#[]⟩, t.f2⟩ else t
theorem flat_back {ns : List S38} {ts : List S44} (h : Rn ns ts) : ∀ (m d : Nat), Lv m ns → m ≤ d → (walkL ftok d ns).map pl = (ts.map clr).map pl := by
 induction h with
 | nil => intro m d _ _; rw [walkL_nil]; rfl
 | @word t ns ts ht h ih =>
  intro m d hl hd
  have := ih m d hl.tail hd
  rw [walkL_cons, walkL_word, List.map_append, this]
  simp [ftok, tok, pl, clr, ht]
 | @cmd t ns ts ht h ih =>
  intro m d hl hd
  have := ih m d hl.tail hd
  rw [walkL_cons, walkL_bare, List.map_append, this]
  simp [ftok, tok, pl, clr, ht]
 | @arg tx p al ns a t o c us ts ho hc ha h ih1 ih2 =>
  intro m d hl hd
  obtain ⟨m', rfl, hv, hv2⟩ := hl.arg
  obtain ⟨d, rfl⟩ : ∃ x, d = x + 1 := ⟨d - 1, by omega⟩
  have h1 := ih1 m' d hv (by omega)
  have h2 := ih2 (m' + 1) (d + 1) hv2 hd
  rw [walkL_cons, walkL_comm] at h2 ⊢
  have e : partL ftok d ⟨true, tx, a :: al, p⟩ = partL ftok d ⟨true, tx, al, p⟩ := rfl
  have e1 : ftok 1 ⟨true, tx, a :: al, p⟩ = ftok 1 ⟨true, tx, al, p⟩ := rfl
  rw [e, e1, List.flatMap_cons]
  generalize al.flatMap (partL ftok d ⟨true, tx, al, p⟩) = fm at h2 ⊢
  generalize walkL ftok (d + 1) ns = wn at h2 ⊢
  simp only [ftok, List.singleton_append, List.cons_append, List.nil_append, List.map_cons, List.map_append, List.cons.injEq, partL, h1] at h2 ⊢
  obtain ⟨h2, h3⟩ := h2
  refine ⟨h2, by simp [tok, pl, clr, ho], ?_⟩
  rw [List.append_assoc, List.append_assoc, h3]
  simp [tok, pl, clr, hc]
theorem plain_l0 (x0 : List S44) (hl : x0.length ≤ 4194304) : ∀ (m p : Nat) (out : List S44), x0.length - p = m → p ≤ x0.length → out.length + m ≤ 4194304 → Ev (fun k => variorumref05_Plain.l0 k x0 out (p : Int)) (out ++ (x0.drop p).map pl) := by
 intro m
 induction m with
 | zero =>
  intro p out hm hp ho
  rw [List.drop_eq_nil_of_le (by omega), List.map_nil, List.append_nil]
  refine Ev.step (f := fun _ => some out) (fun k => ?_) (Ev.now _)
  simp only [variorumref05_Plain.l0]
  rw [if_neg (by omega)]
 | succ m ih =>
  intro p out hm hp ho
  have hp2 : p < x0.length := by omega
  have := ih (p + 1) (out ++ [pl x0[p]]) (by omega) (by omega) (by simp; omega)
  rw [List.drop_eq_getElem_cons hp2, List.map_cons, show out ++ pl x0[p] :: List.map pl (x0.drop (p + 1)) = (out ++ [pl x0[p]]) ++ List.map pl (x0.drop (p + 1)) by simp]
  refine Ev.step (fun k => ?_) this
  simp only [variorumref05_Plain.l0]
  rw [if_pos (by omega), if_pos (by omega), if_pos (by omega), rd_T44_eq hp2, w64 (by omega)]
  rfl
theorem plain_ev (x0 : List S44) (hl : x0.length ≤ 4194304) : Ev (fun k => variorumref05_Plain.f k x0) (x0.map pl) := by
 have := plain_l0 x0 hl _ 0 [] rfl (by omega) (by simp; omega)
 rw [List.drop_zero, List.nil_append] at this
 exact this
theorem same5_l0 (l : List S44) (hl : l.length ≤ 4294967296) : ∀ (m p : Nat), l.length - p = m → p ≤ l.length → Ev (fun k => variorumref05_Same.l0 k l l (p : Int)) true := by
 intro m
 induction m with
 | zero =>
  intro p hm hp
  refine Ev.step (f := fun _ => some true) (fun k => ?_) (Ev.now _)
  simp only [variorumref05_Same.l0]
  rw [if_neg (by omega)]
 | succ m ih =>
  intro p hm hp
  refine Ev.step (fun k => ?_) (ih (p + 1) (by omega) (by omega))
  simp only [variorumref05_Same.l0]
  rw [if_pos (by omega), if_pos (by omega), if_pos (by omega), if_neg (by simp), w64 (by omega)]
theorem same5_refl (l : List S44) (hl : l.length ≤ 4294967296) : Ev (fun k => variorumref05_Same.f k l l) true := by
 refine Ev.congr (fun k => ?_) (same5_l0 l hl _ 0 rfl (by omega))
 unfold variorumref05_Same.f
 rw [if_pos rfl]; rfl
theorem back_l0 (b : List S38) (real : List S44) (hl : real.length ≤ 4194304) (hlast : Ev (fun k => variorumlaw06_TreeBack.l0 k b (real.map clr) (real.length : Int)) true) : ∀ (m p : Nat), real.length - p = m → p ≤ real.length → Ev (fun k => variorumlaw06_TreeBack.l0 k b ((real.take p).map clr ++ real.drop p) (p : Int)) true := by
 intro m
 induction m with
 | zero =>
  intro p hm hp
  obtain rfl : p = real.length := by omega
  rw [List.take_length, List.drop_length, List.append_nil]
  exact hlast
 | succ m ih =>
  intro p hm hp
  have hp2 : p < real.length := by omega
  have := ih (p + 1) (by omega) (by omega)
  have hlen : ((real.take p).map clr).length = p := by simp; omega
  have hlen2 : (((real.take p).map clr ++ real.drop p).length : Int) = real.length := by simp; omega
  have hg : rd_T44 ((real.take p).map clr ++ real.drop p) (p : Int) = real[p] := by
   rw [List.drop_eq_getElem_cons hp2]
   have := get_at (pre := (real.take p).map clr) (t := real[p]) (r := real.drop (p + 1))
   rwa [hlen] at this
  have e : (real.take (p + 1)).map clr ++ real.drop (p + 1) = ((real.take p).map clr ++ [clr real[p]]) ++ real.drop (p + 1) := by
   rw [take_get real p hp2, List.map_append]; rfl
  have e2 : (real.take p).map clr ++ real.drop p = (real.take p).map clr ++ real[p] :: real.drop (p + 1) := by rw [← List.drop_eq_getElem_cons hp2]
  refine Ev.step (fun k => ?_) this
  simp only [variorumlaw06_TreeBack.l0]
  rw [hlen2, if_pos (by omega), if_pos (by omega), hg, w64 (by omega), e]
  by_cases h1 : real[p].f0 > 1
  ·rw [if_pos h1]
   congr 1
   rw [e2, Int.toNat_natCast, List.set_append_right _ _ (by omega), hlen, Nat.sub_self, List.set_cons_zero]
   simp [clr, h1]
  ·rw [if_neg h1]
   congr 1
   rw [e2]
   simp [clr, h1]
theorem TreeBack_pure (l : List S38) (t : List S44) (ha : szL l ≤ 4194304) (ht : t.length ≤ 4194304) : Ev (fun k => variorumlaw06_TreeBack.f k l t) true := by
 obtain ⟨m1, hM1, hi1⟩ := tree_May_ev l (by omega)
 have hfl := walkL_le ftok (fun k n => by simp [ftok]) 100 l
 obtain ⟨ns, c, a, hE, hs, h0⟩ := parse_ev (walkL ftok 100 l) (by omega)
 have hj : Ev (fun k => variorumlaw06_TreeBack.j0 k t false) true := by
  obtain ⟨ns, c, a, hE, hs, h0⟩ := parse_ev t (by omega)
  have hr := rl_len t 0
  refine Ev.step (f := fun k => (tree_Parse.f k t).bind fun b => (if b.2.1 = 0 then ((variorumref06_Real.f k t).bind fun t460 => (variorumlaw06_TreeBack.l0 k b.1 t460 0)) else (some ((b.1.length : Int) == 0)))) (fun k => by simp only [variorumlaw06_TreeBack.j0]; rw [if_neg (by simp)]) (Ev.bind hE ?_)
  by_cases hc : c = 0
  ·obtain ⟨_, h1, h2⟩ := h0 hc
   refine Ev.congr (f := fun k => (variorumref06_Real.f k t).bind fun t460 => (variorumlaw06_TreeBack.l0 k ns t460 0)) (fun k => by simp [hc]) (Ev.bind (real_ev t (by omega)) ?_)
   obtain ⟨m2, hM2, hi2⟩ := tree_May_ev ns (by rw [h1.sz]; omega)
   have hm2 : m2 = true := hi2.2 ⟨h2, h1.ok⟩
   subst hm2
   have hzn : szL ns ≤ 4194304 := by rw [h1.sz]; omega
   have hfn := walkL_le ftok (fun k n => by simp [ftok]) 100 ns
   have hlast : Ev (fun k => variorumlaw06_TreeBack.l0 k ns ((rl t 0).map clr) ((rl t 0).length : Int)) true := by
    refine Ev.step (f := fun k => (tree_May.f k ns).bind fun t465 => (if t465 = true then ((tree_Flat.f k ns).bind fun t466 => ((variorumref05_Plain.f k t466).bind fun t469 => ((variorumref05_Plain.f k ((rl t 0).map clr)).bind fun t472 => ((variorumref05_Same.f k t469 t472).bind fun t475 => (some t475))))) else (some false))) (fun k => ?_) (Ev.bind hM2 ?_)
    ·simp only [variorumlaw06_TreeBack.l0]
     rw [if_neg (by simp)]
    ·refine Ev.congr (f := fun k => (tree_Flat.f k ns).bind fun t466 => _) (fun k => by rw [if_pos rfl]) (Ev.bind (flat_ev (by omega)) ?_)
     refine Ev.bind (plain_ev _ (by omega)) (Ev.bind (plain_ev _ (by simp; omega)) ?_)
     rw [flat_back h1 64 100 h2 (by omega)]
     exact Ev.bind (same5_refl _ (by simp; omega)) (Ev.now _)
   have := back_l0 ns (rl t 0) (by omega) hlast _ 0 rfl (by omega)
   simpa using this
  ·exact Ev.congr (f := fun _ => some true) (fun k => by simp [hc]) (Ev.now _)
 refine Ev.congr (f := fun k => (tree_Flat.f k l).bind fun t442 => ((tree_Parse.f k t442).bind fun b => ((variorumlaw06_fixed.f k).bind fun t451 => (if t451 = true then ((tree_May.f k l).bind fun t452 => (if t452 = true then (if b.2.1 = 0 then ((tree_Same.f k b.1 l).bind fun t453 => (variorumlaw06_TreeBack.j0 k t (!t453))) else (variorumlaw06_TreeBack.j0 k t true)) else (variorumlaw06_TreeBack.j0 k t false))) else (variorumlaw06_TreeBack.j0 k t true))))) (fun k => rfl) (Ev.bind (flat_ev (by omega)) (Ev.bind hE (Ev.bind fixed_ev ?_)))
 refine Ev.congr (f := fun k => (tree_May.f k l).bind fun t452 => _) (fun k => by rw [if_pos rfl]) (Ev.bind hM1 ?_)
 cases m1 with
 | false => exact Ev.congr (fun k => by rw [if_neg (by simp)]) hj
 | true =>
  obtain ⟨v, o⟩ := hi1.1 rfl
  have hRn := flat_Rn 64 100 l (by omega) v o
  have hP := parse_of (walkL ftok 100 l) (by omega) (by rw [hRn.rl]; exact hRn) v
  have hu := Ev.unique hE hP
  rw [hu]
  refine Ev.congr (f := fun k => (tree_Same.f k l l).bind fun t453 => (variorumlaw06_TreeBack.j0 k t (!t453))) (fun k => by simp) (Ev.bind (tree_Same_refl l (by omega)) ?_)
  exact Ev.congr (fun k => by rfl) hj
end Go.Proofs.Ytmpglkeoppbpgaa.PTree
