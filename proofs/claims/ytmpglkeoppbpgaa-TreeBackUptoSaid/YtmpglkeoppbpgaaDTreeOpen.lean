/- A part of the row's proof. -/
import Derived.Test.YtmpglkeoppbpgaaRows
import Derived.Test.YtmpglkeoppbpgaaDTreeSpecC
import Derived.OpenShut
import Derived.ChangeArms
import Derived.DataElems
namespace Go.Proofs.Ytmpglkeoppbpgaa.PTree
open Go.RowKit Go.Proofs.YtmpglkeoppbpgaaW.PrintWords Go.Proofs.YtmpglkeoppbpgaaW.PrintLast Go.Proofs.YtmpglkeoppbpgaaW.PrintMore
set_option linter.unusedVariables false
set_option linter.unusedSimpArgs false
def Opens {α : Type} (P : Program) (t : TypeId) (d : Kd α) (mz : α → Nat) (n : Nat) : Prop :=
 ∀ (H : Type) (enc : TypeId × Value → H) (W : World) (sp : Nat → Bool) (held : Bool) (cs : List Value) (x : DataW H × List MemPlace), DataW.trod enc P W 0 sp held n t cs = some x → ∃ a, d.K W a cs ∧ mz a ≤ Rows.uptoBulk x.1
theorem choose_list {α : Type} {q : Nat → α → Prop} : ∀ (n : Nat), (∀ i, i < n → ∃ a, q i a) → ∃ l : List α, l.length = n ∧ ∀ i a, l[i]? = some a → q i a
 | 0, _ => ⟨[], rfl, fun i a h => by simp at h⟩
 | n + 1, h => by
  obtain ⟨l, hl, hq⟩ := choose_list n (fun i hi => h i (by omega))
  obtain ⟨a, ha⟩ := h n (by omega)
  refine ⟨l ++ [a], by simp [hl], fun i b hb => ?_⟩
  rcases Nat.lt_or_ge i l.length with hi | hi
  ·rw [List.getElem?_append_left hi] at hb; exact hq i b hb
  ·rw [List.getElem?_append_right hi] at hb
   have : i - l.length = 0 := by
    rcases Nat.eq_zero_or_pos (i - l.length) with h0 | h0
    ·exact h0
    ·rw [List.getElem?_eq_none (by simp; omega)] at hb; cases hb
   rw [this] at hb
   simp only [List.getElem?_cons_zero, Option.some.injEq] at hb
   subst hb
   rw [show i = n by omega]
   exact ha
theorem opens_slice {α : Type} {P : Program} {t e e' : TypeId} {d : Kd α} {mz : α → Nat} {n : Nat} (ht : P.underlying t = some (.slice e)) (hc : P.cellsOf e = d.sz) (he : ∀ m, m < n → Opens P e d mz m) :
  Opens P t (Kd.slice e' d) (fun l => 1 + (l.map mz).sum) n := by
 intro H enc W sp held cs x h
 rcases DataW.trod_slice ht h with ⟨rfl, rfl⟩ | ⟨a, len, cap, elems, rest, m, rfl, rfl, rfl, hb, hl, hm, hlen, hel, hsp, hns⟩
 ·exact ⟨[], ⟨none, 0, rfl, Nat.le_refl _, rfl, by simp, fun h => absurd h (Nat.lt_irrefl 0)⟩, by simp [Rows.uptoBulk]⟩
 ·obtain ⟨l, hl1, hl2⟩ := choose_list (q := fun i b => ∃ c, W.cells? 0 (a.add (i * P.cellsOf e)) (P.cellsOf e) = some c ∧ d.K W b c ∧ ∃ y, elems[i]? = some y ∧ mz b ≤ Rows.uptoBulk y.1) len (fun i hi => by
   have h1 := hel i hi
   rw [List.getElem?_eq_getElem (by omega)] at h1
   obtain ⟨c, h2, h3⟩ := Option.bind_eq_some_iff.1 h1
   obtain ⟨b, h4, h5⟩ := he m (by omega) H enc W sp held c _ h3
   exact ⟨b, c, h2, h4, _, List.getElem?_eq_getElem (by omega), h5⟩)
  have hsum : ∀ (k : Nat), k ≤ len → ((l.take k).map mz).sum ≤ Rows.uptoBulkAll ((elems.take k).map (·.1)) := by
   intro k
   induction k with
   | zero => intro _; simp
   | succ k ih =>
    intro hk
    have h1 := ih (by omega)
    obtain ⟨c, _, _, y, h5, h6⟩ := hl2 k l[k] (List.getElem?_eq_getElem (by omega))
    rw [List.getElem?_eq_getElem (by omega)] at h5
    have h7 : elems[k] = y := Option.some.inj h5
    rw [List.take_succ_eq_append_getElem (by omega), List.take_succ_eq_append_getElem (by omega), List.map_append, List.sum_append, List.map_append, h7]
    have h8 : Rows.uptoBulkAll (List.map (·.1) (elems.take k) ++ List.map (·.1) [y]) = Rows.uptoBulkAll (List.map (·.1) (elems.take k)) + Rows.uptoBulk y.1 := by
     have : ∀ (p q : List (DataW H)), Rows.uptoBulkAll (p ++ q) = Rows.uptoBulkAll p + Rows.uptoBulkAll q := by
      intro p q
      induction p with
      | nil => simp [Rows.uptoBulkAll]
      | cons z p ihp => simp only [List.cons_append, Rows.uptoBulkAll, ihp]; omega
     rw [this]; simp [Rows.uptoBulkAll]
    rw [h8]
    simp only [List.map_cons, List.map_nil, List.sum_cons, List.sum_nil]
    omega
  have hs := hsum len (Nat.le_refl _)
  rw [List.take_of_length_le (by omega), List.take_of_length_le (by omega)] at hs
  have hmax : len ≤ 9223372036854775807 := by unfold maxLen at hm; omega
  refine ⟨l, ⟨some a, cap, by rw [hl1], by omega, rfl, by rw [hl1]; exact hmax, fun hp => ⟨a, rfl, fun j b hj => ?_⟩⟩, ?_⟩
  ·obtain ⟨c, h2, h4, _⟩ := hl2 j b hj
   obtain ⟨_, h6, h7⟩ := World.cells?_some h2
   refine ⟨c, by rw [h6, hc], h4, fun i u hu => ?_⟩
   have hi : i < c.length := by
    rcases Nat.lt_or_ge i c.length with hi | hi
    ·exact hi
    ·rw [List.getElem?_eq_none hi] at hu; cases hu
   have := h7 i (by omega)
   rw [hu, hc] at this
   rw [← this, Addr.add_add]
  ·simp only [Rows.uptoBulk]
   omega
theorem one_le {H : Type} (d : DataW H) : 1 ≤ Rows.uptoBulk d := by
 cases d with
 | lit l => cases l <;> simp [Rows.uptoBulk]
 | nil => simp [Rows.uptoBulk]
 | ptr d => simp [Rows.uptoBulk]
 | slice elems spare => simp [Rows.uptoBulk]
 | agg parts => simp [Rows.uptoBulk]
 | iface t d => simp [Rows.uptoBulk]
 | map entries => simp [Rows.uptoBulk]
 | held h => simp [Rows.uptoBulk]
theorem cells3 : Try.prog.cellsOf 3 = 1 := by kernel_rfl
theorem cells4 : Try.prog.cellsOf 4 = 1 := by kernel_rfl
theorem cells9 : Try.prog.cellsOf 9 = 1 := by kernel_rfl
theorem cells23 : Try.prog.cellsOf 23 = 1 := by kernel_rfl
theorem cells38 : Try.prog.cellsOf 38 = 4 := by kernel_rfl
theorem cells44 : Try.prog.cellsOf 44 = 3 := by kernel_rfl
theorem cells36 : Try.prog.cellsOf 36 = 1 := by kernel_rfl
theorem opens44 (n : Nat) : Opens Try.prog 44 k44 (fun _ => 1) n := by
 intro H enc W sp held cs x h
 obtain ⟨xs, m, rfl, rfl, hl, hn, hf⟩ := DataW.trod_struct Try.underlying44 h
 rw [cells44] at hl
 match cs, hl with
 | [c0, c1, c2], _ =>
  have f0 : DataW.trod enc Try.prog W 0 sp held m 3 (List.take (Try.prog.cellsOf 3) (List.drop 0 [c0, c1, c2])) = xs[0]? := hf 0 _ rfl
  have f1 : DataW.trod enc Try.prog W 0 sp held m 9 (List.take (Try.prog.cellsOf 9) (List.drop 1 [c0, c1, c2])) = xs[1]? := hf 1 _ rfl
  have f2 : DataW.trod enc Try.prog W 0 sp held m 3 (List.take (Try.prog.cellsOf 3) (List.drop 2 [c0, c1, c2])) = xs[2]? := hf 2 _ rfl
  simp only [cells3, cells9, List.drop_zero, List.drop_succ_cons, List.take_succ_cons, List.take_zero] at f0 f1 f2
  match xs, hn with
  | [x0, x1, x2], _ =>
   simp only [List.getElem?_cons_zero, List.getElem?_cons_succ] at f0 f1 f2
   obtain ⟨n0, e0, _⟩ := DataW.trod_int Try.underlying3 f0
   obtain ⟨s1, e1, _⟩ := DataW.trod_string Try.underlying9 f1
   obtain ⟨n2, e2, _⟩ := DataW.trod_int Try.underlying3 f2
   injection e0 with e0 _; injection e1 with e1 _; injection e2 with e2 _
   subst e0; subst e1; subst e2
   exact ⟨⟨n0, s1, n2⟩, k44_mk W _, one_le _⟩
def mzN (x : S38) : Nat := (szN x + 1) / 2
theorem mzL_le : ∀ (l : List S38), szL l ≤ 2 * (l.map mzN).sum
 | [] => by simp [szL]
 | x :: l => by have := mzL_le l; simp only [szL, List.map_cons, List.sum_cons]; unfold mzN at *; omega
theorem mzA_le : ∀ (al : List (List S38)), szA al ≤ 2 * (al.map (fun l => 1 + (l.map mzN).sum)).sum
 | [] => by simp [szA]
 | x :: l => by have := mzA_le l; have := mzL_le x; simp only [szA, List.map_cons, List.sum_cons]; omega
theorem opens38 (n : Nat) : Opens Try.prog 38 k38 mzN n := by
 induction n using Nat.strongRecOn with
 | _ n ih =>
 intro H enc W sp held cs x h
 obtain ⟨xs, m, rfl, rfl, hl, hn, hf⟩ := DataW.trod_struct Try.underlying38 h
 rw [cells38] at hl
 match cs, hl with
 | [c0, c1, c2, c3], _ =>
  have f0 : DataW.trod enc Try.prog W 0 sp held m 4 (List.take (Try.prog.cellsOf 4) (List.drop 0 [c0, c1, c2, c3])) = xs[0]? := hf 0 _ rfl
  have f1 : DataW.trod enc Try.prog W 0 sp held m 9 (List.take (Try.prog.cellsOf 9) (List.drop 1 [c0, c1, c2, c3])) = xs[1]? := hf 1 _ rfl
  have f2 : DataW.trod enc Try.prog W 0 sp held m 36 (List.take (Try.prog.cellsOf 36) (List.drop 2 [c0, c1, c2, c3])) = xs[2]? := hf 2 _ rfl
  have f3 : DataW.trod enc Try.prog W 0 sp held m 3 (List.take (Try.prog.cellsOf 3) (List.drop 3 [c0, c1, c2, c3])) = xs[3]? := hf 3 _ rfl
  simp only [cells3, cells4, cells9, cells36, List.drop_zero, List.drop_succ_cons, List.take_succ_cons, List.take_zero] at f0 f1 f2 f3
  match xs, hn with
  | [x0, x1, x2, x3], _ =>
   simp only [List.getElem?_cons_zero, List.getElem?_cons_succ] at f0 f1 f2 f3
   obtain ⟨n0, e0, _⟩ := DataW.trod_bool Try.underlying4 f0
   obtain ⟨s1, e1, _⟩ := DataW.trod_string Try.underlying9 f1
   obtain ⟨n3, e3, _⟩ := DataW.trod_int Try.underlying3 f3
   have hS : Opens Try.prog 36 (Kd.slice 23 (Kd.slice 38 k38)) (fun l => 1 + (l.map (fun l => 1 + (l.map mzN).sum)).sum) m :=
    opens_slice Try.underlying36 cells23 (fun m2 hm2 => opens_slice Try.underlying23 cells38 (fun m3 hm3 => ih m3 (by omega)))
   obtain ⟨al, ⟨A, c, e2, hc, hC⟩, hb⟩ := hS H enc W sp held _ _ f2
   injection e0 with e0 _; injection e1 with e1 _; injection e2 with e2 _; injection e3 with e3 _
   subst e0; subst e1; subst e2; subst e3
   refine ⟨⟨n0, s1, al, n3⟩, k38_mk W ⟨n0, s1, al, n3⟩ hc hC, ?_⟩
   have h0 := one_le x0.1
   have := mzA_le al
   simp only at hb
   simp only [mzN, szN_eq, List.map_cons, List.map_nil, Rows.uptoBulk, Rows.uptoBulkAll]
   omega
theorem opensT (n : Nat) : Opens Try.prog 22 (Kd.slice 44 k44) (fun l => 1 + (l.map (fun _ => 1)).sum) n := opens_slice Try.underlying22 cells44 (fun m _ => opens44 m)
theorem opensN (n : Nat) : Opens Try.prog 23 (Kd.slice 38 k38) (fun l => 1 + (l.map mzN).sum) n := opens_slice Try.underlying23 cells38 (fun m _ => opens38 m)
theorem sum_ones {α : Type} : ∀ l : List α, (l.map (fun _ => 1)).sum = l.length
 | [] => rfl
 | x :: l => by simp [sum_ones l]; omega
theorem open_tokens {H : Type} {enc : TypeId × Value → H} {W : World} {v : Value} {d : DataW H} {p : List MemPlace} {a : Option Addr} {len cap : Nat} (hv : v = .slice a len cap) (h : DataW.Trod enc Try.prog W 0 (fun _ => true) true 22 v d p) :
  ∃ l : List S44, len = l.length ∧ Kd.C k44 W a l.length l ∧ l.length ≤ cap ∧ l.length + 1 ≤ Rows.uptoBulk d := by
 obtain ⟨n, h⟩ := h
 obtain ⟨l, ⟨A, c, e, hc, hC⟩, hb⟩ := opensT n H enc W _ _ _ _ h
 subst hv
 simp [Value.cells] at e
 obtain ⟨rfl, rfl, rfl⟩ := e
 simp only [sum_ones] at hb
 exact ⟨l, rfl, hC, hc, by omega⟩
theorem open_nodes {H : Type} {enc : TypeId × Value → H} {W : World} {v : Value} {d : DataW H} {p : List MemPlace} {a : Option Addr} {len cap : Nat} (hv : v = .slice a len cap) (h : DataW.Trod enc Try.prog W 0 (fun _ => true) true 23 v d p) :
  ∃ l : List S38, len = l.length ∧ Kd.C k38 W a l.length l ∧ l.length ≤ cap ∧ szL l + 2 ≤ 2 * Rows.uptoBulk d := by
 obtain ⟨n, h⟩ := h
 obtain ⟨l, ⟨A, c, e, hc, hC⟩, hb⟩ := opensN n H enc W _ _ _ _ h
 subst hv
 simp [Value.cells] at e
 obtain ⟨rfl, rfl, rfl⟩ := e
 have := mzL_le l
 exact ⟨l, rfl, hC, hc, by simp only at hb; omega⟩
end Go.Proofs.Ytmpglkeoppbpgaa.PTree
