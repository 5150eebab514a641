/- A part of the row's proof. -/
import Derived.Test.YtmpglkeoppbpgaaBPTreex3
import Derived.RegionTactic
import Derived.BigRegion
namespace Go.Proofs.Ytmpglkeoppbpgaa.PTree
open Go.RowKit Go.Proofs.YtmpglkeoppbpgaaW.PrintWords Go.Proofs.YtmpglkeoppbpgaaW.PrintLast Go.Proofs.YtmpglkeoppbpgaaW.PrintMore
set_option linter.unusedVariables false
set_option linter.unusedSimpArgs false
def KeepT (T : List Nat) (W W' : World) : Prop := W.heap.size ≤ W'.heap.size ∧ ∀ (k : Nat) (cs : Array Value) (t : Nat), W.heap[k]? = some (Obj.cells cs t (0, 0)) → t ∉ T → W'.heap[k]? = some (Obj.cells cs t (0, 0))
theorem KeepT.refl (T : List Nat) (W : World) : KeepT T W W := ⟨Nat.le_refl _, fun _ _ _ h _ => h⟩
theorem KeepT.trans {T : List Nat} {a b c : World} (h : KeepT T a b) (k : KeepT T b c) : KeepT T a c := ⟨Nat.le_trans h.1 k.1, fun i cs t hi ht => k.2 i cs t (h.2 i cs t hi ht) ht⟩
theorem KeepT.below {T : List Nat} {a b : World} (h : Below a.heap.size a b) : KeepT T a b := ⟨h.size, fun i cs t hi _ => (h.block i (blk_lt hi)).trans hi⟩
theorem KeepT.alloc {T : List Nat} {a b : World} (h : KeepT T a b) (o : Obj) : KeepT T a (b.alloc o) := h.trans (KeepT.below (below_alloc (Below.refl _ _) _))
theorem KeepT.set {T : List Nat} {a b : World} (h : KeepT T a b) {p : Addr} {cs : Array Value} {t : Nat} (hb : b.heap[p.block]? = some (.cells cs t (0, 0))) (ht : t ∈ T) (u : Value) : KeepT T a (b.setCell p u) :=
 h.trans ⟨by simp [World.setCell], fun k cs' t' hk ht' => (Below.heap_setCell b p u k (fun e => by subst e; rw [hb] at hk; injection hk with hk; injection hk with _ hk; exact ht' (hk ▸ ht))).trans hk⟩
theorem KeepT.grown {T : List Nat} {a b c : World} (h : KeepT T a b) {row : Option Nat} (hg : b.grownBy c row) (hr : ∀ (k : Nat) (cs : Array Value) (t : Nat), b.heap[k]? = some (Obj.cells cs t (0, 0)) → t ∉ T → some k ≠ row) : KeepT T a c :=
 h.trans ⟨hg.size, fun k cs t hk ht => (hg.block k (blk_lt hk) (hr k cs t hk ht)).trans hk⟩
def Acc {α : Type} (d : Kd α) (e ty : Nat) (w0 W : World) (gc : Nat) (xs : List α) : Prop := ∃ v, W.heap[gc]? = some (.cells #[v] ty (0, 0)) ∧ w0.heap.size ≤ gc ∧ d.R e W w0.heap.size (fun k => k ≠ gc) v xs
def tok (kind : Int) (n : S38) : S44 := ⟨kind, if kind = 0 ∨ kind = 1 then n.f1 else ⟨#[]⟩, n.f3⟩
def wtok (kind : Int) (n : S38) : List ByteArray := if kind = 0 then [n.f1] else []
set_option maxHeartbeats 800000 in
set_option maxRecDepth 100000 in
theorem words1_calls (kind : Int) (n : S38) (A2 : Option Addr) (c2 gc : Nat) (w0 W : World) (xs : List ByteArray) (hA : Acc Kd.string 9 34 w0 W gc xs) (hB : Below w0.heap.size w0 W) (hl : xs.length + 1 ≤ 4398046511104) (hk : kind = 0 ∨ kind = 1 ∨ kind = 2 ∨ kind = 3) :
  Calls Try.prog 28 #[.int .i64 kind, .agg #[.bool n.f0, .string n.f1, .slice A2 n.f2.length c2, .int .i64 n.f3], .pointer (some ⟨gc, 0, none⟩)] W fun e W' => e = .returned (.tuple #[]) ∧ Acc Kd.string 9 34 w0 W' gc (xs ++ wtok kind n) ∧ Below w0.heap.size w0 W' ∧ KeepT [9, 34] W W' := by
 have hu38 := Try.underlying38
 obtain ⟨v, hv, hg, hr⟩ := hA
 have hc := (blk_cell hv 0).trans (rfl : _ = some v)
 have hf := blk_frozen hv 0
 have hlt := blk_lt hv
 have HV := Aside0.mk hv
 have HR := Aside0.mk hr
 have HB := Aside0.mk hB
 have HL := Aside0.mk hl
 clear hv hr hB hl
 rcases hk with rfl | rfl | rfl | rfl
 ·go_enter Try.func28, Try.ntmps28
  go_wp2_with (at_builtin; refine Kd.R_append Kd.string w0.heap.size rfl (.tmp 7) (.tmp 10) 34 9 (.string ⟨#[]⟩) 16 rfl Try.underlying34 info9 rfl (by decide) (by omega) v xs n.f1 [.string n.f1] (fun k => k ≠ gc) (fun k_ => (k_ ≠ gc) ∧ some k_ ≠ v.ownBlock) rfl (by first | (go_simp; done) | (go_simp; rfl)) rfl (fun _ hk => hk) ?aF (Kd.R_alloc HR.out _) (Below.refl _ _) ?aS (by have := HL.out; omega) ?_; (case aF => intro k hk; simp at hk; omega); (case aS => have := HB.out.size; simp; omega); intro v1 w1 ho hb hg hat; (obtain ⟨A1, cc1, rfl⟩ := Kd.R_slice ho); (have hne : some gc ≠ v.ownBlock := fun e => HR.out.1 gc e.symm rfl); (have HV1 := (hg.block gc (by simp; omega) hne).trans (blk_alloc HV.out _)); (have hc1 := (blk_cell HV1 0).trans (rfl : _ = some v)); (have hf1 := blk_frozen HV1 0); (have HV1 := Aside0.mk HV1); (have HO := Aside0.mk ho); (have HB1 := Aside0.mk hb); (have HG1 := Aside0.mk hg); clear ho hb hg hat hc hf)
  go_end0
  exact ⟨rfl, ⟨_, by simpa using blk_set HV1.out 0 (Value.slice A1 _ cc1), hg, Kd.R_far (p := ⟨gc, 0, none⟩) HO.out (fun _ hk => hk) _⟩, below_set ((below_alloc HB.out _).trans HB1.out) hg,
   ((KeepT.refl _ _).alloc _).grown HG1.out (fun k cs t hk ht => Kd.R_ne (Kd.R_alloc HR.out _) hk (fun e => ht (by simp [← e]))) |>.set HV1.out (by simp) _⟩
 all_goals
  go_enter Try.func28, Try.ntmps28
  go_wp2
  go_end0
  exact ⟨rfl, ⟨v, blk_alloc HV.out _, hg, by simpa [wtok] using Kd.R_alloc HR.out _⟩, below_alloc HB.out _, (KeepT.refl _ _).alloc _⟩
def walkL {α : Type} (step : Int → S38 → List α) : Nat → List S38 → List α
 | 0, l => l.flatMap fun n => if n.f0 = true then step 1 n else step 0 n
 | d + 1, l => l.flatMap fun n => if n.f0 = true then step 1 n ++ n.f2.flatMap (fun a => step 2 n ++ (walkL step d a ++ step 3 n)) else step 0 n
def partL {α : Type} (step : Int → S38 → List α) (d : Nat) (n : S38) (a : List S38) : List α := step 2 n ++ (walkL step d a ++ step 3 n)
theorem partL_len {α : Type} (step : Int → S38 → List α) (d : Nat) (n : S38) (a : List S38) : (partL step d n a).length = (step 2 n).length + ((walkL step d a).length + (step 3 n).length) := by unfold partL; rw [List.length_append, List.length_append]
theorem walkL_append {α : Type} (step : Int → S38 → List α) (d : Nat) (l m : List S38) : walkL step d (l ++ m) = walkL step d l ++ walkL step d m := by cases d <;> simp [walkL]
theorem walkL_nil {α : Type} (step : Int → S38 → List α) (d : Nat) : walkL step d [] = [] := by cases d <;> simp [walkL]
theorem take_get {α : Type} (l : List α) (i : Nat) (h : i < l.length) : l.take (i + 1) = l.take i ++ [l[i]] := by rw [List.take_succ_eq_append_getElem h]
theorem split_at {α : Type} (l : List α) (i : Nat) (h : i < l.length) : l = l.take i ++ ([l[i]] ++ l.drop (i + 1)) := by
 conv => lhs; rw [← List.take_append_drop i l]
 rw [List.drop_eq_getElem_cons h]; rfl
theorem walkL_split {α : Type} (step : Int → S38 → List α) (d : Nat) (l : List S38) (i : Nat) (h : i < l.length) : (walkL step d l).length = (walkL step d (l.take i)).length + ((walkL step d [l[i]]).length + (walkL step d (l.drop (i + 1))).length) := by
 conv => lhs; rw [split_at l i h]
 rw [walkL_append, walkL_append, List.length_append, List.length_append]
theorem walkL_word {α : Type} (step : Int → S38 → List α) (d : Nat) (t : ByteArray) (ags : List (List S38)) (p : Int) : walkL step d [⟨false, t, ags, p⟩] = step 0 ⟨false, t, ags, p⟩ := by cases d <;> simp [walkL]
theorem walkL_zero {α : Type} (step : Int → S38 → List α) (t : ByteArray) (ags : List (List S38)) (p : Int) : walkL step 0 [⟨true, t, ags, p⟩] = step 1 ⟨true, t, ags, p⟩ := by simp [walkL]
theorem walkL_comm {α : Type} (step : Int → S38 → List α) (d : Nat) (t : ByteArray) (ags : List (List S38)) (p : Int) : walkL step (d + 1) [⟨true, t, ags, p⟩] = step 1 ⟨true, t, ags, p⟩ ++ ags.flatMap (partL step d ⟨true, t, ags, p⟩) := by
 simp only [walkL, List.flatMap_cons, List.flatMap_nil, List.append_nil, if_true]; rfl
theorem part_split {α : Type} (g : List S38 → List α) (ags : List (List S38)) (j : Nat) (h : j < ags.length) : (ags.flatMap g).length = ((ags.take j).flatMap g).length + ((g ags[j]).length + ((ags.drop (j + 1)).flatMap g).length) := by
 conv => lhs; rw [split_at ags j h]
 rw [List.flatMap_append, List.flatMap_append, List.length_append, List.length_append]; simp
theorem part_take {α : Type} (g : List S38 → List α) (ags : List (List S38)) (j : Nat) (h : j < ags.length) : (ags.take (j + 1)).flatMap g = (ags.take j).flatMap g ++ g ags[j] := by rw [take_get ags j h, List.flatMap_append]; simp
theorem rd_T38_eq {l : List S38} {i : Nat} (h : i < l.length) : rd_T38 l (i : Int) = l[i] := by
 unfold rd_T38; simp [List.getD_eq_getElem?_getD, h]
theorem rd_L6_eq {l : List (List S38)} {i : Nat} (h : i < l.length) : rd_L5 l (i : Int) = l[i] := by
 unfold rd_L5; simp [List.getD_eq_getElem?_getD, h]
theorem Acc.alloc {α : Type} {d : Kd α} {e ty : Nat} {w0 W : World} {gc : Nat} {xs : List α} (h : Acc d e ty w0 W gc xs) (o : Obj) : Acc d e ty w0 (W.alloc o) gc xs := by
 obtain ⟨v, hv, hg, hr⟩ := h
 exact ⟨v, blk_alloc hv o, hg, Kd.R_alloc hr o⟩
def ftok (kind : Int) (n : S38) : List S44 := [tok kind n]
theorem wtok0 (n : S38) : wtok 0 n = [n.f1] := rfl
theorem wtok1 (n : S38) : wtok 1 n = [] := rfl
theorem wtok2 (n : S38) : wtok 2 n = [] := rfl
theorem wtok3 (n : S38) : wtok 3 n = [] := rfl
set_option maxHeartbeats 1600000 in
set_option maxRecDepth 100000 in
theorem walk_words (w0 : World) (gc : Nat) (d : Nat) : ∀ (A0 : Option Addr) (c0 : Nat) (l0 : List S38) (W : World) (xs : List ByteArray), d ≤ 100 → Acc Kd.string 9 34 w0 W gc xs → Below w0.heap.size w0 W → Kd.C k38 w0 A0 l0.length l0 → l0.length ≤ c0 → xs.length + (walkL wtok d l0).length < 4398046511104 →
  Calls Try.prog 27 #[.slice A0 l0.length c0, .int .i64 (d : Int), .func (.func 28) #[] #[.pointer (some ⟨gc, 0, none⟩)]] W fun e W' => e = .returned (.tuple #[]) ∧ Acc Kd.string 9 34 w0 W' gc (xs ++ walkL wtok d l0) ∧ Below w0.heap.size w0 W' ∧ KeepT [9, 34] W W' := by
 induction d with
 | zero =>
  intro A0 c0 l0 W xs hd hA hB hC hc hl
  have hu38 := Try.underlying38
  have HA := Aside0.mk hA
  have HB := Aside0.mk hB
  have HC := Aside0.mk hC
  have HL := Aside0.mk hl
  have HMX := Aside0.mk hC.2.1
  clear hA hB hC hl
  go_enter Try.func27, Try.ntmps27
  go_wp2
  go_loopg [12] l0.length (fun kq v12 w' => ∃ i : Nat, v12 = .int .i64 (i : Int) ∧ Aside0 (kq + i = l0.length) ∧ Aside0 (Acc Kd.string 9 34 w0 w' gc (xs ++ walkL wtok 0 (l0.take i))) ∧ Aside0 (Below w0.heap.size w0 w') ∧ Aside0 (KeepT [9, 34] W w'))
  case atStart => exact ⟨0, rfl, ⟨by omega⟩, ⟨by simpa [walkL_nil] using HA.out⟩, HB, ⟨KeepT.refl _ _⟩⟩
  case round =>
   obtain ⟨i, rfl, HI, HA, HB, HK⟩ := hrel
   by_cases hlt : i < l0.length
   ·have hltb : decide (i < l0.length) = true := decide_eq_true hlt
    obtain ⟨ad, A2, c2, hA0, hx0, hx1, hx2, hx3, hl2, hC2⟩ := at_T38 HC.out (i : Int) (by omega) (by omega)
    cases hA0
    replace hx0 := (HB.out.cell (World.block_lt_of_cell? w0 _ hx0)).trans hx0
    replace hx1 := (HB.out.cell (World.block_lt_of_cell? w0 _ hx1)).trans hx1
    replace hx2 := (HB.out.cell (World.block_lt_of_cell? w0 _ hx2)).trans hx2
    replace hx3 := (HB.out.cell (World.block_lt_of_cell? w0 _ hx3)).trans hx3
    have hrd := Aside0.mk (rd_T38_eq hlt)
    simp only [Int.toNat_natCast] at hx0 hx1 hx2 hx3
    have HSP := Aside0.mk (walkL_split wtok 0 l0 i hlt)
    have HTK := Aside0.mk (take_get l0 i hlt)
    clear hl2 hC2
    generalize hn : rd_T38 l0 (i : Int) = n at hx0 hx1 hx2 hx3
    have HN := Aside0.mk (hn.symm.trans hrd.out)
    clear hn hrd
    obtain ⟨b, tx, ags, p⟩ := n
    dsimp only at hx0 hx1 hx2 hx3
    have HW := Aside0.mk (show wrap64 ((i : Int) + 1) = ((i + 1 : Nat) : Int) by have := HMX.out; unfold wrap64; omega)
    cases b
    ·have HQ := Aside0.mk (walkL_word wtok 0 tx ags p)
     go_wp2_with (fail)
     refine (words1_calls 0 ⟨false, tx, ags, p⟩ A2 c2 gc w0 _ _ (HA.out.alloc _) (below_alloc HB.out _) ?_ (by simp)).mono ?_
     ·have h1 := HSP.out
      have h2 := HL.out
      rw [← HN.out, HQ.out] at h1
      simp only [List.length_append] at h1 ⊢
      simp only [wtok0, wtok1, wtok2, wtok3, List.length_cons, List.length_nil] at h1
      omega
     rintro e W2 ⟨rfl, hA2, hB2, hK2⟩
     have HA2 := Aside0.mk hA2
     have HB2 := Aside0.mk hB2
     have HK2 := Aside0.mk (HK.out.trans (((KeepT.refl _ _).alloc _).trans hK2))
     clear hA2 hB2 hK2
     go_wp2
     go_roundg (gk - 1)
     case measure => have := HI.out; omega
     case rel => exact ⟨i + 1, by rw [HW.out], ⟨by have := HI.out; omega⟩, ⟨by rw [HTK.out, walkL_append, ← HN.out, HQ.out, ← List.append_assoc]; exact HA2.out⟩, HB2, HK2⟩
    ·have HQ := Aside0.mk (walkL_zero wtok tx ags p)
     go_wp2_with (fail)
     refine (words1_calls 1 ⟨true, tx, ags, p⟩ A2 c2 gc w0 _ _ (HA.out.alloc _) (below_alloc HB.out _) ?_ (by simp)).mono ?_
     ·have h1 := HSP.out
      have h2 := HL.out
      rw [← HN.out, HQ.out] at h1
      simp only [List.length_append] at h1 ⊢
      simp only [wtok0, wtok1, wtok2, wtok3, List.length_cons, List.length_nil] at h1
      omega
     rintro e W2 ⟨rfl, hA2, hB2, hK2⟩
     have HA2 := Aside0.mk hA2
     have HB2 := Aside0.mk hB2
     have HK2 := Aside0.mk (HK.out.trans (((KeepT.refl _ _).alloc _).trans hK2))
     clear hA2 hB2 hK2
     go_wp2
     go_roundg (gk - 1)
     case measure => have := HI.out; omega
     case rel => exact ⟨i + 1, by rw [HW.out], ⟨by have := HI.out; omega⟩, ⟨by rw [HTK.out, walkL_append, ← HN.out, HQ.out, ← List.append_assoc]; exact HA2.out⟩, HB2, HK2⟩
   ·have hltb : decide (i < l0.length) = false := decide_eq_false hlt
    go_wp2
    go_end0
    have hi : i = l0.length := by have := HI.out; omega
    subst hi
    exact ⟨rfl, by simpa using HA.out, HB.out, HK.out⟩
 | succ d ih =>
  intro A0 c0 l0 W xs hd hA hB hC hc hl
  have hu38 := Try.underlying38
  have HA := Aside0.mk hA
  have HB := Aside0.mk hB
  have HC := Aside0.mk hC
  have HL := Aside0.mk hl
  have HMX := Aside0.mk hC.2.1
  clear hA hB hC hl
  go_enter Try.func27, Try.ntmps27
  go_wp2
  go_loopg [12] l0.length (fun kq v12 w' => ∃ i : Nat, v12 = .int .i64 (i : Int) ∧ Aside0 (kq + i = l0.length) ∧ Aside0 (Acc Kd.string 9 34 w0 w' gc (xs ++ walkL wtok (d + 1) (l0.take i))) ∧ Aside0 (Below w0.heap.size w0 w') ∧ Aside0 (KeepT [9, 34] W w'))
  case atStart => exact ⟨0, rfl, ⟨by omega⟩, ⟨by simpa [walkL_nil] using HA.out⟩, HB, ⟨KeepT.refl _ _⟩⟩
  case round =>
   obtain ⟨i, rfl, HI, HA, HB, HK⟩ := hrel
   by_cases hlt : i < l0.length
   ·have hltb : decide (i < l0.length) = true := decide_eq_true hlt
    obtain ⟨ad, A2, c2, hA0, hx0, hx1, hx2, hx3, hl2, hC2⟩ := at_T38 HC.out (i : Int) (by omega) (by omega)
    cases hA0
    replace hx0 := (HB.out.cell (World.block_lt_of_cell? w0 _ hx0)).trans hx0
    replace hx1 := (HB.out.cell (World.block_lt_of_cell? w0 _ hx1)).trans hx1
    replace hx2 := (HB.out.cell (World.block_lt_of_cell? w0 _ hx2)).trans hx2
    replace hx3 := (HB.out.cell (World.block_lt_of_cell? w0 _ hx3)).trans hx3
    have hrd := Aside0.mk (rd_T38_eq hlt)
    simp only [Int.toNat_natCast] at hx0 hx1 hx2 hx3
    have HSP := Aside0.mk (walkL_split wtok (d + 1) l0 i hlt)
    have HTK := Aside0.mk (take_get l0 i hlt)
    clear hl2
    generalize hn : rd_T38 l0 (i : Int) = n at hx0 hx1 hx2 hx3 hC2
    have HN := Aside0.mk (hn.symm.trans hrd.out)
    clear hn hrd
    obtain ⟨b, tx, ags, p⟩ := n
    dsimp only at hx0 hx1 hx2 hx3 hC2
    have HW := Aside0.mk (show wrap64 ((i : Int) + 1) = ((i + 1 : Nat) : Int) by have := HMX.out; unfold wrap64; omega)
    cases b
    ·have HQ := Aside0.mk (walkL_word wtok (d + 1) tx ags p)
     go_wp2_with (fail)
     refine (words1_calls 0 ⟨false, tx, ags, p⟩ A2 c2 gc w0 _ _ (HA.out.alloc _) (below_alloc HB.out _) ?_ (by simp)).mono ?_
     ·have h1 := HSP.out
      have h2 := HL.out
      rw [← HN.out, HQ.out] at h1
      simp only [List.length_append] at h1 ⊢
      simp only [wtok0, wtok1, wtok2, wtok3, List.length_cons, List.length_nil] at h1
      omega
     rintro e W2 ⟨rfl, hA2, hB2, hK2⟩
     have HA2 := Aside0.mk hA2
     have HB2 := Aside0.mk hB2
     have HK2 := Aside0.mk (HK.out.trans (((KeepT.refl _ _).alloc _).trans hK2))
     clear hA2 hB2 hK2
     go_wp2
     go_roundg (gk - 1)
     case measure => have := HI.out; omega
     case rel => exact ⟨i + 1, by rw [HW.out], ⟨by have := HI.out; omega⟩, ⟨by rw [HTK.out, walkL_append, ← HN.out, HQ.out, ← List.append_assoc]; exact HA2.out⟩, HB2, HK2⟩
    ·have HQ := Aside0.mk (walkL_comm wtok d tx ags p)
     go_wp2_with (fail)
     refine (words1_calls 1 ⟨true, tx, ags, p⟩ A2 c2 gc w0 _ _ (HA.out.alloc _) (below_alloc HB.out _) ?_ (by simp)).mono ?_
     ·have h1 := HSP.out
      have h2 := HL.out
      rw [← HN.out, HQ.out] at h1
      simp only [List.length_append] at h1 ⊢
      simp only [wtok0, wtok1, wtok2, wtok3, List.length_cons, List.length_nil] at h1
      omega
     rintro e W2 ⟨rfl, hA2, hB2, hK2⟩
     have HA2 := Aside0.mk hA2
     have HB2 := Aside0.mk hB2
     have HG2 := Aside0.mk (hK2.2 wr.heap.size _ 38 (blk_new wr _) (by simp))
     have HK2 := Aside0.mk (HK.out.trans (((KeepT.refl _ _).alloc _).trans hK2))
     have hy2 : W2.cell? ⟨wr.heap.size, 2, none⟩ = some (.slice A2 ags.length c2) := (blk_cell HG2.out 2).trans rfl
     clear hA2 hB2 hK2 hx0 hx1 hx2 hx3
     have hdb : (((d : Int) + 1) == 0) = false := beq_eq_false_iff_ne.mpr (by omega)
     have HCA := Aside0.mk hC2
     have HCM := Aside0.mk hC2.2.1
     clear hC2
     go_wp2
     obtain ⟨wo, rfl⟩ : ∃ wo : World, wo = wr := ⟨_, rfl⟩
     obtain ⟨gko, rfl⟩ : ∃ k : Nat, k = gk := ⟨_, rfl⟩
     go_loopg [30] ags.length (fun kq v30 w' => ∃ j : Nat, v30 = .int .i64 (j : Int) ∧ Aside0 (kq + j = ags.length) ∧ Aside0 (Acc Kd.string 9 34 w0 w' gc ((xs ++ walkL wtok (d + 1) (l0.take i)) ++ (wtok 1 ⟨true, tx, ags, p⟩ ++ (ags.take j).flatMap (partL wtok d ⟨true, tx, ags, p⟩)))) ∧ Aside0 (Below w0.heap.size w0 w') ∧ Aside0 (KeepT [9, 34] W w') ∧ Aside0 (w'.heap[wo.heap.size]? = some (.cells #[.bool true, .string tx, .slice A2 ags.length c2, .int .i64 p] 38 (0, 0))))
     case atStart => exact ⟨0, rfl, ⟨by omega⟩, ⟨by rw [List.take_zero, List.flatMap_nil, List.append_nil]; exact HA2.out⟩, HB2, HK2, HG2⟩
     case round =>
      clear hy2
      obtain ⟨j, rfl, HJ, HA2, HB2, HK2, HG2⟩ := hrel
      have hy2 : wr.cell? ⟨wo.heap.size, 2, none⟩ = some (.slice A2 ags.length c2) := (blk_cell HG2.out 2).trans rfl
      have hy0 : wr.cell? ⟨wo.heap.size, 0, none⟩ = some (.bool true) := (blk_cell HG2.out 0).trans rfl
      have hy1 : wr.cell? ⟨wo.heap.size, 1, none⟩ = some (.string tx) := (blk_cell HG2.out 1).trans rfl
      have hy3 : wr.cell? ⟨wo.heap.size, 3, none⟩ = some (.int .i64 p) := (blk_cell HG2.out 3).trans rfl
      by_cases hlj : j < ags.length
      ·have hljb : decide (j < ags.length) = true := decide_eq_true hlj
       obtain ⟨ad2, A3, c3, hA2_, hz0, hl3, hC3⟩ := at_L5 HCA.out (j : Int) (by omega) (by omega)
       cases hA2_
       replace hz0 := (HB2.out.cell (World.block_lt_of_cell? w0 _ hz0)).trans hz0
       have hrd := Aside0.mk (rd_L6_eq hlj)
       simp only [Int.toNat_natCast] at hz0
       generalize hn : rd_L5 ags (j : Int) = a3 at hz0 hl3 hC3
       have HA3 := Aside0.mk (hn.symm.trans hrd.out)
       clear hn hrd
       have HWDX := Aside0.mk (show Value.int .i64 ((d : Int) + 1 - 1) = Value.int .i64 (d : Int) by rw [show (d : Int) + 1 - 1 = d by omega])
       have HC3 := Aside0.mk hC3
       have HL3 := Aside0.mk hl3
       clear hC3 hl3
       have HW2 := Aside0.mk (show wrap64 ((j : Int) + 1) = ((j + 1 : Nat) : Int) by have := HCM.out; unfold wrap64; omega)
       have HPS := Aside0.mk (part_split (partL wtok d ⟨true, tx, ags, p⟩) ags j hlj)
       have HPT := Aside0.mk (part_take (partL wtok d ⟨true, tx, ags, p⟩) ags j hlj)
       have HWD := Aside0.mk (show wrap64 ((d : Int) + 1 - 1) = (d : Int) by unfold wrap64; omega)
       have HLEN := Aside0.mk (show (xs ++ walkL wtok (d + 1) (l0.take i)).length + (wtok 1 ⟨true, tx, ags, p⟩ ++ (ags.take j).flatMap (partL wtok d ⟨true, tx, ags, p⟩)).length + (partL wtok d ⟨true, tx, ags, p⟩ a3).length < 4398046511104 by
        have h1 := HSP.out
        have h2 := HL.out
        have h3 := HPS.out
        rw [← HN.out, HQ.out] at h1
        rw [← HA3.out] at h3
        simp only [List.length_append] at h1 ⊢
        omega)
       go_wp2_with (fail)
       refine (words1_calls 2 ⟨true, tx, ags, p⟩ (some ad2) c2 gc w0 _ _ HA2.out HB2.out ?_ (by simp)).mono ?_
       ·have h := HLEN.out
        rw [partL_len] at h
        simp only [List.length_append, wtok0, wtok1, wtok2, wtok3, List.length_cons, List.length_nil] at h ⊢
        omega
       rintro e W3 ⟨rfl, hA3, hB3, hK3⟩
       have HA3' := Aside0.mk hA3
       have HB3 := Aside0.mk hB3
       have HG3 := Aside0.mk (hK3.2 wo.heap.size _ 38 HG2.out (by simp))
       have HK3 := Aside0.mk (HK2.out.trans hK3)
       have hq0 := (blk_cell HG3.out 0).trans (rfl : _ = some (Value.bool true))
       have hq1 := (blk_cell HG3.out 1).trans (rfl : _ = some (Value.string tx))
       have hq2 := (blk_cell HG3.out 2).trans (rfl : _ = some (Value.slice (some ad2) ags.length c2))
       have hq3 := (blk_cell HG3.out 3).trans (rfl : _ = some (Value.int .i64 p))
       clear hA3 hB3 hK3 hy0 hy1 hy2 hy3 hz0
       go_wp2_with (fail)
       refine (ih A3 c3 a3 W3 _ (by omega) HA3'.out HB3.out HC3.out HL3.out ?_).mono ?_
       ·have h := HLEN.out
        rw [partL_len] at h
        simp only [List.length_append, wtok0, wtok1, wtok2, wtok3, List.length_cons, List.length_nil] at h ⊢
        omega
       rintro e W4 ⟨rfl, hA4, hB4, hK4⟩
       have HA4 := Aside0.mk hA4
       have HB4 := Aside0.mk hB4
       have HG4 := Aside0.mk (hK4.2 wo.heap.size _ 38 HG3.out (by simp))
       have HK4 := Aside0.mk (HK3.out.trans hK4)
       clear hA4 hB4 hK4 hq0 hq1 hq2 hq3
       have hq0 := (blk_cell HG4.out 0).trans (rfl : _ = some (Value.bool true))
       have hq1 := (blk_cell HG4.out 1).trans (rfl : _ = some (Value.string tx))
       have hq2 := (blk_cell HG4.out 2).trans (rfl : _ = some (Value.slice (some ad2) ags.length c2))
       have hq3 := (blk_cell HG4.out 3).trans (rfl : _ = some (Value.int .i64 p))
       go_wp2_with (fail)
       refine (words1_calls 3 ⟨true, tx, ags, p⟩ (some ad2) c2 gc w0 _ _ HA4.out HB4.out ?_ (by simp)).mono ?_
       ·have h := HLEN.out
        rw [partL_len] at h
        simp only [List.length_append, wtok0, wtok1, wtok2, wtok3, List.length_cons, List.length_nil] at h ⊢
        omega
       rintro e W5 ⟨rfl, hA5, hB5, hK5⟩
       have HA5 := Aside0.mk hA5
       have HB5 := Aside0.mk hB5
       have HG5 := Aside0.mk (hK5.2 wo.heap.size _ 38 HG4.out (by simp))
       have HK5 := Aside0.mk (HK4.out.trans hK5)
       clear hA5 hB5 hK5 hq0 hq1 hq2 hq3
       go_wp2
       go_roundg (gk - 1)
       case measure => have := HJ.out; omega
       case rel => exact ⟨j + 1, by rw [HW2.out], ⟨by have := HJ.out; omega⟩, ⟨by
        have h := HA5.out
        rw [HPT.out, ← HA3.out]
        unfold partL at h ⊢
        simpa only [List.append_assoc] using h⟩, HB5, HK5, HG5⟩
      ·have hljb : decide (j < ags.length) = false := decide_eq_false hlj
       go_wp2
       go_roundg (gko - 1)
       case measure => have := HI.out; omega
       case rel => exact ⟨i + 1, by rw [HW.out], ⟨by have := HI.out; omega⟩, ⟨by
        have hj : j = ags.length := by have := HJ.out; omega
        have h := HA2.out
        rw [hj, List.take_length, ← HQ.out, HN.out, List.append_assoc, ← walkL_append, ← HTK.out] at h
        exact h⟩, HB2, HK2⟩
   ·have hltb : decide (i < l0.length) = false := decide_eq_false hlt
    go_wp2
    go_end0
    have hi : i = l0.length := by have := HI.out; omega
    subst hi
    exact ⟨rfl, by simpa using HA.out, HB.out, HK.out⟩
def tree_Flat.f (k : Nat) (l0 : List S38) : Option (List S44) := if (walkL ftok 100 l0).length < 4398046511104 then some (walkL ftok 100 l0) else none
theorem tree_Flat.mono : ∀ a0 k, LeO (tree_Flat.f k a0) (tree_Flat.f (k + 1) a0) := fun _ _ => LeO.refl _
def tree_Words.f (k : Nat) (l0 : List S38) : Option (List ByteArray) := if (walkL wtok 100 l0).length < 4398046511104 then some (walkL wtok 100 l0) else none
theorem tree_Words.mono : ∀ a0 k, LeO (tree_Words.f k a0) (tree_Words.f (k + 1) a0) := fun _ _ => LeO.refl _
set_option maxHeartbeats 800000 in
set_option maxRecDepth 100000 in
theorem tree_Words.calls (k : Nat) (A0 : Option Addr) (c0 : Nat) (l0 : List (S38)) (r : List ByteArray) (w : World) (hr0 : Kd.C k38 w A0 l0.length l0) (hc0 : l0.length ≤ c0) (h : tree_Words.f k l0 = some r) :
  Calls Try.prog 12 #[.slice A0 l0.length c0] w fun e w' => ∃ v0_ : Value, e = .returned (v0_) ∧ Kd.R Kd.string 9 w' w.heap.size (fun _ => True) v0_ r ∧ Below w.heap.size w w' := by
 unfold tree_Words.f at h
 split at h
 ·rename_i hlen
  obtain rfl := Option.some.inj h
  clear h
  have HR0 := Aside0.mk hr0
  have HC0 := Aside0.mk hc0
  have HL := Aside0.mk hlen
  clear hr0 hc0 hlen
  go_enter Try.func12, Try.ntmps12
  go_wp2_with (fail)
  refine (walk_words w w.heap.size 100 A0 c0 l0 _ [] (by omega) ⟨.slice none 0 0, blk_new w _, Nat.le_refl _, Kd.R_nil _ _ _ _ _⟩ (below_alloc (Below.refl _ _) _) HR0.out HC0.out (by have := HL.out; simpa using this)).mono ?_
  rintro e w2 ⟨rfl, ⟨v, hv, hg, hr⟩, hb, hk⟩
  have hc := (blk_cell hv 0).trans (rfl : _ = some v)
  have HR := Aside0.mk hr
  have HB := Aside0.mk hb
  clear hv hr hb hk hg
  go_wp2
  go_ret
  exact ⟨v, rfl, by simpa using Kd.R_mono HR.out (fun _ _ => trivial), HB.out⟩
 ·cases h
end Go.Proofs.Ytmpglkeoppbpgaa.PTree
