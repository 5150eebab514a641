/- A part of the row's proof. -/
import Derived.Test.YtmpglkeoppbpgaaDPTreex3
import Derived.RegionTactic
import Derived.BigRegion
namespace Go.Proofs.Ytmpglkeoppbpgaa.PTree
open Go.RowKit Go.Proofs.YtmpglkeoppbpgaaW.PrintWords Go.Proofs.YtmpglkeoppbpgaaW.PrintLast Go.Proofs.YtmpglkeoppbpgaaW.PrintMore
set_option linter.unusedVariables false
set_option linter.unusedSimpArgs false
def isReal (t : S44) : Bool := decide (0 ≤ t.f0) && decide (t.f0 < 4)
def pkAt (toks : List S44) (i : Nat) : Nat := i + (toks.drop i).findIdx isReal
def tree_parser_peek.f (s0_0 : List S44) (s0_1 s0_2 s0_3 : Int) : Option (Int × ByteArray × Int × Bool × Int × Int × Int) :=
 if 0 ≤ s0_1 ∧ s0_1 ≤ s0_0.length then
  (if pkAt s0_0 s0_1.toNat < s0_0.length then
   some ((rd_T44 s0_0 (pkAt s0_0 s0_1.toNat)).f0, (rd_T44 s0_0 (pkAt s0_0 s0_1.toNat)).f1, (rd_T44 s0_0 (pkAt s0_0 s0_1.toNat)).f2, true, (pkAt s0_0 s0_1.toNat : Int), s0_2, s0_3)
  else some (0, ⟨#[]⟩, 0, false, (pkAt s0_0 s0_1.toNat : Int), s0_2, s0_3))
 else none
theorem pkAt_end {toks : List S44} {i : Nat} (h : toks.length ≤ i) : pkAt toks i = i := by
 unfold pkAt; rw [List.drop_eq_nil_of_le h]; simp
theorem pkAt_yes {toks : List S44} {i : Nat} (h : i < toks.length) (hr : isReal toks[i] = true) : pkAt toks i = i := by
 unfold pkAt; rw [List.drop_eq_getElem_cons h, List.findIdx_cons, hr]; simp
theorem pkAt_no {toks : List S44} {i : Nat} (h : i < toks.length) (hr : isReal toks[i] = false) : pkAt toks i = pkAt toks (i + 1) := by
 unfold pkAt; rw [List.drop_eq_getElem_cons h, List.findIdx_cons, hr]; simp; omega
theorem rd_T44_eq {toks : List S44} {i : Nat} (h : i < toks.length) : rd_T44 toks (i : Int) = toks[i] := by
 unfold rd_T44; simp [List.getD_eq_getElem?_getD, h]
theorem peek_real {s0_0 : List S44} {s0_1 s0_2 s0_3 r1 : Int} {r2 : ByteArray} {r3 : Int} {r4 : Bool} {r5 r6 r7 : Int} (h : tree_parser_peek.f s0_0 s0_1 s0_2 s0_3 = some (r1, r2, r3, r4, r5, r6, r7)) {j : Nat} (hp : pkAt s0_0 s0_1.toNat = pkAt s0_0 j) (hj : j < s0_0.length) (hr : isReal s0_0[j] = true) :
  r1 = s0_0[j].f0 ∧ r2 = s0_0[j].f1 ∧ r3 = s0_0[j].f2 ∧ r4 = true ∧ r5 = j ∧ r6 = s0_2 ∧ r7 = s0_3 := by
 unfold tree_parser_peek.f at h
 rw [hp, pkAt_yes hj hr, if_pos hj, rd_T44_eq hj] at h
 split at h
 ·simp only [Option.some.injEq, Prod.mk.injEq] at h
  obtain ⟨rfl, rfl, rfl, rfl, rfl, rfl, rfl⟩ := h
  exact ⟨rfl, rfl, rfl, rfl, rfl, rfl, rfl⟩
 ·cases h
theorem peek_end {s0_0 : List S44} {s0_1 s0_2 s0_3 r1 : Int} {r2 : ByteArray} {r3 : Int} {r4 : Bool} {r5 r6 r7 : Int} (h : tree_parser_peek.f s0_0 s0_1 s0_2 s0_3 = some (r1, r2, r3, r4, r5, r6, r7)) {j : Nat} (hp : pkAt s0_0 s0_1.toNat = pkAt s0_0 j) (hj : s0_0.length ≤ j) :
  r1 = 0 ∧ r2 = ⟨#[]⟩ ∧ r3 = 0 ∧ r4 = false ∧ r5 = j ∧ r6 = s0_2 ∧ r7 = s0_3 := by
 unfold tree_parser_peek.f at h
 rw [hp, pkAt_end hj] at h
 split at h
 ·rw [if_neg (by omega)] at h
  simp only [Option.some.injEq, Prod.mk.injEq] at h
  obtain ⟨rfl, rfl, rfl, rfl, rfl, rfl, rfl⟩ := h
  exact ⟨rfl, rfl, rfl, rfl, rfl, rfl, rfl⟩
 ·cases h
theorem keep_set_new {w w1 : World} {g : Nat} (h : KeepBut w w1 g none) {p : Addr} (hp : w.heap.size ≤ p.block) (u : Value) : KeepBut w (w1.setCell p u) g none :=
 ⟨by simpa [World.setCell] using h.1, fun i hi h1 h2 => (Below.heap_setCell w1 p u i (by omega)).trans (h.2 i hi h1 h2)⟩
set_option maxHeartbeats 800000 in
set_option maxRecDepth 100000 in
theorem tree_parser_peek.calls (g : Nat) (s0_0 : List (S44)) (s0_1 : Int) (s0_2 : Int) (s0_3 : Int) (r1 : Int) (r2 : ByteArray) (r3 : Int) (r4 : Bool) (r5 : Int) (r6 : Int) (r7 : Int) (w0 w : World) (hI : IsS48 w0 w g s0_0 s0_1 s0_2 s0_3) (hB : Below w0.heap.size w0 w) (h : tree_parser_peek.f s0_0 s0_1 s0_2 s0_3 = some (r1, r2, r3, r4, r5, r6, r7)) :
  Calls Try.prog 31 #[.pointer (some ⟨g, 0, none⟩)] w fun e w' => e = .returned (.tuple #[.agg #[.int .i64 r1, .string r2, .int .i64 r3], .bool r4]) ∧ IsS48 w0 w' g s0_0 r5 r6 r7 ∧ Below w0.heap.size w0 w' ∧ KeepBut w w' g none := by
 have hu44 := Try.underlying44
 have HI0 := Aside0.mk hI
 have HK := Aside0.mk (KeepBut.refl w g none)
 have HL := Aside0.mk hB.size
 clear hI
 have HW0 := Aside0.mk hB.size
 have HB := Aside0.mk hB
 clear hB
 have H := Aside0.mk h
 clear h
 go_enter Try.func31, Try.ntmps31
 go_wp2
 have HNE := Aside0.mk (Nat.ne_of_lt HI0.out.lt)
 have HR := Aside0.mk (blk_new w (.cells #[.int .i64 0, .string ⟨#[]⟩, .int .i64 0] 44))
 go_loopg [] (s0_0.length + 1 - s0_1.toNat) (fun kq w' => ∃ j : Nat, Aside0 (j ≤ s0_0.length ∧ kq = s0_0.length + 1 - j ∧ 0 ≤ s0_1 ∧ pkAt s0_0 s0_1.toNat = pkAt s0_0 j) ∧ Aside0 (w'.heap[w.heap.size]? = some (.cells #[.int .i64 0, .string ⟨#[]⟩, .int .i64 0] 44 (0, 0))) ∧ Aside0 (IsS48 w0 w' g s0_0 (j : Int) s0_2 s0_3) ∧ Aside0 (KeepBut w w' g none) ∧ Aside0 (Below w0.heap.size w0 w'))
 case atStart =>
  have h0 : 0 ≤ s0_1 ∧ s0_1 ≤ s0_0.length := by
   have h := H.out; unfold tree_parser_peek.f at h; split at h
   ·assumption
   ·cases h
  have hs : (s0_1.toNat : Int) = s0_1 := by omega
  exact ⟨s0_1.toNat, ⟨by omega, by omega, h0.1, rfl⟩, HR, ⟨by rw [hs]; exact HI0.out.alloc _⟩, ⟨keep_alloc HK.out _⟩, ⟨below_alloc HB.out _⟩⟩
 case round =>
  obtain ⟨j, HJ, HR, HI0, HK, HB⟩ := hrel
  obtain ⟨hj, hk, h0, hp⟩ := HJ.out
  obtain ⟨A0, c0, HG, hg, HC⟩ := HI0.out
  have hcz_0 := cellS48_0 HG
  have hcz_1 := cellS48_1 HG
  have hgl := blk_lt HG
  have hrc0 : wr.cell? ⟨w.heap.size, 0, none⟩ = some (.int .i64 0) := (blk_cell HR.out 0).trans rfl
  have hrc1 : wr.cell? ⟨w.heap.size, 1, none⟩ = some (.string ⟨#[]⟩) := (blk_cell HR.out 1).trans rfl
  have hrc2 : wr.cell? ⟨w.heap.size, 2, none⟩ = some (.int .i64 0) := (blk_cell HR.out 2).trans rfl
  have hrf0 := blk_frozen HR.out 0
  have hrf1 := blk_frozen HR.out 1
  have hrf2 := blk_frozen HR.out 2
  clear hk hp
  have HMX := Aside0.mk HC.2.1
  by_cases hlt : j < s0_0.length
  ·have hltb : decide (j < s0_0.length) = true := decide_eq_true hlt
   go_wp2
   go_quiet (fail)
   go_wp2
   have hQ := Drawn0.mk ⟨nq, (rfl : wr.drewN nq = wr.drewN nq)⟩
   obtain ⟨ad, hA, hx0, hx1, hx2⟩ := at_T44 (Kd.C_below HC HB.out) (j : Int) (by omega) (by omega)
   cases hA
   simp only [Int.toNat_natCast] at hx0 hx1 hx2
   have al : ∀ {p : Addr} {v : Value}, wr.cell? p = some v → ∀ n o, ((wr.drewN n).alloc o).cell? p = some v := fun {p v} h n o => (World.cell?_alloc_lt _ o p (World.block_lt_of_cell? _ p h)).trans h
   have a0 := al hcz_0
   have a1 := al hcz_1
   have a2 := al hx0
   have a3 := al hx1
   have a4 := al hx2
   clear al
   have nb : ∀ n, ((wr.drewN n).alloc (.cells #[.int .i64 0, .string ⟨#[]⟩, .int .i64 0] 44)).heap[wr.heap.size]? = some (.cells #[.int .i64 0, .string ⟨#[]⟩, .int .i64 0] 44 (0, 0)) := fun n => blk_new (wr.drewN n) _
   have b0 := fun n => (blk_cell (nb n) 0).trans (rfl : _ = some (Value.int .i64 0))
   have b1 := fun n => (blk_cell (nb n) 1).trans (rfl : _ = some (Value.string ⟨#[]⟩))
   have b2 := fun n => (blk_cell (nb n) 2).trans (rfl : _ = some (Value.int .i64 0))
   have f0 := fun n => blk_frozen (nb n) 0
   have f1 := fun n => blk_frozen (nb n) 1
   have f2 := fun n => blk_frozen (nb n) 2
   clear nb
   have hrd := Aside0.mk (rd_T44_eq hlt)
   have HWR := Aside0.mk (show wrap64 ((j : Int) + 1) = (j : Int) + 1 by have := HMX.out; unfold wrap64; omega)
   generalize hk0 : (rd_T44 s0_0 (j : Int)).f0 = k0 at hx0 a2
   generalize hk1 : (rd_T44 s0_0 (j : Int)).f1 = k1 at hx1 a3
   generalize hk2 : (rd_T44 s0_0 (j : Int)).f2 = k2 at hx2 a4
   have HKf := Aside0.mk (⟨hk0, hk1, hk2⟩ : _ ∧ _ ∧ _)
   clear hk0 hk1 hk2
   obtain ⟨W1, hW1⟩ : ∃ W1, W1 = ((((wr.drewN (nq + 1)).alloc (.cells #[.int .i64 0, .string ⟨#[]⟩, .int .i64 0] 44)).setCell ⟨wr.heap.size, 0, none⟩ (.int .i64 k0)).setCell ⟨wr.heap.size, 1, none⟩ (.string k1)).setCell ⟨wr.heap.size, 2, none⟩ (.int .i64 k2) := ⟨_, rfl⟩
   have hNew : W1.heap[wr.heap.size]? = some (.cells #[.int .i64 k0, .string k1, .int .i64 k2] 44 (0, 0)) := by
    rw [hW1]
    refine blk_put (cs := #[.int .i64 k0, .string k1, .int .i64 0]) ?_ 2 _ rfl
    refine blk_put (cs := #[.int .i64 k0, .string ⟨#[]⟩, .int .i64 0]) ?_ 1 _ rfl
    refine blk_put (cs := #[.int .i64 0, .string ⟨#[]⟩, .int .i64 0]) ?_ 0 _ rfl
    exact blk_new (wr.drewN (nq + 1)) _
   have hBel : Below wr.heap.size wr W1 := by
    rw [hW1]
    exact below_set (below_set (below_set (below_alloc (pw_below_drewN (Below.refl _ _) _) _) (Nat.le_refl _)) (Nat.le_refl _)) (Nat.le_refl _)
   have HI1 := HI0.out.below hBel
   have HR1 := Aside0.mk (blk_below HR.out hBel)
   have HK1 := Aside0.mk (KeepBut.trans HK.out (KeepBut.of_below hBel g none) (.inl rfl))
   have HB1 := Aside0.mk (HB.out.trans (hBel.mono HB.out.size))
   have HNew := Aside0.mk hNew
   have HW1 := Aside0.mk hW1
   clear hW1 hBel
   have n0 := (blk_cell hNew 0).trans (rfl : _ = some (Value.int .i64 k0))
   have n1 := (blk_cell hNew 1).trans (rfl : _ = some (Value.string k1))
   have n2 := (blk_cell hNew 2).trans (rfl : _ = some (Value.int .i64 k2))
   clear hNew
   go_region
   rw [← HW1.out]
   clear HW1 b0 b1 b2 f0 f1 f2 a0 a1 a2 a3 a4 hx0 hx1 hx2 hcz_0 hcz_1 hrc0 hrc1 hrc2 hrf0 hrf1 hrf2
   have hrc0 : W1.cell? ⟨w.heap.size, 0, none⟩ = some (.int .i64 0) := (blk_cell HR1.out 0).trans rfl
   have hrc1 : W1.cell? ⟨w.heap.size, 1, none⟩ = some (.string ⟨#[]⟩) := (blk_cell HR1.out 1).trans rfl
   have hrc2 : W1.cell? ⟨w.heap.size, 2, none⟩ = some (.int .i64 0) := (blk_cell HR1.out 2).trans rfl
   have hrf0 := blk_frozen HR1.out 0
   have hrf1 := blk_frozen HR1.out 1
   have hrf2 := blk_frozen HR1.out 2
   obtain ⟨A1, c1, HG1, hg1, HC1⟩ := HI1
   have hcz_1 := cellS48_1 HG1
   have hfz_1 := blk_frozen HG1 1
   have HI1 := Aside0.mk (show IsS48 w0 W1 g s0_0 (j : Int) s0_2 s0_3 from ⟨A1, c1, HG1, hg1, HC1⟩)
   clear HG1 hg1 HC1
   have hne : g ≠ w.heap.size := HNE.out
   by_cases hge : 0 ≤ k0
   ·have hgeb : decide (0 ≤ k0) = true := decide_eq_true hge
    by_cases hl4 : k0 < 4
    ·have hl4b : decide (k0 < 4) = true := decide_eq_true hl4
     go_wp2
     obtain ⟨e0, e1, e2⟩ := HKf.out
     rw [hrd.out] at e0 e1 e2
     obtain ⟨rfl, rfl, rfl, rfl, rfl, rfl, rfl⟩ := peek_real H.out HJ.out.2.2.2 hlt (by unfold isReal; rw [e0, hgeb, hl4b]; rfl)
     subst e0 e1 e2
     refine bodyPost_ret (results_ct rfl _ _ w.heap.size 44 #[.int .i64 s0_0[j].f0, .string s0_0[j].f1, .int .i64 s0_0[j].f2] (0, 0) _ rfl ?_ Try.underlying44 rfl (by kernel_rfl)) rfl ?_
     ·refine blk_put (cs := #[.int .i64 s0_0[j].f0, .string s0_0[j].f1, .int .i64 0]) ?_ 2 _ rfl
      refine blk_put (cs := #[.int .i64 s0_0[j].f0, .string ⟨#[]⟩, .int .i64 0]) ?_ 1 _ rfl
      refine blk_put (cs := #[.int .i64 0, .string ⟨#[]⟩, .int .i64 0]) ?_ 0 _ rfl
      exact HR1.out
     ·refine ⟨rfl, ?_, ?_, ?_⟩
      ·exact ((HI1.out.far hne _).far hne _).far hne _
      ·exact below_set (below_set (below_set HB1.out HW0.out) HW0.out) HW0.out
      ·exact keep_set_new (keep_set_new (keep_set_new HK1.out (Nat.le_refl _) _) (Nat.le_refl _) _) (Nat.le_refl _) _
    ·have hl4b : decide (k0 < 4) = false := decide_eq_false hl4
     go_wp2
     have hnr : isReal s0_0[j] = false := by
      obtain ⟨e0, _, _⟩ := HKf.out
      rw [hrd.out] at e0
      unfold isReal; rw [e0]; simp; omega
     have hpn := pkAt_no hlt hnr
     have hj2 := HJ.out
     go_roundg (gk - 1)
     case measure => omega
     case rel => exact ⟨j + 1, ⟨by omega, by omega, h0, hj2.2.2.2.trans hpn⟩, ⟨blk_far HR1.out (fun e => hne e.symm) _⟩, ⟨by rw [HWR.out]; simpa using HI1.out.set_1 ((j : Int) + 1)⟩, ⟨HK1.out.set_ _ _⟩, ⟨below_set HB1.out HI1.out.ge⟩⟩
   ·have hgeb : decide (0 ≤ k0) = false := decide_eq_false hge
    go_wp2
    have hnr : isReal s0_0[j] = false := by
     obtain ⟨e0, _, _⟩ := HKf.out
     rw [hrd.out] at e0
     unfold isReal; rw [e0]; simp; omega
    have hpn := pkAt_no hlt hnr
    have hj2 := HJ.out
    go_roundg (gk - 1)
    case measure => omega
    case rel => exact ⟨j + 1, ⟨by omega, by omega, h0, hj2.2.2.2.trans hpn⟩, ⟨blk_far HR1.out (fun e => hne e.symm) _⟩, ⟨by rw [HWR.out]; simpa using HI1.out.set_1 ((j : Int) + 1)⟩, ⟨HK1.out.set_ _ _⟩, ⟨below_set HB1.out HI1.out.ge⟩⟩
  ·have hltb : decide (j < s0_0.length) = false := decide_eq_false hlt
   go_wp2
   go_quiet (fail)
   go_wp2
   obtain ⟨rfl, rfl, rfl, rfl, rfl, rfl, rfl⟩ := peek_end H.out HJ.out.2.2.2 (by omega)
   have hne : g ≠ w.heap.size := HNE.out
   refine bodyPost_ret (results_ct rfl _ _ w.heap.size 44 #[.int .i64 0, .string ⟨#[]⟩, .int .i64 0] (0, 0) _ rfl ?_ Try.underlying44 rfl (by kernel_rfl)) rfl ?_
   ·refine blk_put (cs := #[.int .i64 0, .string ⟨#[]⟩, .int .i64 0]) ?_ 2 _ rfl
    refine blk_put (cs := #[.int .i64 0, .string ⟨#[]⟩, .int .i64 0]) ?_ 1 _ rfl
    refine blk_put (cs := #[.int .i64 0, .string ⟨#[]⟩, .int .i64 0]) ?_ 0 _ rfl
    exact HR.out
   ·refine ⟨rfl, ?_, ?_, ?_⟩
    ·exact (((HI0.out.drewN _).far hne _).far hne _).far hne _
    ·exact below_set (below_set (below_set (pw_below_drewN HB.out _) HW0.out) HW0.out) HW0.out
    ·exact keep_set_new (keep_set_new (keep_set_new (keep_drewN HK.out _) (Nat.le_refl _) _) (Nat.le_refl _) _) (Nat.le_refl _) _
end Go.Proofs.Ytmpglkeoppbpgaa.PTree
