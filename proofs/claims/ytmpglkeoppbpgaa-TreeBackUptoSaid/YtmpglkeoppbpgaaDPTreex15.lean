/- A part of the row's proof. -/
import Derived.Test.YtmpglkeoppbpgaaDPTreex0
namespace Go.Proofs.Ytmpglkeoppbpgaa.PTree
open Go.RowKit Go.Proofs.YtmpglkeoppbpgaaW.PrintWords Go.Proofs.YtmpglkeoppbpgaaW.PrintLast Go.Proofs.YtmpglkeoppbpgaaW.PrintMore
attribute [local go_sem] max2_int min2_int max_two min_two max_three min_three max_four min_four
set_option linter.unusedVariables false
set_option linter.unusedSimpArgs false
mutual
def tree_Same.l0 : Nat → List (S38) → List (S38) → Int → Int → Option (Bool)
 | 0, _, _, _, _ => none
 | k + 1, x1, x14, x15, x16 => if x16 < x15 then (if 0 ≤ x16 then (if x16 < (x14.length : Int) then (if x16 < (x1.length : Int) then (if (((rd_T38 x14 x16).f0) != ((rd_T38 x1 x16).f0)) = true then (tree_Same.j1 k x1 x14 x15 x16 true ((rd_T38 x14 x16).f0) ((rd_T38 x14 x16).f1) ((rd_T38 x14 x16).f2) ((rd_T38 x14 x16).f3) ((rd_T38 x1 x16).f0) ((rd_T38 x1 x16).f1) ((rd_T38 x1 x16).f2) ((rd_T38 x1 x16).f3)) else (if ((rd_T38 x14 x16).f1).toList = ((rd_T38 x1 x16).f1).toList then (tree_Same.j1 k x1 x14 x15 x16 ((((rd_T38 x14 x16).f2).length : Int) != (((rd_T38 x1 x16).f2).length : Int)) ((rd_T38 x14 x16).f0) ((rd_T38 x14 x16).f1) ((rd_T38 x14 x16).f2) ((rd_T38 x14 x16).f3) ((rd_T38 x1 x16).f0) ((rd_T38 x1 x16).f1) ((rd_T38 x1 x16).f2) ((rd_T38 x1 x16).f3)) else (tree_Same.j1 k x1 x14 x15 x16 true ((rd_T38 x14 x16).f0) ((rd_T38 x14 x16).f1) ((rd_T38 x14 x16).f2) ((rd_T38 x14 x16).f3) ((rd_T38 x1 x16).f0) ((rd_T38 x1 x16).f1) ((rd_T38 x1 x16).f2) ((rd_T38 x1 x16).f3)))) else (none)) else (none)) else (none)) else (some true)
def tree_Same.j1 : Nat → List (S38) → List (S38) → Int → Int → Bool → Bool → ByteArray → List (List (S38)) → Int → Bool → ByteArray → List (List (S38)) → Int → Option (Bool)
 | 0, _, _, _, _, _, _, _, _, _, _, _, _, _ => none
 | k + 1, x1, x14, x15, x16, x45, x427000, x427001, x427002, x427003, x429000, x429001, x429002, x429003 => if x45 = true then (some false) else (tree_Same.l1 k x1 x14 x15 x16 (x427002.length : Int) 0 x427000 x427001 x427002 x427003 x429000 x429001 x429002 x429003)
def tree_Same.l1 : Nat → List (S38) → List (S38) → Int → Int → Int → Int → Bool → ByteArray → List (List (S38)) → Int → Bool → ByteArray → List (List (S38)) → Int → Option (Bool)
 | 0, _, _, _, _, _, _, _, _, _, _, _, _, _, _ => none
 | k + 1, x1, x14, x15, x16, x48, x49, x427000, x427001, x427002, x427003, x429000, x429001, x429002, x429003 => if x49 < x48 then (if 0 ≤ x49 then (if x49 < (x427002.length : Int) then (if x49 < (x429002.length : Int) then ((tree_Same.f k (rd_L5 x427002 x49) (rd_L5 x429002 x49)).bind fun t431 => (if t431 = true then (tree_Same.l1 k x1 x14 x15 x16 x48 (wrap64 (x49 + 1)) x427000 x427001 x427002 x427003 x429000 x429001 x429002 x429003) else (some false))) else (none)) else (none)) else (none)) else (tree_Same.l0 k x1 x14 x15 (wrap64 (x16 + 1)))
def tree_Same.f : Nat → List (S38) → List (S38) → Option (Bool)
 | 0, _, _ => none
 | k + 1, l0, l1 => if (l0.length : Int) = (l1.length : Int) then (tree_Same.l0 k l1 l0 (l0.length : Int) 0) else (some false)
end
theorem tree_Same.mono_l : ∀ k, (∀ y0 y1, LeO (tree_Same.f k y0 y1) (tree_Same.f (k + 1) y0 y1)) ∧ (∀ y0 y1 y2 y3, LeO (tree_Same.l0 k y0 y1 y2 y3) (tree_Same.l0 (k + 1) y0 y1 y2 y3)) ∧ (∀ y0 y1 y2 y3 y4 y5 y6 y7 y8 y9 y10 y11 y12, LeO (tree_Same.j1 k y0 y1 y2 y3 y4 y5 y6 y7 y8 y9 y10 y11 y12) (tree_Same.j1 (k + 1) y0 y1 y2 y3 y4 y5 y6 y7 y8 y9 y10 y11 y12)) ∧ (∀ y0 y1 y2 y3 y4 y5 y6 y7 y8 y9 y10 y11 y12 y13, LeO (tree_Same.l1 k y0 y1 y2 y3 y4 y5 y6 y7 y8 y9 y10 y11 y12 y13) (tree_Same.l1 (k + 1) y0 y1 y2 y3 y4 y5 y6 y7 y8 y9 y10 y11 y12 y13))
 | 0 => ⟨fun _ _ r h => by simp [tree_Same.f] at h, fun _ _ _ _ r h => by simp [tree_Same.l0] at h, fun _ _ _ _ _ _ _ _ _ _ _ _ _ r h => by simp [tree_Same.j1] at h, fun _ _ _ _ _ _ _ _ _ _ _ _ _ _ r h => by simp [tree_Same.l1] at h⟩
 | k + 1 => by
  obtain ⟨ih0, ih1, ih2, ih3⟩ := tree_Same.mono_l k
  refine ⟨?_, ?_, ?_, ?_⟩
  ·intro y0 y1
   unfold tree_Same.f
   repeat' first
   | (with_reducible exact ih0 _ _)
   | (with_reducible exact ih1 _ _ _ _)
   | (with_reducible exact ih2 _ _ _ _ _ _ _ _ _ _ _ _ _)
   | (with_reducible exact ih3 _ _ _ _ _ _ _ _ _ _ _ _ _ _)
   | (with_reducible exact LeO.refl _)
   | (with_reducible exact LeO.none _)
   | (with_reducible refine LeO.ite ?_ ?_)
   | (with_reducible refine LeO.bind ?_ (fun _ => ?_))
   | exact ih0 _ _
   | exact ih1 _ _ _ _
   | exact ih2 _ _ _ _ _ _ _ _ _ _ _ _ _
   | exact ih3 _ _ _ _ _ _ _ _ _ _ _ _ _ _
   | exact LeO.none _
   | refine LeO.ite ?_ ?_
   | refine LeO.bind ?_ (fun _ => ?_)
  ·intro y0 y1 y2 y3
   unfold tree_Same.l0
   repeat' first
   | (with_reducible exact ih0 _ _)
   | (with_reducible exact ih1 _ _ _ _)
   | (with_reducible exact ih2 _ _ _ _ _ _ _ _ _ _ _ _ _)
   | (with_reducible exact ih3 _ _ _ _ _ _ _ _ _ _ _ _ _ _)
   | (with_reducible exact LeO.refl _)
   | (with_reducible exact LeO.none _)
   | (with_reducible refine LeO.ite ?_ ?_)
   | (with_reducible refine LeO.bind ?_ (fun _ => ?_))
   | exact ih0 _ _
   | exact ih1 _ _ _ _
   | exact ih2 _ _ _ _ _ _ _ _ _ _ _ _ _
   | exact ih3 _ _ _ _ _ _ _ _ _ _ _ _ _ _
   | exact LeO.none _
   | refine LeO.ite ?_ ?_
   | refine LeO.bind ?_ (fun _ => ?_)
  ·intro y0 y1 y2 y3 y4 y5 y6 y7 y8 y9 y10 y11 y12
   unfold tree_Same.j1
   repeat' first
   | (with_reducible exact ih0 _ _)
   | (with_reducible exact ih1 _ _ _ _)
   | (with_reducible exact ih2 _ _ _ _ _ _ _ _ _ _ _ _ _)
   | (with_reducible exact ih3 _ _ _ _ _ _ _ _ _ _ _ _ _ _)
   | (with_reducible exact LeO.refl _)
   | (with_reducible exact LeO.none _)
   | (with_reducible refine LeO.ite ?_ ?_)
   | (with_reducible refine LeO.bind ?_ (fun _ => ?_))
   | exact ih0 _ _
   | exact ih1 _ _ _ _
   | exact ih2 _ _ _ _ _ _ _ _ _ _ _ _ _
   | exact ih3 _ _ _ _ _ _ _ _ _ _ _ _ _ _
   | exact LeO.none _
   | refine LeO.ite ?_ ?_
   | refine LeO.bind ?_ (fun _ => ?_)
  ·intro y0 y1 y2 y3 y4 y5 y6 y7 y8 y9 y10 y11 y12 y13
   unfold tree_Same.l1
   repeat' first
   | (with_reducible exact ih0 _ _)
   | (with_reducible exact ih1 _ _ _ _)
   | (with_reducible exact ih2 _ _ _ _ _ _ _ _ _ _ _ _ _)
   | (with_reducible exact ih3 _ _ _ _ _ _ _ _ _ _ _ _ _ _)
   | (with_reducible exact LeO.refl _)
   | (with_reducible exact LeO.none _)
   | (with_reducible refine LeO.ite ?_ ?_)
   | (with_reducible refine LeO.bind ?_ (fun _ => ?_))
   | exact ih0 _ _
   | exact ih1 _ _ _ _
   | exact ih2 _ _ _ _ _ _ _ _ _ _ _ _ _
   | exact ih3 _ _ _ _ _ _ _ _ _ _ _ _ _ _
   | exact LeO.none _
   | refine LeO.ite ?_ ?_
   | refine LeO.bind ?_ (fun _ => ?_)
theorem tree_Same.mono : ∀ a0 a1 k, LeO (tree_Same.f k a0 a1) (tree_Same.f (k + 1) a0 a1) := by
 intro a0 a1 k
 obtain ⟨ih0, ih1, ih2, ih3⟩ := tree_Same.mono_l k
 exact ih0 a0 a1
def tree_Same.T12 : Bool × List (List Nat × List Nat) := (true, [([], []), ([0], [0]), ([], []), ([1, 2], [1, 2]), ([3], [3]), ([], []), ([5], [5]), ([], []), ([6, 7], [6, 7]), ([8], [8]), ([4, 9], [4, 9]), ([10], [10])])
def tree_Same.B12 : List Nat := [0, 1, 0, 7, 15, 0, 32, 0, 224, 480, 1023, 2047]
theorem tree_Same.tab12 : rtab .any (opsOf Try.f16 12) = tree_Same.T12 := by kernel_rfl
theorem tree_Same.bits12 : waitsOk tree_Same.T12.2 tree_Same.B12 = true := by kernel_rfl
set_option maxHeartbeats 8000000 in
set_option maxRecDepth 100000 in
theorem tree_Same.calls (k : Nat) : ∀ (A0 : Option Addr) (c0 : Nat) (l0 : List (S38)) (A1 : Option Addr) (c1 : Nat) (l1 : List (S38)) (r : Bool) (w : World) (hr0 : Kd.C k38 w A0 l0.length l0) (hc0 : l0.length ≤ c0) (hr1 : Kd.C k38 w A1 l1.length l1) (hc1 : l1.length ≤ c1) (h : tree_Same.f k l0 l1 = some r),
  Calls Try.prog 16 #[.slice A0 l0.length c0, .slice A1 l1.length c1] w fun e w' => e = .returned (.bool r) ∧ Below w.heap.size w w' := by
 induction k using Nat.strongRecOn with
 | _ k ih =>
 intro A0 c0 l0 A1 c1 l1 r w hr0 hc0 hr1 hc1 h
 cases k with
 | zero => exact absurd h (by simp [tree_Same.f])
 | succ k =>
 simp only [tree_Same.f] at h
 have hu38 := Try.underlying38
 have HR0 := Aside0.mk hr0
 have HC0 := Aside0.mk hc0
 clear hr0 hc0
 have HR1 := Aside0.mk hr1
 have HC1 := Aside0.mk hc1
 clear hr1 hc1
 have HB := Aside0.mk (Below.refl w.heap.size w)
 have H : (if (l0.length : Int) = (l1.length : Int) then (tree_Same.l0 k l1 l0 (l0.length : Int) 0) else (some false)) = some r := h
 clear h
 by_cases c3 : (l0.length : Int) = (l1.length : Int)
 ·rw [if_pos c3] at H
  have c3b0 : ((l0.length : Int) == (l1.length : Int)) = true := beq_iff_eq.mpr c3
  have c3b1 : ((l0.length : Int) != (l1.length : Int)) = false := bne_eq_false_iff_eq.mpr c3
  have c3b2 : (l0.length == l1.length) = true := by first | simpa using c3 | (simp at c3 ⊢; omega)
  clear c3
  have H' := Aside0.mk H
  clear H
  go_enter Try.func16, Try.ntmps16
  go_wp2
  go_loopg [16] k (fun kq v16 w' => ∃ (x16_1 : Int), v16 = .int .i64 x16_1 ∧ Aside0 (tree_Same.l0 kq l1 l0 (l0.length : Int) x16_1 = some r) ∧ Aside0 (kq ≤ k) ∧ Aside0 (Below w.heap.size w w'))
  case atStart => exact ⟨(0), (by first | rfl | (simp; done) | (simp [*]; done)), H', ⟨Nat.le_refl _⟩, ⟨by repeat (first | (with_reducible first | exact HB.out | apply below_alloc | apply pw_below_drewN | apply below_drew1) | exact HB.out)⟩⟩
  case round =>
   clear H'
   try clear c1
   try clear p2
   try clear c3
   try clear c3b0
   try clear c3b1
   try clear c3b2
   obtain ⟨x16_1, rfl, HA, HK1, HB⟩ := hrel
   cases gk with
   | zero => exact absurd HA.out (by simp [tree_Same.l0])
   | succ k1 =>
    have H := HA.out
    clear HA
    simp only [tree_Same.l0] at H
    by_cases c4 : x16_1 < (l0.length : Int)
    ·rw [if_pos c4] at H
     have c4b0 : decide (x16_1 < (l0.length : Int)) = true := decide_eq_true c4
     clear c4
     by_cases c5 : 0 ≤ x16_1
     ·rw [if_pos c5] at H
      have c5b0 : decide (0 ≤ x16_1) = true := decide_eq_true c5
      clear c5
      by_cases c6 : x16_1 < (l0.length : Int)
      ·rw [if_pos c6] at H
       have c6b0 : decide (x16_1 < (l0.length : Int)) = true := decide_eq_true c6
       clear c6
       by_cases c7 : x16_1 < (l1.length : Int)
       ·rw [if_pos c7] at H
        have c7b0 : decide (x16_1 < (l1.length : Int)) = true := decide_eq_true c7
        clear c7
        have HC8 := Aside0.mk H
        clear H
        have p425 : 0 ≤ (x16_1 : Int) := of_decide_eq_true (by first | (with_reducible assumption) | assumption)
        have q425 : x16_1 < (l0.length : Int) := of_decide_eq_true (by first | (with_reducible assumption) | assumption)
        obtain ⟨ad425, A425_2, c425_2, e425, hx425_0, hx425_1, hx425_2, hx425_3, hl425_2, hi425_2⟩ := at_T38 HR0.out x16_1 p425 q425
        cases e425
        replace hx425_0 := (HB.out.cell (World.block_lt_of_cell? w _ hx425_0)).trans hx425_0
        replace hx425_1 := (HB.out.cell (World.block_lt_of_cell? w _ hx425_1)).trans hx425_1
        replace hx425_2 := (HB.out.cell (World.block_lt_of_cell? w _ hx425_2)).trans hx425_2
        replace hx425_3 := (HB.out.cell (World.block_lt_of_cell? w _ hx425_3)).trans hx425_3
        have HR425_2 := Aside0.mk hi425_2
        have HC425_2 := Aside0.mk hl425_2
        clear hi425_2 hl425_2
        replace p425 := eq_true p425
        replace q425 := eq_true q425
        go_upto_region 7 with (first | ((with_reducible refine gate_dst (N := 6) rfl ?_); (try (refine gate_guard (by rfl) ?_; dsimp only)); refine box_event ?hg (N := 6) ?hd (cs := #[.bool false, .string (⟨#[]⟩ : ByteArray), .slice none 0 0, .int .i64 0]) (t := 38) ?hr ?_; (case hd => rfl); (case hg => rfl); (case hr => first | (go_simp; done) | (go_simp; rfl)); intro gb426 hg w9 hbox hb; have n0_ := Aside0.mk (below_step (by repeat (first | (with_reducible first | exact HB.out | apply below_alloc | apply pw_below_drewN | apply below_drew1) | exact HB.out)) hb); have n1_ := Aside0.mk (hbox); have n2_ := Aside0.mk ((by rw [hg]; exact (below_size (by repeat (first | (with_reducible first | exact HB.out | apply below_alloc | apply pw_below_drewN | apply below_drew1) | exact HB.out))) : w.heap.size ≤ gb426)); have n3_ := Aside0.mk ((by rw [hg]; exact (below_size (by repeat (first | (with_reducible first | exact HB.out | apply below_alloc | apply pw_below_drewN | apply below_drew1) | exact HB.out))) : w.heap.size ≤ gb426)); clear HB; have HB := n0_; have BK426 := n1_; have GW426 := n2_; have GE426 := n3_; clear n0_ n1_ n2_ n3_; clear hb hbox hg; have hcz10_0 : w9.cell? ⟨gb426, 0, none⟩ = some (.bool false) := (blk_cell BK426.out 0).trans rfl; have hcz10_1 : w9.cell? ⟨gb426, 1, none⟩ = some (.string (⟨#[]⟩ : ByteArray)) := (blk_cell BK426.out 1).trans rfl; have hcz10_2 : w9.cell? ⟨gb426, 2, none⟩ = some (.slice none 0 0) := (blk_cell BK426.out 2).trans rfl; have hcz10_3 : w9.cell? ⟨gb426, 3, none⟩ = some (.int .i64 0) := (blk_cell BK426.out 3).trans rfl; have hfz10_0 := blk_frozen BK426.out 0; have hfz10_1 := blk_frozen BK426.out 1; have hfz10_2 := blk_frozen BK426.out 2; have hfz10_3 := blk_frozen BK426.out 3; have p427 : 0 ≤ (x16_1 : Int) := of_decide_eq_true (by first | (with_reducible assumption) | assumption); have q427 : x16_1 < (l1.length : Int) := of_decide_eq_true (by first | (with_reducible assumption) | assumption); obtain ⟨ad427, A427_2, c427_2, e427, hx427_0, hx427_1, hx427_2, hx427_3, hl427_2, hi427_2⟩ := at_T38 HR1.out x16_1 p427 q427; cases e427; have hn427_0 : ad427.block ≠ gb426 := Nat.ne_of_lt (Nat.lt_of_lt_of_le (by have := World.block_lt_of_cell? _ _ hx427_0; first | rwa [add_block] at this | exact this) GW426.out); have hn427_1 : ad427.block ≠ gb426 := Nat.ne_of_lt (Nat.lt_of_lt_of_le (by have := World.block_lt_of_cell? _ _ hx427_0; first | rwa [add_block] at this | exact this) GW426.out); have hn427_2 : ad427.block ≠ gb426 := Nat.ne_of_lt (Nat.lt_of_lt_of_le (by have := World.block_lt_of_cell? _ _ hx427_0; first | rwa [add_block] at this | exact this) GW426.out); have hn427_3 : ad427.block ≠ gb426 := Nat.ne_of_lt (Nat.lt_of_lt_of_le (by have := World.block_lt_of_cell? _ _ hx427_0; first | rwa [add_block] at this | exact this) GW426.out); replace hx427_0 := (HB.out.cell (World.block_lt_of_cell? w _ hx427_0)).trans hx427_0; replace hx427_1 := (HB.out.cell (World.block_lt_of_cell? w _ hx427_1)).trans hx427_1; replace hx427_2 := (HB.out.cell (World.block_lt_of_cell? w _ hx427_2)).trans hx427_2; replace hx427_3 := (HB.out.cell (World.block_lt_of_cell? w _ hx427_3)).trans hx427_3; have HR427_2 := Aside0.mk hi427_2; have HC427_2 := Aside0.mk hl427_2; clear hi427_2 hl427_2; replace hx427_0 := (cell_far (p := ⟨gb426, 0, none⟩) (by first | (rw [add_block]; exact hn427_0) | (show (Addr.add _ _).block ≠ _; rw [add_block]; exact hn427_0) | exact hn427_0) (.bool ((rd_T38 l0 x16_1).f0))).trans hx427_0; replace hx427_1 := (cell_far (p := ⟨gb426, 0, none⟩) (by first | (rw [add_block]; exact hn427_0) | (show (Addr.add _ _).block ≠ _; rw [add_block]; exact hn427_0) | exact hn427_0) (.bool ((rd_T38 l0 x16_1).f0))).trans hx427_1; replace hx427_2 := (cell_far (p := ⟨gb426, 0, none⟩) (by first | (rw [add_block]; exact hn427_0) | (show (Addr.add _ _).block ≠ _; rw [add_block]; exact hn427_0) | exact hn427_0) (.bool ((rd_T38 l0 x16_1).f0))).trans hx427_2; replace hx427_3 := (cell_far (p := ⟨gb426, 0, none⟩) (by first | (rw [add_block]; exact hn427_0) | (show (Addr.add _ _).block ≠ _; rw [add_block]; exact hn427_0) | exact hn427_0) (.bool ((rd_T38 l0 x16_1).f0))).trans hx427_3; replace hx427_0 := (cell_far (p := ⟨gb426, 1, none⟩) (by first | (rw [add_block]; exact hn427_1) | (show (Addr.add _ _).block ≠ _; rw [add_block]; exact hn427_1) | exact hn427_1) (.string ((rd_T38 l0 x16_1).f1))).trans hx427_0; replace hx427_1 := (cell_far (p := ⟨gb426, 1, none⟩) (by first | (rw [add_block]; exact hn427_1) | (show (Addr.add _ _).block ≠ _; rw [add_block]; exact hn427_1) | exact hn427_1) (.string ((rd_T38 l0 x16_1).f1))).trans hx427_1; replace hx427_2 := (cell_far (p := ⟨gb426, 1, none⟩) (by first | (rw [add_block]; exact hn427_1) | (show (Addr.add _ _).block ≠ _; rw [add_block]; exact hn427_1) | exact hn427_1) (.string ((rd_T38 l0 x16_1).f1))).trans hx427_2; replace hx427_3 := (cell_far (p := ⟨gb426, 1, none⟩) (by first | (rw [add_block]; exact hn427_1) | (show (Addr.add _ _).block ≠ _; rw [add_block]; exact hn427_1) | exact hn427_1) (.string ((rd_T38 l0 x16_1).f1))).trans hx427_3; replace hx427_0 := (cell_far (p := ⟨gb426, 2, none⟩) (by first | (rw [add_block]; exact hn427_2) | (show (Addr.add _ _).block ≠ _; rw [add_block]; exact hn427_2) | exact hn427_2) (.slice A425_2 ((rd_T38 l0 x16_1).f2).length c425_2)).trans hx427_0; replace hx427_1 := (cell_far (p := ⟨gb426, 2, none⟩) (by first | (rw [add_block]; exact hn427_2) | (show (Addr.add _ _).block ≠ _; rw [add_block]; exact hn427_2) | exact hn427_2) (.slice A425_2 ((rd_T38 l0 x16_1).f2).length c425_2)).trans hx427_1; replace hx427_2 := (cell_far (p := ⟨gb426, 2, none⟩) (by first | (rw [add_block]; exact hn427_2) | (show (Addr.add _ _).block ≠ _; rw [add_block]; exact hn427_2) | exact hn427_2) (.slice A425_2 ((rd_T38 l0 x16_1).f2).length c425_2)).trans hx427_2; replace hx427_3 := (cell_far (p := ⟨gb426, 2, none⟩) (by first | (rw [add_block]; exact hn427_2) | (show (Addr.add _ _).block ≠ _; rw [add_block]; exact hn427_2) | exact hn427_2) (.slice A425_2 ((rd_T38 l0 x16_1).f2).length c425_2)).trans hx427_3; replace hx427_0 := (cell_far (p := ⟨gb426, 3, none⟩) (by first | (rw [add_block]; exact hn427_3) | (show (Addr.add _ _).block ≠ _; rw [add_block]; exact hn427_3) | exact hn427_3) (.int .i64 ((rd_T38 l0 x16_1).f3))).trans hx427_0; replace hx427_1 := (cell_far (p := ⟨gb426, 3, none⟩) (by first | (rw [add_block]; exact hn427_3) | (show (Addr.add _ _).block ≠ _; rw [add_block]; exact hn427_3) | exact hn427_3) (.int .i64 ((rd_T38 l0 x16_1).f3))).trans hx427_1; replace hx427_2 := (cell_far (p := ⟨gb426, 3, none⟩) (by first | (rw [add_block]; exact hn427_3) | (show (Addr.add _ _).block ≠ _; rw [add_block]; exact hn427_3) | exact hn427_3) (.int .i64 ((rd_T38 l0 x16_1).f3))).trans hx427_2; replace hx427_3 := (cell_far (p := ⟨gb426, 3, none⟩) (by first | (rw [add_block]; exact hn427_3) | (show (Addr.add _ _).block ≠ _; rw [add_block]; exact hn427_3) | exact hn427_3) (.int .i64 ((rd_T38 l0 x16_1).f3))).trans hx427_3; clear hn427_0; clear hn427_1; clear hn427_2; clear hn427_3; replace p427 := eq_true p427; replace q427 := eq_true q427) | ((with_reducible refine gate_dst (N := 7) rfl ?_); (try (refine gate_guard (by rfl) ?_; dsimp only)); refine box_event ?hg (N := 7) ?hd (cs := #[.bool false, .string (⟨#[]⟩ : ByteArray), .slice none 0 0, .int .i64 0]) (t := 38) ?hr ?_; (case hd => rfl); (case hg => rfl); (case hr => first | (go_simp; done) | (go_simp; rfl)); intro gb428 hg w11 hbox hb; have n0_ := Aside0.mk (blk_below (g := gb426) (o := .cells #[.bool ((rd_T38 l0 x16_1).f0), .string ((rd_T38 l0 x16_1).f1), .slice A425_2 ((rd_T38 l0 x16_1).f2).length c425_2, .int .i64 ((rd_T38 l0 x16_1).f3)] 38 (0, 0)) (by (with_reducible repeat (first | refine blk_drewN ?_ _ | refine blk_drew ?_ | refine blk_alloc ?_ _)); refine blk_put (cs := #[.bool ((rd_T38 l0 x16_1).f0), .string ((rd_T38 l0 x16_1).f1), .slice A425_2 ((rd_T38 l0 x16_1).f2).length c425_2, .int .i64 0]) ?_ 3 _ rfl; (with_reducible repeat (first | refine blk_drewN ?_ _ | refine blk_drew ?_ | refine blk_alloc ?_ _)); refine blk_put (cs := #[.bool ((rd_T38 l0 x16_1).f0), .string ((rd_T38 l0 x16_1).f1), .slice none 0 0, .int .i64 0]) ?_ 2 _ rfl; (with_reducible repeat (first | refine blk_drewN ?_ _ | refine blk_drew ?_ | refine blk_alloc ?_ _)); refine blk_put (cs := #[.bool ((rd_T38 l0 x16_1).f0), .string (⟨#[]⟩ : ByteArray), .slice none 0 0, .int .i64 0]) ?_ 1 _ rfl; (with_reducible repeat (first | refine blk_drewN ?_ _ | refine blk_drew ?_ | refine blk_alloc ?_ _)); refine blk_put (cs := #[.bool false, .string (⟨#[]⟩ : ByteArray), .slice none 0 0, .int .i64 0]) ?_ 0 _ rfl; (with_reducible repeat (first | refine blk_drewN ?_ _ | refine blk_drew ?_ | refine blk_alloc ?_ _)); exact BK426.out) hb); have n1_ := Aside0.mk (below_step (by repeat (first | (with_reducible first | exact HB.out | apply below_alloc | apply pw_below_drewN | apply below_drew1 | refine below_set ?_ GE426.out) | exact HB.out)) hb); have n2_ := Aside0.mk (hbox); have n3_ := Aside0.mk ((by rw [hg]; exact (below_size (by repeat (first | (with_reducible first | exact HB.out | apply below_alloc | apply pw_below_drewN | apply below_drew1 | refine below_set ?_ GE426.out) | exact HB.out))) : w.heap.size ≤ gb428)); have n4_ := Aside0.mk ((by rw [hg]; exact (below_size (by repeat (first | (with_reducible first | exact HB.out | apply below_alloc | apply pw_below_drewN | apply below_drew1 | refine below_set ?_ GE426.out) | exact HB.out))) : w.heap.size ≤ gb428)); have n5_ := Aside0.mk ((by rw [hg]; exact Nat.ne_of_lt (blk_lt (g := gb426) (o := .cells #[.bool ((rd_T38 l0 x16_1).f0), .string ((rd_T38 l0 x16_1).f1), .slice A425_2 ((rd_T38 l0 x16_1).f2).length c425_2, .int .i64 ((rd_T38 l0 x16_1).f3)] 38 (0, 0)) (by (with_reducible repeat (first | refine blk_drewN ?_ _ | refine blk_drew ?_ | refine blk_alloc ?_ _)); refine blk_put (cs := #[.bool ((rd_T38 l0 x16_1).f0), .string ((rd_T38 l0 x16_1).f1), .slice A425_2 ((rd_T38 l0 x16_1).f2).length c425_2, .int .i64 0]) ?_ 3 _ rfl; (with_reducible repeat (first | refine blk_drewN ?_ _ | refine blk_drew ?_ | refine blk_alloc ?_ _)); refine blk_put (cs := #[.bool ((rd_T38 l0 x16_1).f0), .string ((rd_T38 l0 x16_1).f1), .slice none 0 0, .int .i64 0]) ?_ 2 _ rfl; (with_reducible repeat (first | refine blk_drewN ?_ _ | refine blk_drew ?_ | refine blk_alloc ?_ _)); refine blk_put (cs := #[.bool ((rd_T38 l0 x16_1).f0), .string (⟨#[]⟩ : ByteArray), .slice none 0 0, .int .i64 0]) ?_ 1 _ rfl; (with_reducible repeat (first | refine blk_drewN ?_ _ | refine blk_drew ?_ | refine blk_alloc ?_ _)); refine blk_put (cs := #[.bool false, .string (⟨#[]⟩ : ByteArray), .slice none 0 0, .int .i64 0]) ?_ 0 _ rfl; (with_reducible repeat (first | refine blk_drewN ?_ _ | refine blk_drew ?_ | refine blk_alloc ?_ _)); exact BK426.out)) : gb426 ≠ gb428)); have n6_ := Aside0.mk ((by rw [hg]; exact Nat.ne_of_gt (blk_lt (g := gb426) (o := .cells #[.bool ((rd_T38 l0 x16_1).f0), .string ((rd_T38 l0 x16_1).f1), .slice A425_2 ((rd_T38 l0 x16_1).f2).length c425_2, .int .i64 ((rd_T38 l0 x16_1).f3)] 38 (0, 0)) (by (with_reducible repeat (first | refine blk_drewN ?_ _ | refine blk_drew ?_ | refine blk_alloc ?_ _)); refine blk_put (cs := #[.bool ((rd_T38 l0 x16_1).f0), .string ((rd_T38 l0 x16_1).f1), .slice A425_2 ((rd_T38 l0 x16_1).f2).length c425_2, .int .i64 0]) ?_ 3 _ rfl; (with_reducible repeat (first | refine blk_drewN ?_ _ | refine blk_drew ?_ | refine blk_alloc ?_ _)); refine blk_put (cs := #[.bool ((rd_T38 l0 x16_1).f0), .string ((rd_T38 l0 x16_1).f1), .slice none 0 0, .int .i64 0]) ?_ 2 _ rfl; (with_reducible repeat (first | refine blk_drewN ?_ _ | refine blk_drew ?_ | refine blk_alloc ?_ _)); refine blk_put (cs := #[.bool ((rd_T38 l0 x16_1).f0), .string (⟨#[]⟩ : ByteArray), .slice none 0 0, .int .i64 0]) ?_ 1 _ rfl; (with_reducible repeat (first | refine blk_drewN ?_ _ | refine blk_drew ?_ | refine blk_alloc ?_ _)); refine blk_put (cs := #[.bool false, .string (⟨#[]⟩ : ByteArray), .slice none 0 0, .int .i64 0]) ?_ 0 _ rfl; (with_reducible repeat (first | refine blk_drewN ?_ _ | refine blk_drew ?_ | refine blk_alloc ?_ _)); exact BK426.out)) : gb428 ≠ gb426)); clear BK426; clear HB; have BK426 := n0_; have HB := n1_; have BK428 := n2_; have GW428 := n3_; have GE428 := n4_; have NB426_428 := n5_; have NB428_426 := n6_; clear n0_ n1_ n2_ n3_ n4_ n5_ n6_; clear hb hbox hg; have hnb12 := NB428_426.out; have hnc12 := NB426_428.out; have hcz13_0 : w11.cell? ⟨gb428, 0, none⟩ = some (.bool false) := (blk_cell BK428.out 0).trans rfl; have hcz13_1 : w11.cell? ⟨gb428, 1, none⟩ = some (.string (⟨#[]⟩ : ByteArray)) := (blk_cell BK428.out 1).trans rfl; have hcz13_2 : w11.cell? ⟨gb428, 2, none⟩ = some (.slice none 0 0) := (blk_cell BK428.out 2).trans rfl; have hcz13_3 : w11.cell? ⟨gb428, 3, none⟩ = some (.int .i64 0) := (blk_cell BK428.out 3).trans rfl; have hfz13_0 := blk_frozen BK428.out 0; have hfz13_1 := blk_frozen BK428.out 1; have hfz13_2 := blk_frozen BK428.out 2; have hfz13_3 := blk_frozen BK428.out 3))
        (try simp only [Act.put, List.setIfInBounds_toArray, List.set_cons_zero, List.set_cons_succ])
        go_cut [45] (fun v45 wc => ∃ (kq : Nat) (x45_7 : Bool), v45 = .bool x45_7 ∧ Aside0 (tree_Same.j1 kq l1 l0 (l0.length : Int) x16_1 x45_7 ((rd_T38 l0 x16_1).f0) ((rd_T38 l0 x16_1).f1) ((rd_T38 l0 x16_1).f2) ((rd_T38 l0 x16_1).f3) ((rd_T38 l1 x16_1).f0) ((rd_T38 l1 x16_1).f1) ((rd_T38 l1 x16_1).f2) ((rd_T38 l1 x16_1).f3) = some r) ∧ Aside0 (kq ≤ k1) ∧ Aside0 (wc.heap[gb426]? = some (.cells #[.bool ((rd_T38 l0 x16_1).f0), .string ((rd_T38 l0 x16_1).f1), (.slice A425_2 ((rd_T38 l0 x16_1).f2).length c425_2), .int .i64 ((rd_T38 l0 x16_1).f3)] 38 (0, 0))) ∧ Aside0 (wc.heap[gb428]? = some (.cells #[.bool ((rd_T38 l1 x16_1).f0), .string ((rd_T38 l1 x16_1).f1), (.slice A427_2 ((rd_T38 l1 x16_1).f2).length c427_2), .int .i64 ((rd_T38 l1 x16_1).f3)] 38 (0, 0))) ∧ Aside0 (Below w.heap.size w wc))
        case first =>
         have H := HC8.out
         clear HC8
         by_cases c14 : (((rd_T38 l0 x16_1).f0) != ((rd_T38 l1 x16_1).f0)) = true
         ·rw [if_pos c14] at H
          have c14b0 : (((rd_T38 l0 x16_1).f0) != ((rd_T38 l1 x16_1).f0)) = true := c14
          (try (have c14b1 : decide (((rd_T38 l0 x16_1).f0) = ((rd_T38 l1 x16_1).f0)) = false := by simpa using c14))
          (try (have c14b2 : (((rd_T38 l0 x16_1).f0) == ((rd_T38 l1 x16_1).f0)) = false := by simpa using c14))
          (try (have c14b3 : ¬ (((rd_T38 l0 x16_1).f0) = ((rd_T38 l1 x16_1).f0)) := by simpa using c14))
          clear c14
          (first | rw [c14b0] | (simp only [i64_w, i32_w]; rw [c14b0]) | skip)
          have H' := Aside0.mk H
          clear H
          have hnb15 := NB426_428.out
          have hnc15 := NB428_426.out
          have hcz16_0 : w11.cell? ⟨gb426, 0, none⟩ = some (.bool ((rd_T38 l0 x16_1).f0)) := (blk_cell BK426.out 0).trans rfl
          have hcz16_1 : w11.cell? ⟨gb426, 1, none⟩ = some (.string ((rd_T38 l0 x16_1).f1)) := (blk_cell BK426.out 1).trans rfl
          have hcz16_2 : w11.cell? ⟨gb426, 2, none⟩ = some (.slice A425_2 ((rd_T38 l0 x16_1).f2).length c425_2) := (blk_cell BK426.out 2).trans rfl
          have hcz16_3 : w11.cell? ⟨gb426, 3, none⟩ = some (.int .i64 ((rd_T38 l0 x16_1).f3)) := (blk_cell BK426.out 3).trans rfl
          have hfz16_0 := blk_frozen BK426.out 0
          have hfz16_1 := blk_frozen BK426.out 1
          have hfz16_2 := blk_frozen BK426.out 2
          have hfz16_3 := blk_frozen BK426.out 3
          have hcz17_0 : w11.cell? ⟨gb428, 0, none⟩ = some (.bool false) := (blk_cell BK428.out 0).trans rfl
          have hcz17_1 : w11.cell? ⟨gb428, 1, none⟩ = some (.string (⟨#[]⟩ : ByteArray)) := (blk_cell BK428.out 1).trans rfl
          have hcz17_2 : w11.cell? ⟨gb428, 2, none⟩ = some (.slice none 0 0) := (blk_cell BK428.out 2).trans rfl
          have hcz17_3 : w11.cell? ⟨gb428, 3, none⟩ = some (.int .i64 0) := (blk_cell BK428.out 3).trans rfl
          have hfz17_0 := blk_frozen BK428.out 0
          have hfz17_1 := blk_frozen BK428.out 1
          have hfz17_2 := blk_frozen BK428.out 2
          have hfz17_3 := blk_frozen BK428.out 3
          go_wp2
          go_meet
          case rel => exact ⟨_, (true), (by first | rfl | (simp; done) | (simp [*]; done)), H', ⟨by have := HK1.out; first | omega | exact Nat.le_refl _⟩, ⟨by (with_reducible repeat (first | refine blk_drewN ?_ _ | refine blk_drew ?_ | refine blk_alloc ?_ _)); refine blk_far ?_ NB426_428.out _; (with_reducible repeat (first | refine blk_drewN ?_ _ | refine blk_drew ?_ | refine blk_alloc ?_ _)); refine blk_far ?_ NB426_428.out _; (with_reducible repeat (first | refine blk_drewN ?_ _ | refine blk_drew ?_ | refine blk_alloc ?_ _)); refine blk_far ?_ NB426_428.out _; (with_reducible repeat (first | refine blk_drewN ?_ _ | refine blk_drew ?_ | refine blk_alloc ?_ _)); refine blk_far ?_ NB426_428.out _; (with_reducible repeat (first | refine blk_drewN ?_ _ | refine blk_drew ?_ | refine blk_alloc ?_ _)); exact BK426.out⟩, ⟨by (with_reducible repeat (first | refine blk_drewN ?_ _ | refine blk_drew ?_ | refine blk_alloc ?_ _)); refine blk_put (cs := #[.bool ((rd_T38 l1 x16_1).f0), .string ((rd_T38 l1 x16_1).f1), .slice A427_2 ((rd_T38 l1 x16_1).f2).length c427_2, .int .i64 0]) ?_ 3 _ rfl; (with_reducible repeat (first | refine blk_drewN ?_ _ | refine blk_drew ?_ | refine blk_alloc ?_ _)); refine blk_put (cs := #[.bool ((rd_T38 l1 x16_1).f0), .string ((rd_T38 l1 x16_1).f1), .slice none 0 0, .int .i64 0]) ?_ 2 _ rfl; (with_reducible repeat (first | refine blk_drewN ?_ _ | refine blk_drew ?_ | refine blk_alloc ?_ _)); refine blk_put (cs := #[.bool ((rd_T38 l1 x16_1).f0), .string (⟨#[]⟩ : ByteArray), .slice none 0 0, .int .i64 0]) ?_ 1 _ rfl; (with_reducible repeat (first | refine blk_drewN ?_ _ | refine blk_drew ?_ | refine blk_alloc ?_ _)); refine blk_put (cs := #[.bool false, .string (⟨#[]⟩ : ByteArray), .slice none 0 0, .int .i64 0]) ?_ 0 _ rfl; (with_reducible repeat (first | refine blk_drewN ?_ _ | refine blk_drew ?_ | refine blk_alloc ?_ _)); exact BK428.out⟩, ⟨by repeat (first | (with_reducible first | exact HB.out | apply below_alloc | apply pw_below_drewN | apply below_drew1 | refine below_set ?_ GE426.out | refine below_set ?_ GE428.out) | exact HB.out)⟩⟩
         ·rw [if_neg c14] at H
          have c14b0 : (((rd_T38 l0 x16_1).f0) != ((rd_T38 l1 x16_1).f0)) = false := by simpa using c14
          (try (have c14b1 : decide (((rd_T38 l0 x16_1).f0) = ((rd_T38 l1 x16_1).f0)) = true := by simpa using c14))
          (try (have c14b2 : (((rd_T38 l0 x16_1).f0) == ((rd_T38 l1 x16_1).f0)) = true := by simpa using c14))
          clear c14
          (first | rw [c14b0] | (simp only [i64_w, i32_w]; rw [c14b0]) | skip)
          by_cases c18 : ((rd_T38 l0 x16_1).f1).toList = ((rd_T38 l1 x16_1).f1).toList
          ·rw [if_pos c18] at H
           have c18b0 : (((rd_T38 l0 x16_1).f1).toList == ((rd_T38 l1 x16_1).f1).toList) = true := beq_iff_eq.mpr c18
           have c18b1 : (((rd_T38 l0 x16_1).f1).toList != ((rd_T38 l1 x16_1).f1).toList) = false := bne_eq_false_iff_eq.mpr c18
           clear c18
           have H' := Aside0.mk H
           clear H
           have hnb19 := NB426_428.out
           have hnc19 := NB428_426.out
           have hcz20_0 : w11.cell? ⟨gb426, 0, none⟩ = some (.bool ((rd_T38 l0 x16_1).f0)) := (blk_cell BK426.out 0).trans rfl
           have hcz20_1 : w11.cell? ⟨gb426, 1, none⟩ = some (.string ((rd_T38 l0 x16_1).f1)) := (blk_cell BK426.out 1).trans rfl
           have hcz20_2 : w11.cell? ⟨gb426, 2, none⟩ = some (.slice A425_2 ((rd_T38 l0 x16_1).f2).length c425_2) := (blk_cell BK426.out 2).trans rfl
           have hcz20_3 : w11.cell? ⟨gb426, 3, none⟩ = some (.int .i64 ((rd_T38 l0 x16_1).f3)) := (blk_cell BK426.out 3).trans rfl
           have hfz20_0 := blk_frozen BK426.out 0
           have hfz20_1 := blk_frozen BK426.out 1
           have hfz20_2 := blk_frozen BK426.out 2
           have hfz20_3 := blk_frozen BK426.out 3
           have hcz21_0 : w11.cell? ⟨gb428, 0, none⟩ = some (.bool false) := (blk_cell BK428.out 0).trans rfl
           have hcz21_1 : w11.cell? ⟨gb428, 1, none⟩ = some (.string (⟨#[]⟩ : ByteArray)) := (blk_cell BK428.out 1).trans rfl
           have hcz21_2 : w11.cell? ⟨gb428, 2, none⟩ = some (.slice none 0 0) := (blk_cell BK428.out 2).trans rfl
           have hcz21_3 : w11.cell? ⟨gb428, 3, none⟩ = some (.int .i64 0) := (blk_cell BK428.out 3).trans rfl
           have hfz21_0 := blk_frozen BK428.out 0
           have hfz21_1 := blk_frozen BK428.out 1
           have hfz21_2 := blk_frozen BK428.out 2
           have hfz21_3 := blk_frozen BK428.out 3
           go_wp2
           go_meet
           case rel => exact ⟨_, (((((rd_T38 l0 x16_1).f2).length : Int) != (((rd_T38 l1 x16_1).f2).length : Int))), (by first | rfl | (simp; done) | (simp [*]; done)), H', ⟨by have := HK1.out; first | omega | exact Nat.le_refl _⟩, ⟨by (with_reducible repeat (first | refine blk_drewN ?_ _ | refine blk_drew ?_ | refine blk_alloc ?_ _)); refine blk_far ?_ NB426_428.out _; (with_reducible repeat (first | refine blk_drewN ?_ _ | refine blk_drew ?_ | refine blk_alloc ?_ _)); refine blk_far ?_ NB426_428.out _; (with_reducible repeat (first | refine blk_drewN ?_ _ | refine blk_drew ?_ | refine blk_alloc ?_ _)); refine blk_far ?_ NB426_428.out _; (with_reducible repeat (first | refine blk_drewN ?_ _ | refine blk_drew ?_ | refine blk_alloc ?_ _)); refine blk_far ?_ NB426_428.out _; (with_reducible repeat (first | refine blk_drewN ?_ _ | refine blk_drew ?_ | refine blk_alloc ?_ _)); exact BK426.out⟩, ⟨by (with_reducible repeat (first | refine blk_drewN ?_ _ | refine blk_drew ?_ | refine blk_alloc ?_ _)); refine blk_put (cs := #[.bool ((rd_T38 l1 x16_1).f0), .string ((rd_T38 l1 x16_1).f1), .slice A427_2 ((rd_T38 l1 x16_1).f2).length c427_2, .int .i64 0]) ?_ 3 _ rfl; (with_reducible repeat (first | refine blk_drewN ?_ _ | refine blk_drew ?_ | refine blk_alloc ?_ _)); refine blk_put (cs := #[.bool ((rd_T38 l1 x16_1).f0), .string ((rd_T38 l1 x16_1).f1), .slice none 0 0, .int .i64 0]) ?_ 2 _ rfl; (with_reducible repeat (first | refine blk_drewN ?_ _ | refine blk_drew ?_ | refine blk_alloc ?_ _)); refine blk_put (cs := #[.bool ((rd_T38 l1 x16_1).f0), .string (⟨#[]⟩ : ByteArray), .slice none 0 0, .int .i64 0]) ?_ 1 _ rfl; (with_reducible repeat (first | refine blk_drewN ?_ _ | refine blk_drew ?_ | refine blk_alloc ?_ _)); refine blk_put (cs := #[.bool false, .string (⟨#[]⟩ : ByteArray), .slice none 0 0, .int .i64 0]) ?_ 0 _ rfl; (with_reducible repeat (first | refine blk_drewN ?_ _ | refine blk_drew ?_ | refine blk_alloc ?_ _)); exact BK428.out⟩, ⟨by repeat (first | (with_reducible first | exact HB.out | apply below_alloc | apply pw_below_drewN | apply below_drew1 | refine below_set ?_ GE426.out | refine below_set ?_ GE428.out) | exact HB.out)⟩⟩
          ·rw [if_neg c18] at H
           have c18b0 : (((rd_T38 l0 x16_1).f1).toList == ((rd_T38 l1 x16_1).f1).toList) = false := beq_eq_false_iff_ne.mpr c18
           have c18b1 : (((rd_T38 l0 x16_1).f1).toList != ((rd_T38 l1 x16_1).f1).toList) = true := bne_iff_ne.mpr c18
           have H' := Aside0.mk H
           clear H
           have hnb22 := NB426_428.out
           have hnc22 := NB428_426.out
           have hcz23_0 : w11.cell? ⟨gb426, 0, none⟩ = some (.bool ((rd_T38 l0 x16_1).f0)) := (blk_cell BK426.out 0).trans rfl
           have hcz23_1 : w11.cell? ⟨gb426, 1, none⟩ = some (.string ((rd_T38 l0 x16_1).f1)) := (blk_cell BK426.out 1).trans rfl
           have hcz23_2 : w11.cell? ⟨gb426, 2, none⟩ = some (.slice A425_2 ((rd_T38 l0 x16_1).f2).length c425_2) := (blk_cell BK426.out 2).trans rfl
           have hcz23_3 : w11.cell? ⟨gb426, 3, none⟩ = some (.int .i64 ((rd_T38 l0 x16_1).f3)) := (blk_cell BK426.out 3).trans rfl
           have hfz23_0 := blk_frozen BK426.out 0
           have hfz23_1 := blk_frozen BK426.out 1
           have hfz23_2 := blk_frozen BK426.out 2
           have hfz23_3 := blk_frozen BK426.out 3
           have hcz24_0 : w11.cell? ⟨gb428, 0, none⟩ = some (.bool false) := (blk_cell BK428.out 0).trans rfl
           have hcz24_1 : w11.cell? ⟨gb428, 1, none⟩ = some (.string (⟨#[]⟩ : ByteArray)) := (blk_cell BK428.out 1).trans rfl
           have hcz24_2 : w11.cell? ⟨gb428, 2, none⟩ = some (.slice none 0 0) := (blk_cell BK428.out 2).trans rfl
           have hcz24_3 : w11.cell? ⟨gb428, 3, none⟩ = some (.int .i64 0) := (blk_cell BK428.out 3).trans rfl
           have hfz24_0 := blk_frozen BK428.out 0
           have hfz24_1 := blk_frozen BK428.out 1
           have hfz24_2 := blk_frozen BK428.out 2
           have hfz24_3 := blk_frozen BK428.out 3
           go_wp2
           go_meet
           case rel => exact ⟨_, (true), (by first | rfl | (simp; done) | (simp [*]; done)), H', ⟨by have := HK1.out; first | omega | exact Nat.le_refl _⟩, ⟨by (with_reducible repeat (first | refine blk_drewN ?_ _ | refine blk_drew ?_ | refine blk_alloc ?_ _)); refine blk_far ?_ NB426_428.out _; (with_reducible repeat (first | refine blk_drewN ?_ _ | refine blk_drew ?_ | refine blk_alloc ?_ _)); refine blk_far ?_ NB426_428.out _; (with_reducible repeat (first | refine blk_drewN ?_ _ | refine blk_drew ?_ | refine blk_alloc ?_ _)); refine blk_far ?_ NB426_428.out _; (with_reducible repeat (first | refine blk_drewN ?_ _ | refine blk_drew ?_ | refine blk_alloc ?_ _)); refine blk_far ?_ NB426_428.out _; (with_reducible repeat (first | refine blk_drewN ?_ _ | refine blk_drew ?_ | refine blk_alloc ?_ _)); exact BK426.out⟩, ⟨by (with_reducible repeat (first | refine blk_drewN ?_ _ | refine blk_drew ?_ | refine blk_alloc ?_ _)); refine blk_put (cs := #[.bool ((rd_T38 l1 x16_1).f0), .string ((rd_T38 l1 x16_1).f1), .slice A427_2 ((rd_T38 l1 x16_1).f2).length c427_2, .int .i64 0]) ?_ 3 _ rfl; (with_reducible repeat (first | refine blk_drewN ?_ _ | refine blk_drew ?_ | refine blk_alloc ?_ _)); refine blk_put (cs := #[.bool ((rd_T38 l1 x16_1).f0), .string ((rd_T38 l1 x16_1).f1), .slice none 0 0, .int .i64 0]) ?_ 2 _ rfl; (with_reducible repeat (first | refine blk_drewN ?_ _ | refine blk_drew ?_ | refine blk_alloc ?_ _)); refine blk_put (cs := #[.bool ((rd_T38 l1 x16_1).f0), .string (⟨#[]⟩ : ByteArray), .slice none 0 0, .int .i64 0]) ?_ 1 _ rfl; (with_reducible repeat (first | refine blk_drewN ?_ _ | refine blk_drew ?_ | refine blk_alloc ?_ _)); refine blk_put (cs := #[.bool false, .string (⟨#[]⟩ : ByteArray), .slice none 0 0, .int .i64 0]) ?_ 0 _ rfl; (with_reducible repeat (first | refine blk_drewN ?_ _ | refine blk_drew ?_ | refine blk_alloc ?_ _)); exact BK428.out⟩, ⟨by repeat (first | (with_reducible first | exact HB.out | apply below_alloc | apply pw_below_drewN | apply below_drew1 | refine below_set ?_ GE426.out | refine below_set ?_ GE428.out) | exact HB.out)⟩⟩
        case rest =>
         clear HC8
         try clear c1
         try clear c2
         try clear p2
         try clear c3
         try clear c3b0
         try clear c3b1
         try clear c3b2
         try clear c4
         try clear c4b0
         try clear p4
         try clear q4
         try clear hx4
         try clear c5
         try clear c5b0
         try clear c6
         try clear c6b0
         try clear c7
         try clear c7b0
         try clear c12
         try clear c14
         try clear c14b0
         try clear c14b1
         try clear c14b2
         try clear c15
         try clear c16
         try clear c18
         try clear c18b0
         try clear c18b1
         try clear c19
         try clear c22
         try clear hcz10_0
         try clear hcz10_1
         try clear hcz10_2
         try clear hcz10_3
         try clear hcz13_0
         try clear hcz13_1
         try clear hcz13_2
         try clear hcz13_3
         try clear hcz16_0
         try clear hcz16_1
         try clear hcz16_2
         try clear hcz16_3
         try clear hcz17_0
         try clear hcz17_1
         try clear hcz17_2
         try clear hcz17_3
         try clear hcz20_0
         try clear hcz20_1
         try clear hcz20_2
         try clear hcz20_3
         try clear hcz21_0
         try clear hcz21_1
         try clear hcz21_2
         try clear hcz21_3
         try clear hcz23_0
         try clear hcz23_1
         try clear hcz23_2
         try clear hcz23_3
         try clear hcz24_0
         try clear hcz24_1
         try clear hcz24_2
         try clear hcz24_3
         try clear hfz10_0
         try clear hfz10_1
         try clear hfz10_2
         try clear hfz10_3
         try clear hfz13_0
         try clear hfz13_1
         try clear hfz13_2
         try clear hfz13_3
         try clear hfz16_0
         try clear hfz16_1
         try clear hfz16_2
         try clear hfz16_3
         try clear hfz17_0
         try clear hfz17_1
         try clear hfz17_2
         try clear hfz17_3
         try clear hfz20_0
         try clear hfz20_1
         try clear hfz20_2
         try clear hfz20_3
         try clear hfz21_0
         try clear hfz21_1
         try clear hfz21_2
         try clear hfz21_3
         try clear hfz23_0
         try clear hfz23_1
         try clear hfz23_2
         try clear hfz23_3
         try clear hfz24_0
         try clear hfz24_1
         try clear hfz24_2
         try clear hfz24_3
         try clear hx425_0
         try clear hx425_1
         try clear hx425_2
         try clear hx425_3
         try clear hx427_0
         try clear hx427_1
         try clear hx427_2
         try clear hx427_3
         try clear p2
         try clear p425
         try clear p427
         try clear q425
         try clear q427
         obtain ⟨kq, x45_7, rfl, HA, HJ7, BK426, BK428, HB⟩ := hcut
         cases kq with
         | zero => exact absurd HA.out (by simp [tree_Same.j1])
         | succ kj7 =>
          have H := HA.out
          clear HA
          simp only [tree_Same.j1] at H
          by_cases c25 : x45_7 = true
          ·subst c25
           have H1 : (some false) = some r := by rw [if_pos rfl] at H; exact H
           clear H
           have H := H1
           clear H1
           obtain rfl := Option.some.inj H
           go_wp2
           go_ret
           exact ⟨by first | rfl | (simp [errW_none, errW_some] <;> rfl) | (simp [*, errW_none, errW_some] <;> rfl), by repeat (first | (with_reducible first | exact HB.out | apply below_alloc | apply pw_below_drewN | apply below_drew1 | refine below_set ?_ GE426.out | refine below_set ?_ GE428.out) | exact HB.out)⟩
          ·replace c25 := Bool.eq_false_iff.mpr c25
           subst c25
           have H1 : (tree_Same.l1 kj7 l1 l0 (l0.length : Int) x16_1 (((rd_T38 l0 x16_1).f2).length : Int) 0 ((rd_T38 l0 x16_1).f0) ((rd_T38 l0 x16_1).f1) ((rd_T38 l0 x16_1).f2) ((rd_T38 l0 x16_1).f3) ((rd_T38 l1 x16_1).f0) ((rd_T38 l1 x16_1).f1) ((rd_T38 l1 x16_1).f2) ((rd_T38 l1 x16_1).f3)) = some r := by rw [if_neg (show ¬ (false = true) by decide)] at H; exact H
           clear H
           have H := H1
           clear H1
           have H' := Aside0.mk H
           clear H
           have hnb26 := NB426_428.out
           have hnc26 := NB428_426.out
           have hcz27_0 : wc.cell? ⟨gb426, 0, none⟩ = some (.bool ((rd_T38 l0 x16_1).f0)) := (blk_cell BK426.out 0).trans rfl
           have hcz27_1 : wc.cell? ⟨gb426, 1, none⟩ = some (.string ((rd_T38 l0 x16_1).f1)) := (blk_cell BK426.out 1).trans rfl
           have hcz27_2 : wc.cell? ⟨gb426, 2, none⟩ = some (.slice A425_2 ((rd_T38 l0 x16_1).f2).length c425_2) := (blk_cell BK426.out 2).trans rfl
           have hcz27_3 : wc.cell? ⟨gb426, 3, none⟩ = some (.int .i64 ((rd_T38 l0 x16_1).f3)) := (blk_cell BK426.out 3).trans rfl
           have hfz27_0 := blk_frozen BK426.out 0
           have hfz27_1 := blk_frozen BK426.out 1
           have hfz27_2 := blk_frozen BK426.out 2
           have hfz27_3 := blk_frozen BK426.out 3
           go_wp2
           go_loopg [49] kj7 (fun kq v49 w' => ∃ (x49_3 : Int), v49 = .int .i64 x49_3 ∧ Aside0 (tree_Same.l1 kq l1 l0 (l0.length : Int) x16_1 (((rd_T38 l0 x16_1).f2).length : Int) x49_3 ((rd_T38 l0 x16_1).f0) ((rd_T38 l0 x16_1).f1) ((rd_T38 l0 x16_1).f2) ((rd_T38 l0 x16_1).f3) ((rd_T38 l1 x16_1).f0) ((rd_T38 l1 x16_1).f1) ((rd_T38 l1 x16_1).f2) ((rd_T38 l1 x16_1).f3) = some r) ∧ Aside0 (kq ≤ kj7) ∧ Aside0 (w'.heap[gb426]? = some (.cells #[.bool ((rd_T38 l0 x16_1).f0), .string ((rd_T38 l0 x16_1).f1), (.slice A425_2 ((rd_T38 l0 x16_1).f2).length c425_2), .int .i64 ((rd_T38 l0 x16_1).f3)] 38 (0, 0))) ∧ Aside0 (w'.heap[gb428]? = some (.cells #[.bool ((rd_T38 l1 x16_1).f0), .string ((rd_T38 l1 x16_1).f1), (.slice A427_2 ((rd_T38 l1 x16_1).f2).length c427_2), .int .i64 ((rd_T38 l1 x16_1).f3)] 38 (0, 0))) ∧ Aside0 (Below w.heap.size w w'))
           case atStart => exact ⟨(0), (by first | rfl | (simp; done) | (simp [*]; done)), H', ⟨Nat.le_refl _⟩, ⟨by (with_reducible repeat (first | refine blk_drewN ?_ _ | refine blk_drew ?_ | refine blk_alloc ?_ _)); exact BK426.out⟩, ⟨by (with_reducible repeat (first | refine blk_drewN ?_ _ | refine blk_drew ?_ | refine blk_alloc ?_ _)); exact BK428.out⟩, ⟨by repeat (first | (with_reducible first | exact HB.out | apply below_alloc | apply pw_below_drewN | apply below_drew1 | refine below_set ?_ GE426.out | refine below_set ?_ GE428.out) | exact HB.out)⟩⟩
           case round =>
            clear H'
            try clear c1
            try clear c2
            try clear p2
            try clear c3
            try clear c3b0
            try clear c3b1
            try clear c3b2
            try clear c4
            try clear c4b0
            try clear p4
            try clear q4
            try clear hx4
            try clear c5
            try clear c5b0
            try clear c6
            try clear c6b0
            try clear c7
            try clear c7b0
            try clear c12
            try clear c14
            try clear c14b0
            try clear c14b1
            try clear c14b2
            try clear c15
            try clear c16
            try clear c18
            try clear c18b0
            try clear c18b1
            try clear c19
            try clear c22
            try clear c25
            try clear c26
            try clear hcz10_0
            try clear hcz10_1
            try clear hcz10_2
            try clear hcz10_3
            try clear hcz13_0
            try clear hcz13_1
            try clear hcz13_2
            try clear hcz13_3
            try clear hcz16_0
            try clear hcz16_1
            try clear hcz16_2
            try clear hcz16_3
            try clear hcz17_0
            try clear hcz17_1
            try clear hcz17_2
            try clear hcz17_3
            try clear hcz20_0
            try clear hcz20_1
            try clear hcz20_2
            try clear hcz20_3
            try clear hcz21_0
            try clear hcz21_1
            try clear hcz21_2
            try clear hcz21_3
            try clear hcz23_0
            try clear hcz23_1
            try clear hcz23_2
            try clear hcz23_3
            try clear hcz24_0
            try clear hcz24_1
            try clear hcz24_2
            try clear hcz24_3
            try clear hcz27_0
            try clear hcz27_1
            try clear hcz27_2
            try clear hcz27_3
            try clear hfz10_0
            try clear hfz10_1
            try clear hfz10_2
            try clear hfz10_3
            try clear hfz13_0
            try clear hfz13_1
            try clear hfz13_2
            try clear hfz13_3
            try clear hfz16_0
            try clear hfz16_1
            try clear hfz16_2
            try clear hfz16_3
            try clear hfz17_0
            try clear hfz17_1
            try clear hfz17_2
            try clear hfz17_3
            try clear hfz20_0
            try clear hfz20_1
            try clear hfz20_2
            try clear hfz20_3
            try clear hfz21_0
            try clear hfz21_1
            try clear hfz21_2
            try clear hfz21_3
            try clear hfz23_0
            try clear hfz23_1
            try clear hfz23_2
            try clear hfz23_3
            try clear hfz24_0
            try clear hfz24_1
            try clear hfz24_2
            try clear hfz24_3
            try clear hfz27_0
            try clear hfz27_1
            try clear hfz27_2
            try clear hfz27_3
            try clear hx425_0
            try clear hx425_1
            try clear hx425_2
            try clear hx425_3
            try clear hx427_0
            try clear hx427_1
            try clear hx427_2
            try clear hx427_3
            try clear p2
            try clear p4
            try clear p425
            try clear p427
            try clear q4
            try clear q425
            try clear q427
            obtain ⟨x49_3, rfl, HA, HK3, BK426, BK428, HB⟩ := hrel
            cases gk with
            | zero => exact absurd HA.out (by simp [tree_Same.l1])
            | succ k3 =>
             have H := HA.out
             clear HA
             simp only [tree_Same.l1] at H
             by_cases c28 : x49_3 < (((rd_T38 l0 x16_1).f2).length : Int)
             ·rw [if_pos c28] at H
              have c28b0 : decide (x49_3 < (((rd_T38 l0 x16_1).f2).length : Int)) = true := decide_eq_true c28
              clear c28
              by_cases c29 : 0 ≤ x49_3
              ·rw [if_pos c29] at H
               have c29b0 : decide (0 ≤ x49_3) = true := decide_eq_true c29
               clear c29
               by_cases c30 : x49_3 < (((rd_T38 l0 x16_1).f2).length : Int)
               ·rw [if_pos c30] at H
                have c30b0 : decide (x49_3 < (((rd_T38 l0 x16_1).f2).length : Int)) = true := decide_eq_true c30
                clear c30
                by_cases c31 : x49_3 < (((rd_T38 l1 x16_1).f2).length : Int)
                ·rw [if_pos c31] at H
                 have c31b0 : decide (x49_3 < (((rd_T38 l1 x16_1).f2).length : Int)) = true := decide_eq_true c31
                 clear c31
                 replace H := Option.bind_eq_some_iff.mp H
                 obtain ⟨t431, A320, H⟩ := H
                 replace H : (if t431 = true then (tree_Same.l1 k3 l1 l0 (l0.length : Int) x16_1 (((rd_T38 l0 x16_1).f2).length : Int) (wrap64 (x49_3 + 1)) ((rd_T38 l0 x16_1).f0) ((rd_T38 l0 x16_1).f1) ((rd_T38 l0 x16_1).f2) ((rd_T38 l0 x16_1).f3) ((rd_T38 l1 x16_1).f0) ((rd_T38 l1 x16_1).f1) ((rd_T38 l1 x16_1).f2) ((rd_T38 l1 x16_1).f3)) else (some false)) = some r := H
                 have A32 := Aside0.mk A320
                 clear A320
                 by_cases c33 : t431 = true
                 ·subst c33
                  have H1 : (tree_Same.l1 k3 l1 l0 (l0.length : Int) x16_1 (((rd_T38 l0 x16_1).f2).length : Int) (wrap64 (x49_3 + 1)) ((rd_T38 l0 x16_1).f0) ((rd_T38 l0 x16_1).f1) ((rd_T38 l0 x16_1).f2) ((rd_T38 l0 x16_1).f3) ((rd_T38 l1 x16_1).f0) ((rd_T38 l1 x16_1).f1) ((rd_T38 l1 x16_1).f2) ((rd_T38 l1 x16_1).f3)) = some r := by rw [if_pos rfl] at H; exact H
                  clear H
                  have H := H1
                  clear H1
                  have H' := Aside0.mk H
                  clear H
                  try go_wp2
                  have n0_ := Aside0.mk (blk_drew BK426.out)
                  have n1_ := Aside0.mk (blk_drew BK428.out)
                  have n2_ := Aside0.mk (below_drew1 HB.out)
                  clear BK426
                  clear BK428
                  clear HB
                  have BK426 := n0_
                  have BK428 := n1_
                  have HB := n2_
                  clear n0_ n1_ n2_
                  have p429 : 0 ≤ (x49_3 : Int) := of_decide_eq_true (by first | (with_reducible assumption) | assumption)
                  have q429 : x49_3 < (((rd_T38 l0 x16_1).f2).length : Int) := of_decide_eq_true (by first | (with_reducible assumption) | assumption)
                  obtain ⟨ad429, A429_0, c429_0, e429, hx429_0, hl429_0, hi429_0⟩ := at_L5 HR425_2.out x49_3 p429 q429
                  have hw429_0 := hx429_0
                  cases e429
                  replace hx429_0 := (HB.out.cell (World.block_lt_of_cell? w _ hx429_0)).trans hx429_0
                  have HR429_0 := Aside0.mk hi429_0
                  have HC429_0 := Aside0.mk hl429_0
                  clear hi429_0 hl429_0
                  replace p429 := eq_true p429
                  replace q429 := eq_true q429
                  have p430 : 0 ≤ (x49_3 : Int) := of_decide_eq_true (by first | (with_reducible assumption) | assumption)
                  have q430 : x49_3 < (((rd_T38 l1 x16_1).f2).length : Int) := of_decide_eq_true (by first | (with_reducible assumption) | assumption)
                  obtain ⟨ad430, A430_0, c430_0, e430, hx430_0, hl430_0, hi430_0⟩ := at_L5 HR427_2.out x49_3 p430 q430
                  have hw430_0 := hx430_0
                  cases e430
                  replace hx430_0 := (HB.out.cell (World.block_lt_of_cell? w _ hx430_0)).trans hx430_0
                  have HR430_0 := Aside0.mk hi430_0
                  have HC430_0 := Aside0.mk hl430_0
                  clear hi430_0 hl430_0
                  replace p430 := eq_true p430
                  replace q430 := eq_true q430
                  refine start_ (n := 12) (S := fun w' => w'.cell? ⟨gb426, 0, none⟩ = some (.bool ((rd_T38 l0 x16_1).f0)) ∧ w'.cell? ⟨gb426, 1, none⟩ = some (.string ((rd_T38 l0 x16_1).f1)) ∧ w'.cell? ⟨gb426, 2, none⟩ = some (.slice (some ad429) ((rd_T38 l0 x16_1).f2).length c425_2) ∧ w'.cell? ⟨gb426, 3, none⟩ = some (.int .i64 ((rd_T38 l0 x16_1).f3)) ∧ w'.cell? ⟨gb428, 0, none⟩ = some (.bool ((rd_T38 l1 x16_1).f0)) ∧ w'.cell? ⟨gb428, 1, none⟩ = some (.string ((rd_T38 l1 x16_1).f1)) ∧ w'.cell? ⟨gb428, 2, none⟩ = some (.slice (some ad430) ((rd_T38 l1 x16_1).f2).length c427_2) ∧ w'.cell? ⟨gb428, 3, none⟩ = some (.int .i64 ((rd_T38 l1 x16_1).f3)) ∧ w'.cell? (ad429.add (x49_3).toNat) = some (.slice A429_0 (rd_L5 ((rd_T38 l0 x16_1).f2) x49_3).length c429_0) ∧ w'.cell? (ad430.add (x49_3).toNat) = some (.slice A430_0 (rd_L5 ((rd_T38 l1 x16_1).f2) x49_3).length c430_0)) (ds := []) #[false, false, false, false, false, false, false, false, false, false, false, false] (by kernel_rfl) rfl rfl ⟨(blk_cell BK426.out 0).trans rfl, (blk_cell BK426.out 1).trans rfl, (blk_cell BK426.out 2).trans rfl, (blk_cell BK426.out 3).trans rfl, (blk_cell BK428.out 0).trans rfl, (blk_cell BK428.out 1).trans rfl, (blk_cell BK428.out 2).trans rfl, (blk_cell BK428.out 3).trans rfl, ((HB.out.cell (World.block_lt_of_cell? w _ hw429_0)).trans hw429_0), ((HB.out.cell (World.block_lt_of_cell? w _ hw430_0)).trans hw430_0)⟩ (fun hHeld => ?_); refine with_tabW tree_Same.tab12 tree_Same.bits12 (fun HT_ HW_ => ?_)
                  generalize wr.drew = w34 at BK426 BK428 HB HR429_0 HR430_0 hx429_0 hx430_0 hHeld ⊢
                  refine pure_ (i := 0) (N := some 52) (v := ?_) (a' := ?_) #[true, false, false, false, false, false, false, false, false, false, false, false] rfl rfl (any_of HT_.out (by kernel_rfl)) (fun _ _ _ h => h) (Or.inl ⟨by rfl, ?_⟩) ?_ ?_
                  rotate_left
                  ·intro w'
                   go_simp
                   with_reducible rfl
                  rotate_left
                  ·simp only [Act.put, List.setIfInBounds_toArray, List.set_cons_zero, List.set_cons_succ, i64_w, i32_w]
                   rfl
                  refine pure_ (i := 2) (N := some 54) (v := ?_) (a' := ?_) #[true, false, true, false, false, false, false, false, false, false, false, false] rfl rfl (any_of HT_.out (by kernel_rfl)) (fun _ _ _ h => h) (Or.inl ⟨by rfl, ?_⟩) ?_ ?_
                  rotate_left
                  ·intro w'
                   go_simp
                   with_reducible rfl
                  rotate_left
                  ·simp only [Act.put, List.setIfInBounds_toArray, List.set_cons_zero, List.set_cons_succ, i64_w, i32_w]
                   rfl
                  refine pure_ (i := 5) (N := some 57) (v := ?_) (a' := ?_) #[true, false, true, false, false, true, false, false, false, false, false, false] rfl rfl (any_of HT_.out (by kernel_rfl)) (fun _ _ _ h => h) (Or.inl ⟨by rfl, ?_⟩) ?_ ?_
                  rotate_left
                  ·intro w'
                   go_simp
                   with_reducible rfl
                  rotate_left
                  ·simp only [Act.put, List.setIfInBounds_toArray, List.set_cons_zero, List.set_cons_succ, i64_w, i32_w]
                   rfl
                  refine pure_ (i := 7) (N := some 59) (v := ?_) (a' := ?_) #[true, false, true, false, false, true, false, true, false, false, false, false] rfl rfl (any_of HT_.out (by kernel_rfl)) (fun _ _ _ h => h) (Or.inl ⟨by rfl, ?_⟩) ?_ ?_
                  rotate_left
                  ·intro w'
                   go_simp
                   with_reducible rfl
                  rotate_left
                  ·simp only [Act.put, List.setIfInBounds_toArray, List.set_cons_zero, List.set_cons_succ, i64_w, i32_w]
                   rfl
                  refine take_ (i := 1) (N := some 53) (v := ?_) (a' := ?_) #[true, true, true, false, false, true, false, true, false, false, false, false] rfl rfl (take_ofW HT_.out HW_.out (by kernel_rfl)) (fun _ _ _ h => h) (Or.inl ⟨by rfl, ?_⟩) hHeld ?_ ?_
                  rotate_left
                  ·rintro w' ⟨s0, s1, s2, s3, s4, s5, s6, s7, s8, s9⟩
                   go_simp
                   with_reducible rfl
                  rotate_left
                  ·simp only [Act.put, List.setIfInBounds_toArray, List.set_cons_zero, List.set_cons_succ, i64_w, i32_w]
                   rfl
                  refine pure_ (i := 3) (N := some 55) (v := ?_) (a' := ?_) #[true, true, true, true, false, true, false, true, false, false, false, false] rfl rfl (any_of HT_.out (by kernel_rfl)) (fun _ _ _ h => h) (Or.inl ⟨by rfl, ?_⟩) ?_ ?_
                  rotate_left
                  ·intro w'
                   go_simp
                   with_reducible rfl
                  rotate_left
                  ·simp only [Act.put, List.setIfInBounds_toArray, List.set_cons_zero, List.set_cons_succ, i64_w, i32_w]
                   rfl
                  refine take_ (i := 4) (N := some 56) (v := ?_) (a' := ?_) #[true, true, true, true, true, true, false, true, false, false, false, false] rfl rfl (take_ofW HT_.out HW_.out (by kernel_rfl)) (fun _ _ _ h => h) (Or.inl ⟨by rfl, ?_⟩) hHeld ?_ ?_
                  rotate_left
                  ·rintro w' ⟨s0, s1, s2, s3, s4, s5, s6, s7, s8, s9⟩
                   go_simp
                   with_reducible rfl
                  rotate_left
                  ·simp only [Act.put, List.setIfInBounds_toArray, List.set_cons_zero, List.set_cons_succ, i64_w, i32_w]
                   rfl
                  refine take_ (i := 6) (N := some 58) (v := ?_) (a' := ?_) #[true, true, true, true, true, true, true, true, false, false, false, false] rfl rfl (take_ofW HT_.out HW_.out (by kernel_rfl)) (fun _ _ _ h => h) (Or.inl ⟨by rfl, ?_⟩) hHeld ?_ ?_
                  rotate_left
                  ·rintro w' ⟨s0, s1, s2, s3, s4, s5, s6, s7, s8, s9⟩
                   go_simp
                   with_reducible rfl
                  rotate_left
                  ·simp only [Act.put, List.setIfInBounds_toArray, List.set_cons_zero, List.set_cons_succ, i64_w, i32_w]
                   rfl
                  refine pure_ (i := 8) (N := some 60) (v := ?_) (a' := ?_) #[true, true, true, true, true, true, true, true, true, false, false, false] rfl rfl (any_of HT_.out (by kernel_rfl)) (fun _ _ _ h => h) (Or.inl ⟨by rfl, ?_⟩) ?_ ?_
                  rotate_left
                  ·intro w'
                   go_simp
                   with_reducible rfl
                  rotate_left
                  ·simp only [Act.put, List.setIfInBounds_toArray, List.set_cons_zero, List.set_cons_succ, i64_w, i32_w]
                   rfl
                  refine take_ (i := 9) (N := some 61) (v := ?_) (a' := ?_) #[true, true, true, true, true, true, true, true, true, true, false, false] rfl rfl (take_ofW HT_.out HW_.out (by kernel_rfl)) (fun _ _ _ h => h) (Or.inl ⟨by rfl, ?_⟩) hHeld ?_ ?_
                  rotate_left
                  ·rintro w' ⟨s0, s1, s2, s3, s4, s5, s6, s7, s8, s9⟩
                   go_simp
                   with_reducible rfl
                  rotate_left
                  ·simp only [Act.put, List.setIfInBounds_toArray, List.set_cons_zero, List.set_cons_succ, i64_w, i32_w]
                   rfl
                  refine one_ (i := 10) (N := some 62) #[true, true, true, true, true, true, true, true, true, true, true, false] rfl rfl (one_of HT_.out (by kernel_rfl)) (by decide) (fun K hK => ?_)
                  refine goes_ Try.func16 (by kernel_rfl) rfl #[.slice A429_0 (rd_L5 ((rd_T38 l0 x16_1).f2) x49_3).length c429_0, .slice A430_0 (rd_L5 ((rd_T38 l1 x16_1).f2) x49_3).length c430_0] (by rfl) rfl rfl (by (try simp only [List.map_toArray, List.map_cons, List.map_nil]); first | done | rfl | (simp only [List.length_drop, List.length_take]; rfl)) ?_
                  with_reducible refine (ih k3 (by have := HK1.out; have := HJ7.out; have := HK3.out; omega) _ _ (rd_L5 ((rd_T38 l0 x16_1).f2) x49_3) _ _ (rd_L5 ((rd_T38 l1 x16_1).f2) x49_3) true _ ?side1 ?side2 ?side3 ?side4 A32.out).mono ?_
                  (case side1 => repeat (first | exact (Kd.C_below HR429_0.out HB.out) | (with_reducible refine Kd.C_alloc ?_ _) | (with_reducible refine Kd.C_drewN ?_ _) | (with_reducible refine Kd.C_drew ?_)))
                  (case side2 => exact HC429_0.out)
                  (case side3 => repeat (first | exact (Kd.C_below HR430_0.out HB.out) | (with_reducible refine Kd.C_alloc ?_ _) | (with_reducible refine Kd.C_drewN ?_ _) | (with_reducible refine Kd.C_drew ?_)))
                  (case side4 => exact HC430_0.out)
                  rintro e w35 ⟨rfl, hb⟩
                  refine ⟨_, rfl, ?_⟩
                  have n0_ := Aside0.mk (blk_below (g := gb426) (o := .cells #[.bool ((rd_T38 l0 x16_1).f0), .string ((rd_T38 l0 x16_1).f1), .slice (some ad429) ((rd_T38 l0 x16_1).f2).length c425_2, .int .i64 ((rd_T38 l0 x16_1).f3)] 38 (0, 0)) (by (with_reducible repeat (first | refine blk_drewN ?_ _ | refine blk_drew ?_ | refine blk_alloc ?_ _)); exact BK426.out) hb)
                  have n1_ := Aside0.mk (blk_below (g := gb428) (o := .cells #[.bool ((rd_T38 l1 x16_1).f0), .string ((rd_T38 l1 x16_1).f1), .slice (some ad430) ((rd_T38 l1 x16_1).f2).length c427_2, .int .i64 ((rd_T38 l1 x16_1).f3)] 38 (0, 0)) (by (with_reducible repeat (first | refine blk_drewN ?_ _ | refine blk_drew ?_ | refine blk_alloc ?_ _)); exact BK428.out) hb)
                  have n2_ := Aside0.mk (below_step (by repeat (first | (with_reducible first | exact HB.out | apply below_alloc | apply pw_below_drewN | apply below_drew1 | refine below_set ?_ GE426.out | refine below_set ?_ GE428.out) | exact HB.out)) hb)
                  clear BK426
                  clear BK428
                  clear HB
                  have BK426 := n0_
                  have BK428 := n1_
                  have HB := n2_
                  clear n0_ n1_ n2_
                  (try clear hb)
                  (try clear hb2)
                  (try clear hk)
                  (try clear hi)
                  refine hK.out _ _ ⟨(blk_cell BK426.out 0).trans rfl, (blk_cell BK426.out 1).trans rfl, (blk_cell BK426.out 2).trans rfl, (blk_cell BK426.out 3).trans rfl, (blk_cell BK428.out 0).trans rfl, (blk_cell BK428.out 1).trans rfl, (blk_cell BK428.out 2).trans rfl, (blk_cell BK428.out 3).trans rfl, ((HB.out.cell (World.block_lt_of_cell? w _ hw429_0)).trans hw429_0), ((HB.out.cell (World.block_lt_of_cell? w _ hw430_0)).trans hw430_0)⟩ (fun hHeld => ?_)
                  clear hK K
                  refine norm_ (a' := ?_) ?_ ?_
                  rotate_left
                  ·show Act.put _ (some 62) _ = _
                   simp only [Act.put, List.setIfInBounds_toArray, List.set_cons_zero, List.set_cons_succ, i64_w, i32_w]
                   rfl
                  refine pure_ (i := 11) (N := some 63) (v := ?_) (a' := ?_) #[true, true, true, true, true, true, true, true, true, true, true, true] rfl rfl (any_of HT_.out (by kernel_rfl)) (fun _ _ _ h => h) (Or.inl ⟨by rfl, ?_⟩) ?_ ?_
                  rotate_left
                  ·intro w'
                   go_simp
                   with_reducible rfl
                  rotate_left
                  ·simp only [Act.put, List.setIfInBounds_toArray, List.set_cons_zero, List.set_cons_succ, i64_w, i32_w]
                   rfl
                  refine done_ (done_of HT_.out (by kernel_rfl)) ?_
                  try go_wp2
                  go_roundg k3
                  case measure => have := HK1.out; have := HJ7.out; have := HK3.out; omega
                  case rel => exact ⟨(wrap64 (x49_3 + 1)), (by first | rfl | (simp; done) | (simp [*]; done)), H', ⟨by have := HK1.out; have := HJ7.out; have := HK3.out; omega⟩, ⟨by (with_reducible repeat (first | refine blk_drewN ?_ _ | refine blk_drew ?_ | refine blk_alloc ?_ _)); exact BK426.out⟩, ⟨by (with_reducible repeat (first | refine blk_drewN ?_ _ | refine blk_drew ?_ | refine blk_alloc ?_ _)); exact BK428.out⟩, ⟨by repeat (first | (with_reducible first | exact HB.out | apply below_alloc | apply pw_below_drewN | apply below_drew1 | refine below_set ?_ GE426.out | refine below_set ?_ GE428.out) | exact HB.out)⟩⟩
                 ·replace c33 := Bool.eq_false_iff.mpr c33
                  subst c33
                  have H1 : (some false) = some r := by rw [if_neg (show ¬ (false = true) by decide)] at H; exact H
                  clear H
                  have H := H1
                  clear H1
                  obtain rfl := Option.some.inj H
                  try go_wp2
                  have n0_ := Aside0.mk (blk_drew BK426.out)
                  have n1_ := Aside0.mk (blk_drew BK428.out)
                  have n2_ := Aside0.mk (below_drew1 HB.out)
                  clear BK426
                  clear BK428
                  clear HB
                  have BK426 := n0_
                  have BK428 := n1_
                  have HB := n2_
                  clear n0_ n1_ n2_
                  have p429 : 0 ≤ (x49_3 : Int) := of_decide_eq_true (by first | (with_reducible assumption) | assumption)
                  have q429 : x49_3 < (((rd_T38 l0 x16_1).f2).length : Int) := of_decide_eq_true (by first | (with_reducible assumption) | assumption)
                  obtain ⟨ad429, A429_0, c429_0, e429, hx429_0, hl429_0, hi429_0⟩ := at_L5 HR425_2.out x49_3 p429 q429
                  have hw429_0 := hx429_0
                  cases e429
                  replace hx429_0 := (HB.out.cell (World.block_lt_of_cell? w _ hx429_0)).trans hx429_0
                  have HR429_0 := Aside0.mk hi429_0
                  have HC429_0 := Aside0.mk hl429_0
                  clear hi429_0 hl429_0
                  replace p429 := eq_true p429
                  replace q429 := eq_true q429
                  have p430 : 0 ≤ (x49_3 : Int) := of_decide_eq_true (by first | (with_reducible assumption) | assumption)
                  have q430 : x49_3 < (((rd_T38 l1 x16_1).f2).length : Int) := of_decide_eq_true (by first | (with_reducible assumption) | assumption)
                  obtain ⟨ad430, A430_0, c430_0, e430, hx430_0, hl430_0, hi430_0⟩ := at_L5 HR427_2.out x49_3 p430 q430
                  have hw430_0 := hx430_0
                  cases e430
                  replace hx430_0 := (HB.out.cell (World.block_lt_of_cell? w _ hx430_0)).trans hx430_0
                  have HR430_0 := Aside0.mk hi430_0
                  have HC430_0 := Aside0.mk hl430_0
                  clear hi430_0 hl430_0
                  replace p430 := eq_true p430
                  replace q430 := eq_true q430
                  refine start_ (n := 12) (S := fun w' => w'.cell? ⟨gb426, 0, none⟩ = some (.bool ((rd_T38 l0 x16_1).f0)) ∧ w'.cell? ⟨gb426, 1, none⟩ = some (.string ((rd_T38 l0 x16_1).f1)) ∧ w'.cell? ⟨gb426, 2, none⟩ = some (.slice (some ad429) ((rd_T38 l0 x16_1).f2).length c425_2) ∧ w'.cell? ⟨gb426, 3, none⟩ = some (.int .i64 ((rd_T38 l0 x16_1).f3)) ∧ w'.cell? ⟨gb428, 0, none⟩ = some (.bool ((rd_T38 l1 x16_1).f0)) ∧ w'.cell? ⟨gb428, 1, none⟩ = some (.string ((rd_T38 l1 x16_1).f1)) ∧ w'.cell? ⟨gb428, 2, none⟩ = some (.slice (some ad430) ((rd_T38 l1 x16_1).f2).length c427_2) ∧ w'.cell? ⟨gb428, 3, none⟩ = some (.int .i64 ((rd_T38 l1 x16_1).f3)) ∧ w'.cell? (ad429.add (x49_3).toNat) = some (.slice A429_0 (rd_L5 ((rd_T38 l0 x16_1).f2) x49_3).length c429_0) ∧ w'.cell? (ad430.add (x49_3).toNat) = some (.slice A430_0 (rd_L5 ((rd_T38 l1 x16_1).f2) x49_3).length c430_0)) (ds := []) #[false, false, false, false, false, false, false, false, false, false, false, false] (by kernel_rfl) rfl rfl ⟨(blk_cell BK426.out 0).trans rfl, (blk_cell BK426.out 1).trans rfl, (blk_cell BK426.out 2).trans rfl, (blk_cell BK426.out 3).trans rfl, (blk_cell BK428.out 0).trans rfl, (blk_cell BK428.out 1).trans rfl, (blk_cell BK428.out 2).trans rfl, (blk_cell BK428.out 3).trans rfl, ((HB.out.cell (World.block_lt_of_cell? w _ hw429_0)).trans hw429_0), ((HB.out.cell (World.block_lt_of_cell? w _ hw430_0)).trans hw430_0)⟩ (fun hHeld => ?_); refine with_tabW tree_Same.tab12 tree_Same.bits12 (fun HT_ HW_ => ?_)
                  generalize wr.drew = w36 at BK426 BK428 HB HR429_0 HR430_0 hx429_0 hx430_0 hHeld ⊢
                  refine pure_ (i := 0) (N := some 52) (v := ?_) (a' := ?_) #[true, false, false, false, false, false, false, false, false, false, false, false] rfl rfl (any_of HT_.out (by kernel_rfl)) (fun _ _ _ h => h) (Or.inl ⟨by rfl, ?_⟩) ?_ ?_
                  rotate_left
                  ·intro w'
                   go_simp
                   with_reducible rfl
                  rotate_left
                  ·simp only [Act.put, List.setIfInBounds_toArray, List.set_cons_zero, List.set_cons_succ, i64_w, i32_w]
                   rfl
                  refine pure_ (i := 2) (N := some 54) (v := ?_) (a' := ?_) #[true, false, true, false, false, false, false, false, false, false, false, false] rfl rfl (any_of HT_.out (by kernel_rfl)) (fun _ _ _ h => h) (Or.inl ⟨by rfl, ?_⟩) ?_ ?_
                  rotate_left
                  ·intro w'
                   go_simp
                   with_reducible rfl
                  rotate_left
                  ·simp only [Act.put, List.setIfInBounds_toArray, List.set_cons_zero, List.set_cons_succ, i64_w, i32_w]
                   rfl
                  refine pure_ (i := 5) (N := some 57) (v := ?_) (a' := ?_) #[true, false, true, false, false, true, false, false, false, false, false, false] rfl rfl (any_of HT_.out (by kernel_rfl)) (fun _ _ _ h => h) (Or.inl ⟨by rfl, ?_⟩) ?_ ?_
                  rotate_left
                  ·intro w'
                   go_simp
                   with_reducible rfl
                  rotate_left
                  ·simp only [Act.put, List.setIfInBounds_toArray, List.set_cons_zero, List.set_cons_succ, i64_w, i32_w]
                   rfl
                  refine pure_ (i := 7) (N := some 59) (v := ?_) (a' := ?_) #[true, false, true, false, false, true, false, true, false, false, false, false] rfl rfl (any_of HT_.out (by kernel_rfl)) (fun _ _ _ h => h) (Or.inl ⟨by rfl, ?_⟩) ?_ ?_
                  rotate_left
                  ·intro w'
                   go_simp
                   with_reducible rfl
                  rotate_left
                  ·simp only [Act.put, List.setIfInBounds_toArray, List.set_cons_zero, List.set_cons_succ, i64_w, i32_w]
                   rfl
                  refine take_ (i := 1) (N := some 53) (v := ?_) (a' := ?_) #[true, true, true, false, false, true, false, true, false, false, false, false] rfl rfl (take_ofW HT_.out HW_.out (by kernel_rfl)) (fun _ _ _ h => h) (Or.inl ⟨by rfl, ?_⟩) hHeld ?_ ?_
                  rotate_left
                  ·rintro w' ⟨s0, s1, s2, s3, s4, s5, s6, s7, s8, s9⟩
                   go_simp
                   with_reducible rfl
                  rotate_left
                  ·simp only [Act.put, List.setIfInBounds_toArray, List.set_cons_zero, List.set_cons_succ, i64_w, i32_w]
                   rfl
                  refine pure_ (i := 3) (N := some 55) (v := ?_) (a' := ?_) #[true, true, true, true, false, true, false, true, false, false, false, false] rfl rfl (any_of HT_.out (by kernel_rfl)) (fun _ _ _ h => h) (Or.inl ⟨by rfl, ?_⟩) ?_ ?_
                  rotate_left
                  ·intro w'
                   go_simp
                   with_reducible rfl
                  rotate_left
                  ·simp only [Act.put, List.setIfInBounds_toArray, List.set_cons_zero, List.set_cons_succ, i64_w, i32_w]
                   rfl
                  refine take_ (i := 4) (N := some 56) (v := ?_) (a' := ?_) #[true, true, true, true, true, true, false, true, false, false, false, false] rfl rfl (take_ofW HT_.out HW_.out (by kernel_rfl)) (fun _ _ _ h => h) (Or.inl ⟨by rfl, ?_⟩) hHeld ?_ ?_
                  rotate_left
                  ·rintro w' ⟨s0, s1, s2, s3, s4, s5, s6, s7, s8, s9⟩
                   go_simp
                   with_reducible rfl
                  rotate_left
                  ·simp only [Act.put, List.setIfInBounds_toArray, List.set_cons_zero, List.set_cons_succ, i64_w, i32_w]
                   rfl
                  refine take_ (i := 6) (N := some 58) (v := ?_) (a' := ?_) #[true, true, true, true, true, true, true, true, false, false, false, false] rfl rfl (take_ofW HT_.out HW_.out (by kernel_rfl)) (fun _ _ _ h => h) (Or.inl ⟨by rfl, ?_⟩) hHeld ?_ ?_
                  rotate_left
                  ·rintro w' ⟨s0, s1, s2, s3, s4, s5, s6, s7, s8, s9⟩
                   go_simp
                   with_reducible rfl
                  rotate_left
                  ·simp only [Act.put, List.setIfInBounds_toArray, List.set_cons_zero, List.set_cons_succ, i64_w, i32_w]
                   rfl
                  refine pure_ (i := 8) (N := some 60) (v := ?_) (a' := ?_) #[true, true, true, true, true, true, true, true, true, false, false, false] rfl rfl (any_of HT_.out (by kernel_rfl)) (fun _ _ _ h => h) (Or.inl ⟨by rfl, ?_⟩) ?_ ?_
                  rotate_left
                  ·intro w'
                   go_simp
                   with_reducible rfl
                  rotate_left
                  ·simp only [Act.put, List.setIfInBounds_toArray, List.set_cons_zero, List.set_cons_succ, i64_w, i32_w]
                   rfl
                  refine take_ (i := 9) (N := some 61) (v := ?_) (a' := ?_) #[true, true, true, true, true, true, true, true, true, true, false, false] rfl rfl (take_ofW HT_.out HW_.out (by kernel_rfl)) (fun _ _ _ h => h) (Or.inl ⟨by rfl, ?_⟩) hHeld ?_ ?_
                  rotate_left
                  ·rintro w' ⟨s0, s1, s2, s3, s4, s5, s6, s7, s8, s9⟩
                   go_simp
                   with_reducible rfl
                  rotate_left
                  ·simp only [Act.put, List.setIfInBounds_toArray, List.set_cons_zero, List.set_cons_succ, i64_w, i32_w]
                   rfl
                  refine one_ (i := 10) (N := some 62) #[true, true, true, true, true, true, true, true, true, true, true, false] rfl rfl (one_of HT_.out (by kernel_rfl)) (by decide) (fun K hK => ?_)
                  refine goes_ Try.func16 (by kernel_rfl) rfl #[.slice A429_0 (rd_L5 ((rd_T38 l0 x16_1).f2) x49_3).length c429_0, .slice A430_0 (rd_L5 ((rd_T38 l1 x16_1).f2) x49_3).length c430_0] (by rfl) rfl rfl (by (try simp only [List.map_toArray, List.map_cons, List.map_nil]); first | done | rfl | (simp only [List.length_drop, List.length_take]; rfl)) ?_
                  with_reducible refine (ih k3 (by have := HK1.out; have := HJ7.out; have := HK3.out; omega) _ _ (rd_L5 ((rd_T38 l0 x16_1).f2) x49_3) _ _ (rd_L5 ((rd_T38 l1 x16_1).f2) x49_3) false _ ?side1 ?side2 ?side3 ?side4 A32.out).mono ?_
                  (case side1 => repeat (first | exact (Kd.C_below HR429_0.out HB.out) | (with_reducible refine Kd.C_alloc ?_ _) | (with_reducible refine Kd.C_drewN ?_ _) | (with_reducible refine Kd.C_drew ?_)))
                  (case side2 => exact HC429_0.out)
                  (case side3 => repeat (first | exact (Kd.C_below HR430_0.out HB.out) | (with_reducible refine Kd.C_alloc ?_ _) | (with_reducible refine Kd.C_drewN ?_ _) | (with_reducible refine Kd.C_drew ?_)))
                  (case side4 => exact HC430_0.out)
                  rintro e w37 ⟨rfl, hb⟩
                  refine ⟨_, rfl, ?_⟩
                  have n0_ := Aside0.mk (blk_below (g := gb426) (o := .cells #[.bool ((rd_T38 l0 x16_1).f0), .string ((rd_T38 l0 x16_1).f1), .slice (some ad429) ((rd_T38 l0 x16_1).f2).length c425_2, .int .i64 ((rd_T38 l0 x16_1).f3)] 38 (0, 0)) (by (with_reducible repeat (first | refine blk_drewN ?_ _ | refine blk_drew ?_ | refine blk_alloc ?_ _)); exact BK426.out) hb)
                  have n1_ := Aside0.mk (blk_below (g := gb428) (o := .cells #[.bool ((rd_T38 l1 x16_1).f0), .string ((rd_T38 l1 x16_1).f1), .slice (some ad430) ((rd_T38 l1 x16_1).f2).length c427_2, .int .i64 ((rd_T38 l1 x16_1).f3)] 38 (0, 0)) (by (with_reducible repeat (first | refine blk_drewN ?_ _ | refine blk_drew ?_ | refine blk_alloc ?_ _)); exact BK428.out) hb)
                  have n2_ := Aside0.mk (below_step (by repeat (first | (with_reducible first | exact HB.out | apply below_alloc | apply pw_below_drewN | apply below_drew1 | refine below_set ?_ GE426.out | refine below_set ?_ GE428.out) | exact HB.out)) hb)
                  clear BK426
                  clear BK428
                  clear HB
                  have BK426 := n0_
                  have BK428 := n1_
                  have HB := n2_
                  clear n0_ n1_ n2_
                  (try clear hb)
                  (try clear hb2)
                  (try clear hk)
                  (try clear hi)
                  refine hK.out _ _ ⟨(blk_cell BK426.out 0).trans rfl, (blk_cell BK426.out 1).trans rfl, (blk_cell BK426.out 2).trans rfl, (blk_cell BK426.out 3).trans rfl, (blk_cell BK428.out 0).trans rfl, (blk_cell BK428.out 1).trans rfl, (blk_cell BK428.out 2).trans rfl, (blk_cell BK428.out 3).trans rfl, ((HB.out.cell (World.block_lt_of_cell? w _ hw429_0)).trans hw429_0), ((HB.out.cell (World.block_lt_of_cell? w _ hw430_0)).trans hw430_0)⟩ (fun hHeld => ?_)
                  clear hK K
                  refine norm_ (a' := ?_) ?_ ?_
                  rotate_left
                  ·show Act.put _ (some 62) _ = _
                   simp only [Act.put, List.setIfInBounds_toArray, List.set_cons_zero, List.set_cons_succ, i64_w, i32_w]
                   rfl
                  refine pure_ (i := 11) (N := some 63) (v := ?_) (a' := ?_) #[true, true, true, true, true, true, true, true, true, true, true, true] rfl rfl (any_of HT_.out (by kernel_rfl)) (fun _ _ _ h => h) (Or.inl ⟨by rfl, ?_⟩) ?_ ?_
                  rotate_left
                  ·intro w'
                   go_simp
                   with_reducible rfl
                  rotate_left
                  ·simp only [Act.put, List.setIfInBounds_toArray, List.set_cons_zero, List.set_cons_succ, i64_w, i32_w]
                   rfl
                  refine done_ (done_of HT_.out (by kernel_rfl)) ?_
                  try go_wp2
                  go_ret
                  exact ⟨by first | rfl | (simp [errW_none, errW_some] <;> rfl) | (simp [*, errW_none, errW_some] <;> rfl), by repeat (first | (with_reducible first | exact HB.out | apply below_alloc | apply pw_below_drewN | apply below_drew1 | refine below_set ?_ GE426.out | refine below_set ?_ GE428.out) | exact HB.out)⟩
                ·rw [if_neg c31] at H
                 exact absurd H (by simp)
               ·rw [if_neg c30] at H
                exact absurd H (by simp)
              ·rw [if_neg c29] at H
               exact absurd H (by simp)
             ·rw [if_neg c28] at H
              have c28b0 : decide (x49_3 < (((rd_T38 l0 x16_1).f2).length : Int)) = false := decide_eq_false c28
              clear c28
              have H' := Aside0.mk H
              clear H
              go_wp2
              go_roundg k3
              case measure => have := HK1.out; have := HJ7.out; have := HK3.out; omega
              case rel => exact ⟨(wrap64 (x16_1 + 1)), (by first | rfl | (simp; done) | (simp [*]; done)), H', ⟨by have := HK1.out; have := HJ7.out; have := HK3.out; omega⟩, ⟨by repeat (first | (with_reducible first | exact HB.out | apply below_alloc | apply pw_below_drewN | apply below_drew1 | refine below_set ?_ GE426.out | refine below_set ?_ GE428.out) | exact HB.out)⟩⟩
       ·rw [if_neg c7] at H
        exact absurd H (by simp)
      ·rw [if_neg c6] at H
       exact absurd H (by simp)
     ·rw [if_neg c5] at H
      exact absurd H (by simp)
    ·rw [if_neg c4] at H
     have c4b0 : decide (x16_1 < (l0.length : Int)) = false := decide_eq_false c4
     clear c4
     obtain rfl := Option.some.inj H
     go_wp2
     go_ret
     exact ⟨by first | rfl | (simp [errW_none, errW_some] <;> rfl) | (simp [*, errW_none, errW_some] <;> rfl), by repeat (first | (with_reducible first | exact HB.out | apply below_alloc | apply pw_below_drewN | apply below_drew1) | exact HB.out)⟩
 ·rw [if_neg c3] at H
  have c3b0 : ((l0.length : Int) == (l1.length : Int)) = false := beq_eq_false_iff_ne.mpr c3
  have c3b1 : ((l0.length : Int) != (l1.length : Int)) = true := bne_iff_ne.mpr c3
  have c3b2 : (l0.length == l1.length) = false := by first | simpa using c3 | (simp at c3 ⊢; omega)
  obtain rfl := Option.some.inj H
  go_enter Try.func16, Try.ntmps16
  go_wp2
  go_ret
  exact ⟨by first | rfl | (simp [errW_none, errW_some] <;> rfl) | (simp [*, errW_none, errW_some] <;> rfl), by repeat (first | (with_reducible first | exact HB.out | apply below_alloc | apply pw_below_drewN | apply below_drew1) | exact HB.out)⟩
end Go.Proofs.Ytmpglkeoppbpgaa.PTree
