/- A part of the row's proof. -/
import Derived.Test.YtmpglkeoppbpgaaCPTreex0
import Derived.Test.YtmpglkeoppbpgaaCPTreex3
import Derived.Test.YtmpglkeoppbpgaaCPTreex4
import Derived.Test.YtmpglkeoppbpgaaCOwnPeek
namespace Go.Proofs.Ytmpglkeoppbpgaa.PTree
open Go.RowKit Go.Proofs.YtmpglkeoppbpgaaW.PrintWords Go.Proofs.YtmpglkeoppbpgaaW.PrintLast Go.Proofs.YtmpglkeoppbpgaaW.PrintMore
attribute [local go_sem] max2_int min2_int max_two min_two max_three min_three max_four min_four
set_option linter.unusedVariables false
set_option linter.unusedSimpArgs false
set_option maxHeartbeats 8000000 in
set_option maxRecDepth 100000 in
theorem tree_parser_args.calls_of (k : Nat) (ih : ∀ k_, k_ < k → tree_parser_args.Spec k_) (ih20 : ∀ k_, k_ < k → tree_parser_nodes.Spec k_) : tree_parser_args.Spec k := by
 intro g s0_0 s0_1 s0_2 s0_3 a1 r1 r2 r3 r4 w0 w hI hB h
 cases k with
 | zero => exact absurd h (by simp [tree_parser_args.f])
 | succ k =>
 simp only [tree_parser_args.f] at h
 have hu44 := Try.underlying44
 have HI0 := Aside0.mk hI
 have HK := Aside0.mk (KeepBut.refl w g none)
 have HL := Aside0.mk hB.size
 clear hI
 have HW0 := Aside0.mk hB.size
 have HB := Aside0.mk hB
 clear hB
 have H : (tree_parser_args.l0 k a1 ([] : List (List (S38))) s0_0 s0_1 s0_2 s0_3) = some (r1, r2, r3, r4) := h
 clear h
 have HC3 := Aside0.mk H
 clear H
 go_enter Try.func32, Try.ntmps32
 go_upto_block 0 with (fail)
 go_cut [5] (fun v5 wc => ∃ (kq : Nat) (x5_2 : List (List (S38))) (x1001_2 : Int) (x1002_2 : Int) (x1003_2 : Int), Aside0 (tree_parser_args.j4 kq x5_2 s0_0 x1001_2 x1002_2 x1003_2 = some (r1, r2, r3, r4)) ∧ Aside0 (kq ≤ k) ∧ Aside0 (Kd.R (Kd.slice 38 k38) 23 wc w.heap.size (fun _ => True) v5 x5_2) ∧ Aside0 (IsS48 w0 wc g s0_0 x1001_2 x1002_2 x1003_2) ∧ Aside0 (KeepBut w wc g none) ∧ Aside0 (Below w0.heap.size w0 wc))
 case first =>
  have H := HC3.out
  clear HC3
  have H' := Aside0.mk H
  clear H
  go_wp2
  go_loopg [5] k (fun kq v5 w' => ∃ (x5_1 : List (List (S38))) (x1001_1 : Int) (x1002_1 : Int) (x1003_1 : Int), Aside0 (tree_parser_args.l0 kq a1 x5_1 s0_0 x1001_1 x1002_1 x1003_1 = some (r1, r2, r3, r4)) ∧ Aside0 (kq ≤ k) ∧ Aside0 (Kd.R (Kd.slice 38 k38) 23 w' w.heap.size (fun _ => True) v5 x5_1) ∧ Aside0 (IsS48 w0 w' g s0_0 x1001_1 x1002_1 x1003_1) ∧ Aside0 (KeepBut w w' g none) ∧ Aside0 (Below w0.heap.size w0 w'))
  case atStart => exact ⟨(([] : List (List (S38)))), (s0_1), (s0_2), (s0_3), H', ⟨Nat.le_refl _⟩, ⟨by first | exact Kd.R_nil _ _ _ _ _ | exact Kd.N_nil _ _ _ _ _ | exact Kd.V_nil _ _ _ _ _ | exact Kd.Q_nil _ _ _ _ _ | exact Kd.S_nil _ _ _ _ _⟩, ⟨by repeat (first | (with_reducible first | exact HI0.out | apply IsS48.alloc | apply IsS48.drewN | apply IsS48.drew | apply IsS48.set_1 | apply IsS48.set_2 | apply IsS48.set_3) | exact HI0.out)⟩, ⟨by repeat (first | (with_reducible first | exact HK.out | apply KeepBut.set_ | apply keep_drewN | apply keep_drew | apply keep_alloc) | exact HK.out)⟩, ⟨by repeat (first | (with_reducible first | exact HB.out | apply below_alloc | apply pw_below_drewN | apply below_drew1 | refine below_set ?_ (IsS48.ge HI0.out)) | exact HB.out)⟩⟩
  case round =>
   clear H'
   try clear p2
   try clear c3
   obtain ⟨x5_1, x1001_1, x1002_1, x1003_1, HA, HK1, HO_5, HI0, HK, HB⟩ := hrel
   cases gk with
   | zero => exact absurd HA.out (by simp [tree_parser_args.l0])
   | succ k1 =>
    have H := HA.out
    clear HA
    simp only [tree_parser_args.l0] at H
    by_cases c4 : x1002_1 = 0
    ·rw [if_pos c4] at H
     have c4b0 : (x1002_1 == 0) = true := beq_iff_eq.mpr c4
     have c4b1 : (x1002_1 != 0) = false := bne_eq_false_iff_eq.mpr c4
     clear c4
     (first | rw [c4b0] | (simp only [i64_w, i32_w]; rw [c4b0]) | skip)
     have HC5 := Aside0.mk H
     clear H
     obtain ⟨ASz6_0, cSz6_0, HGz6, hgz6, HSz6_0⟩ := HI0.out
     have hcz6_0 := cellS48_0 HGz6
     have hcz6_1 := cellS48_1 HGz6
     have hcz6_2 := cellS48_2 HGz6
     have hcz6_3 := cellS48_3 HGz6
     have hfz6_1 := blk_frozen HGz6 1
     have hfz6_2 := blk_frozen HGz6 2
     have hfz6_3 := blk_frozen HGz6 3
     clear HGz6 hgz6
     go_upto_block 1 with (fail)
     go_cut [5] (fun v5 wc => ∃ (kq : Nat) (x5_4 : List (List (S38))) (x1001_4 : Int) (x1002_4 : Int) (x1003_4 : Int), Aside0 (tree_parser_args.j3 kq a1 x5_4 s0_0 x1001_4 x1002_4 x1003_4 = some (r1, r2, r3, r4)) ∧ Aside0 (kq ≤ k1) ∧ Aside0 (Kd.R (Kd.slice 38 k38) 23 wc w.heap.size (fun _ => True) v5 x5_4) ∧ Aside0 (IsS48 w0 wc g s0_0 x1001_4 x1002_4 x1003_4) ∧ Aside0 (KeepBut w wc g none) ∧ Aside0 (Below w0.heap.size w0 wc))
     case first =>
      have H := HC5.out
      clear HC5
      replace H := Option.bind_eq_some_iff.mp H
      obtain ⟨⟨t127, t128, t129, t130, t131, t132, t133⟩, A70, H⟩ := H
      replace H : (if t130 = true then (tree_parser_args.j1 k1 a1 x5_1 (t127 != 2) s0_0 t131 t132 t133 t127 t128 t129) else (tree_parser_args.j1 k1 a1 x5_1 true s0_0 t131 t132 t133 t127 t128 t129)) = some (r1, r2, r3, r4) := H
      have A7 := Aside0.mk A70
      clear A70
      have HC8 := Aside0.mk H
      clear H
      go_upto_region 4 with (first | ((with_reducible refine gate_callee (f := 31) rfl ?_); refine goesL_ (some 19) rfl rfl Try.func31 (by kernel_rfl) rfl #[.pointer (some ⟨g, 0, none⟩)] rfl (by (try simp only [List.map_toArray, List.map_cons, List.map_nil]); first | done | rfl | (simp only [List.length_drop, List.length_take]; rfl)) ?_; (with_reducible refine (tree_parser_peek.calls g s0_0 x1001_1 x1002_1 x1003_1 t127 t128 t129 t130 t131 t132 t133 w0 _ ?side1 ?side2 A7.out).mono ?_); (case side1 => repeat (first | (with_reducible first | exact HI0.out | apply IsS48.alloc | apply IsS48.drewN | apply IsS48.drew | apply IsS48.set_1 | apply IsS48.set_2 | apply IsS48.set_3) | exact HI0.out)); (case side2 => repeat (first | (with_reducible first | exact HB.out | apply below_alloc | apply pw_below_drewN | apply below_drew1 | refine below_set ?_ (IsS48.ge HI0.out)) | exact HB.out)); rintro e w9 ⟨rfl, hi, hb, hk⟩; refine ⟨_, rfl, ?_⟩; have n0_ := Aside0.mk (Kd.R_mono (Kd.R_keep (IsS48.apart (show IsS48 w0 _ g s0_0 x1001_1 x1002_1 x1003_1 from by repeat (first | (with_reducible first | exact HI0.out | apply IsS48.alloc | apply IsS48.drewN | apply IsS48.drew | apply IsS48.set_1 | apply IsS48.set_2 | apply IsS48.set_3) | exact HI0.out)) (by (with_reducible repeat (first | apply Kd.R_alloc | apply Kd.R_drewN | apply Kd.R_drew)); exact HO_5.out) (by decide)) hk (fun _ h => h.2)) (fun _ h => h.1)); have n1_ := Aside0.mk (KeepBut.trans (by repeat (first | (with_reducible first | exact HK.out | apply KeepBut.set_ | apply keep_drewN | apply keep_drew | apply keep_alloc) | exact HK.out)) hk (.inl rfl)); have n2_ := Aside0.mk (hb); have n3_ := Aside0.mk (hi); clear HO_5; clear HK; clear HB; clear HI0; have HO_5 := n0_; have HK := n1_; have HB := n2_; have HI0 := n3_; clear n0_ n1_ n2_ n3_; (try clear hb); (try clear hb2); (try clear hk); (try clear hi)) | ((with_reducible refine gate_dst (N := 6) rfl ?_); refine box_event ?hg (N := 6) ?hd (cs := #[.int .i64 0, .string (⟨#[]⟩ : ByteArray), .int .i64 0]) (t := 44) ?hr ?_; (case hd => rfl); (case hg => rfl); (case hr => first | (go_simp; done) | (go_simp; rfl)); intro gb134 hg w10 hbox hb; have n0_ := Aside0.mk (Kd.R_below (by (with_reducible repeat (first | apply Kd.R_alloc | apply Kd.R_drewN | apply Kd.R_drew)); exact HO_5.out) hb); have n1_ := Aside0.mk (IsS48.below (by repeat (first | (with_reducible first | exact HI0.out | apply IsS48.alloc | apply IsS48.drewN | apply IsS48.drew | apply IsS48.set_1 | apply IsS48.set_2 | apply IsS48.set_3) | exact HI0.out)) hb); have n2_ := Aside0.mk (KeepBut.trans (by repeat (first | (with_reducible first | exact HK.out | apply KeepBut.set_ | apply keep_drewN | apply keep_drew | apply keep_alloc) | exact HK.out)) (KeepBut.of_below hb g none) (.inl rfl)); have n3_ := Aside0.mk (below_step (by repeat (first | (with_reducible first | exact HB.out | apply below_alloc | apply pw_below_drewN | apply below_drew1 | refine below_set ?_ (IsS48.ge HI0.out)) | exact HB.out)) hb); have n4_ := Aside0.mk (hbox); have n5_ := Aside0.mk ((by rw [hg]; exact (keep_size (w := w) (g := g) (row := none) (by repeat (first | (with_reducible first | exact HK.out | apply KeepBut.set_ | apply keep_drewN | apply keep_drew | apply keep_alloc) | exact HK.out))) : w.heap.size ≤ gb134)); have n6_ := Aside0.mk ((Nat.le_trans HW0.out (by rw [hg]; exact (keep_size (w := w) (g := g) (row := none) (by repeat (first | (with_reducible first | exact HK.out | apply KeepBut.set_ | apply keep_drewN | apply keep_drew | apply keep_alloc) | exact HK.out))) : w.heap.size ≤ gb134) : w0.heap.size ≤ gb134)); have n7_ := Aside0.mk ((by rw [hg]; exact Nat.ne_of_lt (IsS48.lt (show IsS48 w0 _ g s0_0 t131 t132 t133 from by repeat (first | (with_reducible first | exact HI0.out | apply IsS48.alloc | apply IsS48.drewN | apply IsS48.drew | apply IsS48.set_1 | apply IsS48.set_2 | apply IsS48.set_3) | exact HI0.out))) : g ≠ gb134)); have n8_ := Aside0.mk ((by rw [hg]; exact Nat.ne_of_gt (IsS48.lt (show IsS48 w0 _ g s0_0 t131 t132 t133 from by repeat (first | (with_reducible first | exact HI0.out | apply IsS48.alloc | apply IsS48.drewN | apply IsS48.drew | apply IsS48.set_1 | apply IsS48.set_2 | apply IsS48.set_3) | exact HI0.out))) : gb134 ≠ g)); clear HO_5; clear HI0; clear HK; clear HB; have HO_5 := n0_; have HI0 := n1_; have HK := n2_; have HB := n3_; have BK134 := n4_; have GW134 := n5_; have GE134 := n6_; have NB0_134 := n7_; have NB134_0 := n8_; clear n0_ n1_ n2_ n3_ n4_ n5_ n6_ n7_ n8_; clear hb hbox hg; have hnb11 := NB134_0.out; have hnc11 := NB0_134.out; have hcz12_0 : w10.cell? ⟨gb134, 0, none⟩ = some (.int .i64 0) := (blk_cell BK134.out 0).trans rfl; have hcz12_1 : w10.cell? ⟨gb134, 1, none⟩ = some (.string (⟨#[]⟩ : ByteArray)) := (blk_cell BK134.out 1).trans rfl; have hcz12_2 : w10.cell? ⟨gb134, 2, none⟩ = some (.int .i64 0) := (blk_cell BK134.out 2).trans rfl; have hfz12_0 := blk_frozen BK134.out 0; have hfz12_1 := blk_frozen BK134.out 1; have hfz12_2 := blk_frozen BK134.out 2))
      (try simp only [Act.put, List.setIfInBounds_toArray, List.set_cons_zero, List.set_cons_succ])
      go_cut [28] (fun v28 wc => ∃ (kq : Nat) (x28_7 : Bool), v28 = .bool x28_7 ∧ Aside0 (tree_parser_args.j1 kq a1 x5_1 x28_7 s0_0 t131 t132 t133 t127 t128 t129 = some (r1, r2, r3, r4)) ∧ Aside0 (kq ≤ k1) ∧ Aside0 (Kd.R (Kd.slice 38 k38) 23 wc w.heap.size (fun _ => True) u5 x5_1) ∧ Aside0 (wc.heap[gb134]? = some (.cells #[.int .i64 t127, .string t128, .int .i64 t129] 44 (0, 0))) ∧ Aside0 (IsS48 w0 wc g s0_0 t131 t132 t133) ∧ Aside0 (KeepBut w wc g none) ∧ Aside0 (Below w0.heap.size w0 wc))
      case first =>
       have H := HC8.out
       clear HC8
       by_cases c13 : t130 = true
       ·subst c13
        have H1 : (tree_parser_args.j1 k1 a1 x5_1 (t127 != 2) s0_0 t131 t132 t133 t127 t128 t129) = some (r1, r2, r3, r4) := by rw [if_pos rfl] at H; exact H
        clear H
        have H := H1
        clear H1
        have H' := Aside0.mk H
        clear H
        have hnb14 := NB134_0.out
        have hnc14 := NB0_134.out
        have hcz15_0 : w10.cell? ⟨gb134, 0, none⟩ = some (.int .i64 0) := (blk_cell BK134.out 0).trans rfl
        have hcz15_1 : w10.cell? ⟨gb134, 1, none⟩ = some (.string (⟨#[]⟩ : ByteArray)) := (blk_cell BK134.out 1).trans rfl
        have hcz15_2 : w10.cell? ⟨gb134, 2, none⟩ = some (.int .i64 0) := (blk_cell BK134.out 2).trans rfl
        have hfz15_0 := blk_frozen BK134.out 0
        have hfz15_1 := blk_frozen BK134.out 1
        have hfz15_2 := blk_frozen BK134.out 2
        go_wp2
        go_meet
        case rel => exact ⟨_, ((t127 != 2)), (by first | rfl | (simp; done) | (simp [*]; done)), H', ⟨by have := HK1.out; first | omega | exact Nat.le_refl _⟩, ⟨by (with_reducible repeat (first | apply Kd.R_alloc | apply Kd.R_drewN | apply Kd.R_drew)); exact Kd.R_mono (Kd.R_far (p := ⟨gb134, 2, none⟩) (Kd.R_far (p := ⟨gb134, 1, none⟩) (Kd.R_far (p := ⟨gb134, 0, none⟩) (Kd.R_types HO_5.out BK134.out (by decide)) (fun _ hk => hk.2) (.int .i64 t127)) (fun _ hk => hk.2) (.string t128)) (fun _ hk => hk.2) (.int .i64 t129)) (fun _ hk => trivial)⟩, ⟨by (with_reducible repeat (first | refine blk_drewN ?_ _ | refine blk_drew ?_ | refine blk_alloc ?_ _)); refine blk_put (cs := #[.int .i64 t127, .string t128, .int .i64 0]) ?_ 2 _ rfl; (with_reducible repeat (first | refine blk_drewN ?_ _ | refine blk_drew ?_ | refine blk_alloc ?_ _)); refine blk_put (cs := #[.int .i64 t127, .string (⟨#[]⟩ : ByteArray), .int .i64 0]) ?_ 1 _ rfl; (with_reducible repeat (first | refine blk_drewN ?_ _ | refine blk_drew ?_ | refine blk_alloc ?_ _)); refine blk_put (cs := #[.int .i64 0, .string (⟨#[]⟩ : ByteArray), .int .i64 0]) ?_ 0 _ rfl; (with_reducible repeat (first | refine blk_drewN ?_ _ | refine blk_drew ?_ | refine blk_alloc ?_ _)); exact BK134.out⟩, ⟨by repeat (first | (with_reducible first | exact HI0.out | apply IsS48.alloc | apply IsS48.drewN | apply IsS48.drew | apply IsS48.set_1 | apply IsS48.set_2 | apply IsS48.set_3 | apply IsS48.far (hne := NB0_134.out)) | exact HI0.out)⟩, ⟨by repeat (first | (with_reducible first | exact HK.out | apply KeepBut.set_ | apply keep_drewN | apply keep_drew | apply keep_alloc | refine keep_far ?_ GW134.out _) | exact HK.out)⟩, ⟨by repeat (first | (with_reducible first | exact HB.out | apply below_alloc | apply pw_below_drewN | apply below_drew1 | refine below_set ?_ (IsS48.ge HI0.out) | refine below_set ?_ GE134.out) | exact HB.out)⟩⟩
       ·replace c13 := Bool.eq_false_iff.mpr c13
        subst c13
        have H1 : (tree_parser_args.j1 k1 a1 x5_1 true s0_0 t131 t132 t133 t127 t128 t129) = some (r1, r2, r3, r4) := by rw [if_neg (show ¬ (false = true) by decide)] at H; exact H
        clear H
        have H := H1
        clear H1
        have H' := Aside0.mk H
        clear H
        go_wp2
        go_meet
        case rel => exact ⟨_, (true), (by first | rfl | (simp; done) | (simp [*]; done)), H', ⟨by have := HK1.out; first | omega | exact Nat.le_refl _⟩, ⟨by (with_reducible repeat (first | apply Kd.R_alloc | apply Kd.R_drewN | apply Kd.R_drew)); exact Kd.R_mono (Kd.R_far (p := ⟨gb134, 2, none⟩) (Kd.R_far (p := ⟨gb134, 1, none⟩) (Kd.R_far (p := ⟨gb134, 0, none⟩) (Kd.R_types HO_5.out BK134.out (by decide)) (fun _ hk => hk.2) (.int .i64 t127)) (fun _ hk => hk.2) (.string t128)) (fun _ hk => hk.2) (.int .i64 t129)) (fun _ hk => trivial)⟩, ⟨by (with_reducible repeat (first | refine blk_drewN ?_ _ | refine blk_drew ?_ | refine blk_alloc ?_ _)); refine blk_put (cs := #[.int .i64 t127, .string t128, .int .i64 0]) ?_ 2 _ rfl; (with_reducible repeat (first | refine blk_drewN ?_ _ | refine blk_drew ?_ | refine blk_alloc ?_ _)); refine blk_put (cs := #[.int .i64 t127, .string (⟨#[]⟩ : ByteArray), .int .i64 0]) ?_ 1 _ rfl; (with_reducible repeat (first | refine blk_drewN ?_ _ | refine blk_drew ?_ | refine blk_alloc ?_ _)); refine blk_put (cs := #[.int .i64 0, .string (⟨#[]⟩ : ByteArray), .int .i64 0]) ?_ 0 _ rfl; (with_reducible repeat (first | refine blk_drewN ?_ _ | refine blk_drew ?_ | refine blk_alloc ?_ _)); exact BK134.out⟩, ⟨by repeat (first | (with_reducible first | exact HI0.out | apply IsS48.alloc | apply IsS48.drewN | apply IsS48.drew | apply IsS48.set_1 | apply IsS48.set_2 | apply IsS48.set_3 | apply IsS48.far (hne := NB0_134.out)) | exact HI0.out)⟩, ⟨by repeat (first | (with_reducible first | exact HK.out | apply KeepBut.set_ | apply keep_drewN | apply keep_drew | apply keep_alloc | refine keep_far ?_ GW134.out _) | exact HK.out)⟩, ⟨by repeat (first | (with_reducible first | exact HB.out | apply below_alloc | apply pw_below_drewN | apply below_drew1 | refine below_set ?_ (IsS48.ge HI0.out) | refine below_set ?_ GE134.out) | exact HB.out)⟩⟩
      case rest =>
       clear HC8
       try clear c1
       try clear p2
       try clear c3
       try clear c4
       try clear c4b0
       try clear c4b1
       try clear c11
       try clear c13
       try clear c14
       try clear hcz12_0
       try clear hcz12_1
       try clear hcz12_2
       try clear hcz15_0
       try clear hcz15_1
       try clear hcz15_2
       try clear hcz6_0
       try clear hcz6_1
       try clear hcz6_2
       try clear hcz6_3
       try clear hfz12_0
       try clear hfz12_1
       try clear hfz12_2
       try clear hfz15_0
       try clear hfz15_1
       try clear hfz15_2
       try clear hfz6_1
       try clear hfz6_2
       try clear hfz6_3
       try clear p2
       obtain ⟨kq, x28_7, rfl, HA, HJ7, HO_5, BK134, HI0, HK, HB⟩ := hcut
       cases kq with
       | zero => exact absurd HA.out (by simp [tree_parser_args.j1])
       | succ kj7 =>
        have H := HA.out
        clear HA
        simp only [tree_parser_args.j1] at H
        by_cases c16 : x28_7 = true
        ·subst c16
         have H1 : (tree_parser_args.j4 kj7 x5_1 s0_0 t131 t132 t133) = some (r1, r2, r3, r4) := by rw [if_pos rfl] at H; exact H
         clear H
         have H := H1
         clear H1
         have H' := Aside0.mk H
         clear H
         go_wp2
         go_meet
         case rel => exact ⟨_, (x5_1), (t131), (t132), (t133), H', ⟨by have := HK1.out; have := HJ7.out; first | omega | exact Nat.le_refl _⟩, ⟨by (with_reducible repeat (first | apply Kd.R_alloc | apply Kd.R_drewN | apply Kd.R_drew)); exact HO_5.out⟩, ⟨by repeat (first | (with_reducible first | exact HI0.out | apply IsS48.alloc | apply IsS48.drewN | apply IsS48.drew | apply IsS48.set_1 | apply IsS48.set_2 | apply IsS48.set_3 | apply IsS48.far (hne := NB0_134.out)) | exact HI0.out)⟩, ⟨by repeat (first | (with_reducible first | exact HK.out | apply KeepBut.set_ | apply keep_drewN | apply keep_drew | apply keep_alloc | refine keep_far ?_ GW134.out _) | exact HK.out)⟩, ⟨by repeat (first | (with_reducible first | exact HB.out | apply below_alloc | apply pw_below_drewN | apply below_drew1 | refine below_set ?_ (IsS48.ge HI0.out) | refine below_set ?_ GE134.out) | exact HB.out)⟩⟩
        ·replace c16 := Bool.eq_false_iff.mpr c16
         subst c16
         have H1 : (if a1 ≥ 64 then ((tree_parser_fail.f s0_0 t131 t132 t133 63 t129).bind fun bt135 => (tree_parser_args.j4 kj7 x5_1 s0_0 bt135.1 bt135.2.1 bt135.2.2)) else ((tree_parser_nodes.f kj7 s0_0 (wrap64 (t131 + 1)) t132 t133 (wrap64 (a1 + 1))).bind fun bt138 => ((tree_parser_peek.f s0_0 bt138.2.1 bt138.2.2.1 bt138.2.2.2).bind fun bt144 => (if bt144.2.2.2.1 = true then (if bt144.1 = 3 then (tree_parser_args.j2 kj7 a1 x5_1 bt138.1 s0_0 (wrap64 (bt144.2.2.2.2.1 + 1)) bt144.2.2.2.2.2.1 bt144.2.2.2.2.2.2) else ((tree_parser_fail.f s0_0 bt144.2.2.2.2.1 bt144.2.2.2.2.2.1 bt144.2.2.2.2.2.2 62 t129).bind fun bt152 => (tree_parser_args.j2 kj7 a1 x5_1 bt138.1 s0_0 bt152.1 bt152.2.1 bt152.2.2))) else ((tree_parser_fail.f s0_0 bt144.2.2.2.2.1 bt144.2.2.2.2.2.1 bt144.2.2.2.2.2.2 62 t129).bind fun bt158 => (if x5_1.length < 5864062014805 then (tree_parser_args.j3 kj7 a1 (x5_1 ++ [bt138.1]) s0_0 bt158.1 bt158.2.1 bt158.2.2) else (none))))))) = some (r1, r2, r3, r4) := by rw [if_neg (show ¬ (false = true) by decide)] at H; exact H
         clear H
         have H := H1
         clear H1
         by_cases c17 : a1 ≥ 64
         ·rw [if_pos c17] at H
          have c17b0 : decide (64 ≤ a1) = true := decide_eq_true c17
          clear c17
          replace H := Option.bind_eq_some_iff.mp H
          obtain ⟨⟨t135, t136, t137⟩, A180, H⟩ := H
          replace H : (tree_parser_args.j4 kj7 x5_1 s0_0 t135 t136 t137) = some (r1, r2, r3, r4) := H
          have A18 := Aside0.mk A180
          clear A180
          have H' := Aside0.mk H
          clear H
          have hnb19 := NB134_0.out
          have hnc19 := NB0_134.out
          have hcz20_0 : wc.cell? ⟨gb134, 0, none⟩ = some (.int .i64 t127) := (blk_cell BK134.out 0).trans rfl
          have hcz20_1 : wc.cell? ⟨gb134, 1, none⟩ = some (.string t128) := (blk_cell BK134.out 1).trans rfl
          have hcz20_2 : wc.cell? ⟨gb134, 2, none⟩ = some (.int .i64 t129) := (blk_cell BK134.out 2).trans rfl
          have hfz20_0 := blk_frozen BK134.out 0
          have hfz20_1 := blk_frozen BK134.out 1
          have hfz20_2 := blk_frozen BK134.out 2
          go_wp2_with (first | ((with_reducible refine gate_callee (f := 33) rfl ?_); refine goesL_ (some 34) rfl rfl Try.func33 (by kernel_rfl) rfl #[.pointer (some ⟨g, 0, none⟩), .int .i64 63, .int .i64 t129] rfl (by (try simp only [List.map_toArray, List.map_cons, List.map_nil]); first | done | rfl | (simp only [List.length_drop, List.length_take]; rfl)) ?_; (with_reducible refine (tree_parser_fail.calls g s0_0 t131 t132 t133 63 t129 t135 t136 t137 w0 _ ?side1 ?side2 A18.out).mono ?_); (case side1 => repeat (first | (with_reducible first | exact HI0.out | apply IsS48.alloc | apply IsS48.drewN | apply IsS48.drew | apply IsS48.set_1 | apply IsS48.set_2 | apply IsS48.set_3 | apply IsS48.far (hne := NB0_134.out)) | exact HI0.out)); (case side2 => repeat (first | (with_reducible first | exact HB.out | apply below_alloc | apply pw_below_drewN | apply below_drew1 | refine below_set ?_ (IsS48.ge HI0.out) | refine below_set ?_ GE134.out) | exact HB.out)); rintro e w21 ⟨rfl, hi, hb, hk⟩; refine ⟨_, rfl, ?_⟩; have n0_ := Aside0.mk (Kd.R_mono (Kd.R_keep (IsS48.apart (show IsS48 w0 _ g s0_0 t131 t132 t133 from by repeat (first | (with_reducible first | exact HI0.out | apply IsS48.alloc | apply IsS48.drewN | apply IsS48.drew | apply IsS48.set_1 | apply IsS48.set_2 | apply IsS48.set_3 | apply IsS48.far (hne := NB0_134.out)) | exact HI0.out)) (by (with_reducible repeat (first | apply Kd.R_alloc | apply Kd.R_drewN | apply Kd.R_drew)); exact HO_5.out) (by decide)) hk (fun _ h => h.2)) (fun _ h => h.1)); have n1_ := Aside0.mk (KeepBut.blk hk (g' := gb134) (o := .cells #[.int .i64 t127, .string t128, .int .i64 t129] 44 (0, 0)) (by (with_reducible repeat (first | refine blk_drewN ?_ _ | refine blk_drew ?_ | refine blk_alloc ?_ _)); exact BK134.out) NB134_0.out (by simp)); have n2_ := Aside0.mk (KeepBut.trans (by repeat (first | (with_reducible first | exact HK.out | apply KeepBut.set_ | apply keep_drewN | apply keep_drew | apply keep_alloc | refine keep_far ?_ GW134.out _) | exact HK.out)) hk (.inl rfl)); have n3_ := Aside0.mk (hb); have n4_ := Aside0.mk (hi); clear HO_5; clear BK134; clear HK; clear HB; clear HI0; have HO_5 := n0_; have BK134 := n1_; have HK := n2_; have HB := n3_; have HI0 := n4_; clear n0_ n1_ n2_ n3_ n4_; (try clear hb); (try clear hb2); (try clear hk); (try clear hi)))
          go_meet
          case rel => exact ⟨_, (x5_1), (t135), (t136), (t137), H', ⟨by have := HK1.out; have := HJ7.out; first | omega | exact Nat.le_refl _⟩, ⟨by (with_reducible repeat (first | apply Kd.R_alloc | apply Kd.R_drewN | apply Kd.R_drew)); exact HO_5.out⟩, ⟨by repeat (first | (with_reducible first | exact HI0.out | apply IsS48.alloc | apply IsS48.drewN | apply IsS48.drew | apply IsS48.set_1 | apply IsS48.set_2 | apply IsS48.set_3 | apply IsS48.far (hne := NB0_134.out)) | exact HI0.out)⟩, ⟨by repeat (first | (with_reducible first | exact HK.out | apply KeepBut.set_ | apply keep_drewN | apply keep_drew | apply keep_alloc | refine keep_far ?_ GW134.out _) | exact HK.out)⟩, ⟨by repeat (first | (with_reducible first | exact HB.out | apply below_alloc | apply pw_below_drewN | apply below_drew1 | refine below_set ?_ (IsS48.ge HI0.out) | refine below_set ?_ GE134.out) | exact HB.out)⟩⟩
         ·rw [if_neg c17] at H
          have c17b0 : decide (64 ≤ a1) = false := decide_eq_false c17
          clear c17
          replace H := Option.bind_eq_some_iff.mp H
          obtain ⟨⟨t138, t141, t142, t143⟩, A220, H⟩ := H
          replace H : ((tree_parser_peek.f s0_0 t141 t142 t143).bind fun bt144 => (if bt144.2.2.2.1 = true then (if bt144.1 = 3 then (tree_parser_args.j2 kj7 a1 x5_1 t138 s0_0 (wrap64 (bt144.2.2.2.2.1 + 1)) bt144.2.2.2.2.2.1 bt144.2.2.2.2.2.2) else ((tree_parser_fail.f s0_0 bt144.2.2.2.2.1 bt144.2.2.2.2.2.1 bt144.2.2.2.2.2.2 62 t129).bind fun bt152 => (tree_parser_args.j2 kj7 a1 x5_1 t138 s0_0 bt152.1 bt152.2.1 bt152.2.2))) else ((tree_parser_fail.f s0_0 bt144.2.2.2.2.1 bt144.2.2.2.2.2.1 bt144.2.2.2.2.2.2 62 t129).bind fun bt158 => (if x5_1.length < 5864062014805 then (tree_parser_args.j3 kj7 a1 (x5_1 ++ [t138]) s0_0 bt158.1 bt158.2.1 bt158.2.2) else (none))))) = some (r1, r2, r3, r4) := H
          have A22 := Aside0.mk A220
          clear A220
          replace H := Option.bind_eq_some_iff.mp H
          obtain ⟨⟨t144, t145, t146, t147, t148, t149, t150⟩, A230, H⟩ := H
          replace H : (if t147 = true then (if t144 = 3 then (tree_parser_args.j2 kj7 a1 x5_1 t138 s0_0 (wrap64 (t148 + 1)) t149 t150) else ((tree_parser_fail.f s0_0 t148 t149 t150 62 t129).bind fun bt152 => (tree_parser_args.j2 kj7 a1 x5_1 t138 s0_0 bt152.1 bt152.2.1 bt152.2.2))) else ((tree_parser_fail.f s0_0 t148 t149 t150 62 t129).bind fun bt158 => (if x5_1.length < 5864062014805 then (tree_parser_args.j3 kj7 a1 (x5_1 ++ [t138]) s0_0 bt158.1 bt158.2.1 bt158.2.2) else (none)))) = some (r1, r2, r3, r4) := H
          have A23 := Aside0.mk A230
          clear A230
          by_cases c24 : t147 = true
          ·subst c24
           have H1 : (if t144 = 3 then (tree_parser_args.j2 kj7 a1 x5_1 t138 s0_0 (wrap64 (t148 + 1)) t149 t150) else ((tree_parser_fail.f s0_0 t148 t149 t150 62 t129).bind fun bt152 => (tree_parser_args.j2 kj7 a1 x5_1 t138 s0_0 bt152.1 bt152.2.1 bt152.2.2))) = some (r1, r2, r3, r4) := by rw [if_pos rfl] at H; exact H
           clear H
           have H := H1
           clear H1
           have HC25 := Aside0.mk H
           clear H
           obtain ⟨ASz26_0, cSz26_0, HGz26, hgz26, HSz26_0⟩ := HI0.out
           have hcz26_0 := cellS48_0 HGz26
           have hcz26_1 := cellS48_1 HGz26
           have hcz26_2 := cellS48_2 HGz26
           have hcz26_3 := cellS48_3 HGz26
           have hfz26_1 := blk_frozen HGz26 1
           have hfz26_2 := blk_frozen HGz26 2
           have hfz26_3 := blk_frozen HGz26 3
           clear HGz26 hgz26
           go_upto_if 56 with (first | ((with_reducible refine gate_callee (f := 20) rfl ?_); refine goesL_ (some 45) rfl rfl Try.func20 (by kernel_rfl) rfl #[.pointer (some ⟨g, 0, none⟩), .int .i64 (wrap64 (a1 + 1))] rfl (by (try simp only [List.map_toArray, List.map_cons, List.map_nil]); first | done | rfl | (simp only [List.length_drop, List.length_take]; rfl)) ?_; (with_reducible refine (ih20 kj7 (by have := HK1.out; have := HJ7.out; omega) g s0_0 (wrap64 (t131 + 1)) t132 t133 (wrap64 (a1 + 1)) t138 t141 t142 t143 w0 _ ?side1 ?side2 A22.out).mono ?_); (case side1 => repeat (first | (with_reducible first | exact HI0.out | apply IsS48.alloc | apply IsS48.drewN | apply IsS48.drew | apply IsS48.set_1 | apply IsS48.set_2 | apply IsS48.set_3 | apply IsS48.far (hne := NB0_134.out)) | exact HI0.out)); (case side2 => repeat (first | (with_reducible first | exact HB.out | apply below_alloc | apply pw_below_drewN | apply below_drew1 | refine below_set ?_ (IsS48.ge HI0.out) | refine below_set ?_ GE134.out) | exact HB.out)); rintro e w27 ⟨v139, rfl, ho0, hi, hb, hk⟩; refine ⟨_, rfl, ?_⟩; have n0_ := Aside0.mk (Kd.R_mono (Kd.R_told (Kd.R_oldK (IsS48.apart (show IsS48 w0 _ g s0_0 (wrap64 (t131 + 1)) t132 t133 from by repeat (first | (with_reducible first | exact HI0.out | apply IsS48.alloc | apply IsS48.drewN | apply IsS48.drew | apply IsS48.set_1 | apply IsS48.set_2 | apply IsS48.set_3 | apply IsS48.far (hne := NB0_134.out)) | exact HI0.out)) (by (with_reducible repeat (first | apply Kd.R_alloc | apply Kd.R_drewN | apply Kd.R_drew)); exact (Kd.R_mono (Kd.R_far (p := ⟨g, 1, none⟩) (IsS48.apart HI0.out HO_5.out (by decide)) (fun _ hk => hk.2) (.int .i64 (wrap64 (t131 + 1)))) (fun _ h_ => h_.1))) (by decide)) hk) (Kd.R_base ho0)) (fun _ h_ => h_.1)); have n1_ := Aside0.mk (KeepBut.blk hk (g' := gb134) (o := .cells #[.int .i64 t127, .string t128, .int .i64 t129] 44 (0, 0)) (by (with_reducible repeat (first | refine blk_drewN ?_ _ | refine blk_drew ?_ | refine blk_alloc ?_ _)); refine blk_far ?_ NB134_0.out _; (with_reducible repeat (first | refine blk_drewN ?_ _ | refine blk_drew ?_ | refine blk_alloc ?_ _)); exact BK134.out) NB134_0.out (by simp)); have n2_ := Aside0.mk (Kd.R_lower (Kd.R_new' ho0 (Kd.R_lt (by (with_reducible repeat (first | apply Kd.R_alloc | apply Kd.R_drewN | apply Kd.R_drew)); exact (Kd.R_mono (Kd.R_far (p := ⟨g, 1, none⟩) (IsS48.apart HI0.out HO_5.out (by decide)) (fun _ hk => hk.2) (.int .i64 (wrap64 (t131 + 1)))) (fun _ h_ => h_.1))))) (keep_size (w := w) (g := g) (row := none) (by repeat (first | (with_reducible first | exact HK.out | apply KeepBut.set_ | apply keep_drewN | apply keep_drew | apply keep_alloc | refine keep_far ?_ GW134.out _) | exact HK.out)))); have n3_ := Aside0.mk (KeepBut.trans (by repeat (first | (with_reducible first | exact HK.out | apply KeepBut.set_ | apply keep_drewN | apply keep_drew | apply keep_alloc | refine keep_far ?_ GW134.out _) | exact HK.out)) hk (.inl rfl)); have n4_ := Aside0.mk (hb); have n5_ := Aside0.mk (hi); clear HO_5; clear BK134; clear HK; clear HB; clear HI0; have HO_5 := n0_; have BK134 := n1_; have HO140 := n2_; have HK := n3_; have HB := n4_; have HI0 := n5_; clear n0_ n1_ n2_ n3_ n4_ n5_; (try clear hb); (try clear hb2); (try clear hk); (try clear hi); (try clear ho0)) | ((with_reducible refine gate_callee (f := 31) rfl ?_); refine goesL_ (some 48) rfl rfl Try.func31 (by kernel_rfl) rfl #[.pointer (some ⟨g, 0, none⟩)] rfl (by (try simp only [List.map_toArray, List.map_cons, List.map_nil]); first | done | rfl | (simp only [List.length_drop, List.length_take]; rfl)) ?_; (with_reducible refine (tree_parser_peek.calls g s0_0 t141 t142 t143 t144 t145 t146 true t148 t149 t150 w0 _ ?side1 ?side2 A23.out).mono ?_); (case side1 => repeat (first | (with_reducible first | exact HI0.out | apply IsS48.alloc | apply IsS48.drewN | apply IsS48.drew | apply IsS48.set_1 | apply IsS48.set_2 | apply IsS48.set_3 | apply IsS48.far (hne := NB0_134.out)) | exact HI0.out)); (case side2 => repeat (first | (with_reducible first | exact HB.out | apply below_alloc | apply pw_below_drewN | apply below_drew1 | refine below_set ?_ (IsS48.ge HI0.out) | refine below_set ?_ GE134.out) | exact HB.out)); rintro e w28 ⟨rfl, hi, hb, hk⟩; refine ⟨_, rfl, ?_⟩; have n0_ := Aside0.mk (Kd.R_mono (Kd.R_keep (IsS48.apart (show IsS48 w0 _ g s0_0 t141 t142 t143 from by repeat (first | (with_reducible first | exact HI0.out | apply IsS48.alloc | apply IsS48.drewN | apply IsS48.drew | apply IsS48.set_1 | apply IsS48.set_2 | apply IsS48.set_3 | apply IsS48.far (hne := NB0_134.out)) | exact HI0.out)) (by (with_reducible repeat (first | apply Kd.R_alloc | apply Kd.R_drewN | apply Kd.R_drew)); exact HO_5.out) (by decide)) hk (fun _ h => h.2)) (fun _ h => h.1)); have n1_ := Aside0.mk (KeepBut.blk hk (g' := gb134) (o := .cells #[.int .i64 t127, .string t128, .int .i64 t129] 44 (0, 0)) (by (with_reducible repeat (first | refine blk_drewN ?_ _ | refine blk_drew ?_ | refine blk_alloc ?_ _)); exact BK134.out) NB134_0.out (by simp)); have n2_ := Aside0.mk (Kd.R_mono (Kd.R_keep (IsS48.apart (show IsS48 w0 _ g s0_0 t141 t142 t143 from by repeat (first | (with_reducible first | exact HI0.out | apply IsS48.alloc | apply IsS48.drewN | apply IsS48.drew | apply IsS48.set_1 | apply IsS48.set_2 | apply IsS48.set_3 | apply IsS48.far (hne := NB0_134.out)) | exact HI0.out)) (by (with_reducible repeat (first | apply Kd.R_alloc | apply Kd.R_drewN | apply Kd.R_drew)); exact HO140.out) (by decide)) hk (fun _ h => h.2)) (fun _ h => h.1)); have n3_ := Aside0.mk (KeepBut.trans (by repeat (first | (with_reducible first | exact HK.out | apply KeepBut.set_ | apply keep_drewN | apply keep_drew | apply keep_alloc | refine keep_far ?_ GW134.out _) | exact HK.out)) hk (.inl rfl)); have n4_ := Aside0.mk (hb); have n5_ := Aside0.mk (hi); clear HO_5; clear BK134; clear HO140; clear HK; clear HB; clear HI0; have HO_5 := n0_; have BK134 := n1_; have HO140 := n2_; have HK := n3_; have HB := n4_; have HI0 := n5_; clear n0_ n1_ n2_ n3_ n4_ n5_; (try clear hb); (try clear hb2); (try clear hk); (try clear hi)) | ((with_reducible refine gate_dst (N := 9) rfl ?_); refine box_event ?hg (N := 9) ?hd (cs := #[.int .i64 0, .string (⟨#[]⟩ : ByteArray), .int .i64 0]) (t := 44) ?hr ?_; (case hd => rfl); (case hg => rfl); (case hr => first | (go_simp; done) | (go_simp; rfl)); intro gb151 hg w29 hbox hb; have n0_ := Aside0.mk (Kd.R_below (by (with_reducible repeat (first | apply Kd.R_alloc | apply Kd.R_drewN | apply Kd.R_drew)); exact HO_5.out) hb); have n1_ := Aside0.mk (Kd.R_below (by (with_reducible repeat (first | apply Kd.R_alloc | apply Kd.R_drewN | apply Kd.R_drew)); exact HO140.out) hb); have n2_ := Aside0.mk (blk_below (g := gb134) (o := .cells #[.int .i64 t127, .string t128, .int .i64 t129] 44 (0, 0)) (by (with_reducible repeat (first | refine blk_drewN ?_ _ | refine blk_drew ?_ | refine blk_alloc ?_ _)); exact BK134.out) hb); have n3_ := Aside0.mk (IsS48.below (by repeat (first | (with_reducible first | exact HI0.out | apply IsS48.alloc | apply IsS48.drewN | apply IsS48.drew | apply IsS48.set_1 | apply IsS48.set_2 | apply IsS48.set_3 | apply IsS48.far (hne := NB0_134.out)) | exact HI0.out)) hb); have n4_ := Aside0.mk (KeepBut.trans (by repeat (first | (with_reducible first | exact HK.out | apply KeepBut.set_ | apply keep_drewN | apply keep_drew | apply keep_alloc | refine keep_far ?_ GW134.out _) | exact HK.out)) (KeepBut.of_below hb g none) (.inl rfl)); have n5_ := Aside0.mk (below_step (by repeat (first | (with_reducible first | exact HB.out | apply below_alloc | apply pw_below_drewN | apply below_drew1 | refine below_set ?_ (IsS48.ge HI0.out) | refine below_set ?_ GE134.out) | exact HB.out)) hb); have n6_ := Aside0.mk (hbox); have n7_ := Aside0.mk ((by rw [hg]; exact (keep_size (w := w) (g := g) (row := none) (by repeat (first | (with_reducible first | exact HK.out | apply KeepBut.set_ | apply keep_drewN | apply keep_drew | apply keep_alloc | refine keep_far ?_ GW134.out _) | exact HK.out))) : w.heap.size ≤ gb151)); have n8_ := Aside0.mk ((Nat.le_trans HW0.out (by rw [hg]; exact (keep_size (w := w) (g := g) (row := none) (by repeat (first | (with_reducible first | exact HK.out | apply KeepBut.set_ | apply keep_drewN | apply keep_drew | apply keep_alloc | refine keep_far ?_ GW134.out _) | exact HK.out))) : w.heap.size ≤ gb151) : w0.heap.size ≤ gb151)); have n9_ := Aside0.mk ((by rw [hg]; exact Nat.ne_of_lt (blk_lt (g := gb134) (o := .cells #[.int .i64 t127, .string t128, .int .i64 t129] 44 (0, 0)) (by (with_reducible repeat (first | refine blk_drewN ?_ _ | refine blk_drew ?_ | refine blk_alloc ?_ _)); exact BK134.out)) : gb134 ≠ gb151)); have n10_ := Aside0.mk ((by rw [hg]; exact Nat.ne_of_gt (blk_lt (g := gb134) (o := .cells #[.int .i64 t127, .string t128, .int .i64 t129] 44 (0, 0)) (by (with_reducible repeat (first | refine blk_drewN ?_ _ | refine blk_drew ?_ | refine blk_alloc ?_ _)); exact BK134.out)) : gb151 ≠ gb134)); have n11_ := Aside0.mk ((by rw [hg]; exact Nat.ne_of_lt (IsS48.lt (show IsS48 w0 _ g s0_0 t148 t149 t150 from by repeat (first | (with_reducible first | exact HI0.out | apply IsS48.alloc | apply IsS48.drewN | apply IsS48.drew | apply IsS48.set_1 | apply IsS48.set_2 | apply IsS48.set_3 | apply IsS48.far (hne := NB0_134.out)) | exact HI0.out))) : g ≠ gb151)); have n12_ := Aside0.mk ((by rw [hg]; exact Nat.ne_of_gt (IsS48.lt (show IsS48 w0 _ g s0_0 t148 t149 t150 from by repeat (first | (with_reducible first | exact HI0.out | apply IsS48.alloc | apply IsS48.drewN | apply IsS48.drew | apply IsS48.set_1 | apply IsS48.set_2 | apply IsS48.set_3 | apply IsS48.far (hne := NB0_134.out)) | exact HI0.out))) : gb151 ≠ g)); clear HO_5; clear HO140; clear BK134; clear HI0; clear HK; clear HB; have HO_5 := n0_; have HO140 := n1_; have BK134 := n2_; have HI0 := n3_; have HK := n4_; have HB := n5_; have BK151 := n6_; have GW151 := n7_; have GE151 := n8_; have NB134_151 := n9_; have NB151_134 := n10_; have NB0_151 := n11_; have NB151_0 := n12_; clear n0_ n1_ n2_ n3_ n4_ n5_ n6_ n7_ n8_ n9_ n10_ n11_ n12_; clear hb hbox hg; have hnb30 := NB151_134.out; have hnc30 := NB134_151.out; have hnb31 := NB151_0.out; have hnc31 := NB0_151.out; have hcz32_0 : w29.cell? ⟨gb151, 0, none⟩ = some (.int .i64 0) := (blk_cell BK151.out 0).trans rfl; have hcz32_1 : w29.cell? ⟨gb151, 1, none⟩ = some (.string (⟨#[]⟩ : ByteArray)) := (blk_cell BK151.out 1).trans rfl; have hcz32_2 : w29.cell? ⟨gb151, 2, none⟩ = some (.int .i64 0) := (blk_cell BK151.out 2).trans rfl; have hfz32_0 := blk_frozen BK151.out 0; have hfz32_1 := blk_frozen BK151.out 1; have hfz32_2 := blk_frozen BK151.out 2))
           (try simp only [Act.put, List.setIfInBounds_toArray, List.set_cons_zero, List.set_cons_succ])
           go_cut [] (fun wc => ∃ (kq : Nat) (x1001_24 : Int) (x1002_24 : Int) (x1003_24 : Int), Aside0 (tree_parser_args.j2 kq a1 x5_1 t138 s0_0 x1001_24 x1002_24 x1003_24 = some (r1, r2, r3, r4)) ∧ Aside0 (kq ≤ kj7) ∧ Aside0 (Kd.R (Kd.slice 38 k38) 23 wc w.heap.size (fun k_ => some k_ ≠ (v139 : Value).ownBlock) u5 x5_1) ∧ Aside0 (Kd.R k38 38 wc w.heap.size (fun k_ => some k_ ≠ (u5 : Value).ownBlock) v139 t138) ∧ Aside0 (wc.heap[gb134]? = some (.cells #[.int .i64 t127, .string t128, .int .i64 t129] 44 (0, 0))) ∧ Aside0 (wc.heap[gb151]? = some (.cells #[.int .i64 t144, .string t145, .int .i64 t146] 44 (0, 0))) ∧ Aside0 (IsS48 w0 wc g s0_0 x1001_24 x1002_24 x1003_24) ∧ Aside0 (KeepBut w wc g none) ∧ Aside0 (Below w0.heap.size w0 wc))
           case first =>
            have H := HC25.out
            clear HC25
            by_cases c33 : t144 = 3
            ·rw [if_pos c33] at H
             have c33b0 : (t144 == 3) = true := beq_iff_eq.mpr c33
             have c33b1 : (t144 != 3) = false := bne_eq_false_iff_eq.mpr c33
             clear c33
             (first | rw [c33b0] | (simp only [i64_w, i32_w]; rw [c33b0]) | skip)
             have H' := Aside0.mk H
             clear H
             obtain ⟨ASz34_0, cSz34_0, HGz34, hgz34, HSz34_0⟩ := HI0.out
             have hcz34_0 := cellS48_0 HGz34
             have hcz34_1 := cellS48_1 HGz34
             have hcz34_2 := cellS48_2 HGz34
             have hcz34_3 := cellS48_3 HGz34
             have hfz34_1 := blk_frozen HGz34 1
             have hfz34_2 := blk_frozen HGz34 2
             have hfz34_3 := blk_frozen HGz34 3
             clear HGz34 hgz34
             go_wp2
             go_meet
             case rel => exact ⟨_, (wrap64 (t148 + 1)), (t149), (t150), H', ⟨by have := HK1.out; have := HJ7.out; first | omega | exact Nat.le_refl _⟩, ⟨by (with_reducible repeat (first | apply Kd.R_alloc | apply Kd.R_drewN | apply Kd.R_drew)); exact Kd.R_mono (Kd.R_far (p := ⟨g, 1, none⟩) (Kd.R_far (p := ⟨gb151, 2, none⟩) (Kd.R_far (p := ⟨gb151, 1, none⟩) (Kd.R_far (p := ⟨gb151, 0, none⟩) (IsS48.apart HI0.out (Kd.R_types HO_5.out BK151.out (by decide)) (by decide)) (fun _ hk => hk.1.2) (.int .i64 t144)) (fun _ hk => hk.1.2) (.string t145)) (fun _ hk => hk.1.2) (.int .i64 t146)) (fun _ hk => hk.2) (.int .i64 (wrap64 (t148 + 1)))) (fun _ hk => hk.1.1.2)⟩, ⟨by (with_reducible repeat (first | apply Kd.R_alloc | apply Kd.R_drewN | apply Kd.R_drew)); exact Kd.R_mono (Kd.R_far (p := ⟨g, 1, none⟩) (Kd.R_far (p := ⟨gb151, 2, none⟩) (Kd.R_far (p := ⟨gb151, 1, none⟩) (Kd.R_far (p := ⟨gb151, 0, none⟩) (IsS48.apart HI0.out (Kd.R_types HO140.out BK151.out (by decide)) (by decide)) (fun _ hk => hk.1.2) (.int .i64 t144)) (fun _ hk => hk.1.2) (.string t145)) (fun _ hk => hk.1.2) (.int .i64 t146)) (fun _ hk => hk.2) (.int .i64 (wrap64 (t148 + 1)))) (fun _ hk => hk.1.1.2)⟩, ⟨by (with_reducible repeat (first | refine blk_drewN ?_ _ | refine blk_drew ?_ | refine blk_alloc ?_ _)); refine blk_far ?_ NB134_0.out _; (with_reducible repeat (first | refine blk_drewN ?_ _ | refine blk_drew ?_ | refine blk_alloc ?_ _)); refine blk_far ?_ NB134_151.out _; (with_reducible repeat (first | refine blk_drewN ?_ _ | refine blk_drew ?_ | refine blk_alloc ?_ _)); refine blk_far ?_ NB134_151.out _; (with_reducible repeat (first | refine blk_drewN ?_ _ | refine blk_drew ?_ | refine blk_alloc ?_ _)); refine blk_far ?_ NB134_151.out _; (with_reducible repeat (first | refine blk_drewN ?_ _ | refine blk_drew ?_ | refine blk_alloc ?_ _)); exact BK134.out⟩, ⟨by (with_reducible repeat (first | refine blk_drewN ?_ _ | refine blk_drew ?_ | refine blk_alloc ?_ _)); refine blk_far ?_ NB151_0.out _; (with_reducible repeat (first | refine blk_drewN ?_ _ | refine blk_drew ?_ | refine blk_alloc ?_ _)); refine blk_put (cs := #[.int .i64 t144, .string t145, .int .i64 0]) ?_ 2 _ rfl; (with_reducible repeat (first | refine blk_drewN ?_ _ | refine blk_drew ?_ | refine blk_alloc ?_ _)); refine blk_put (cs := #[.int .i64 t144, .string (⟨#[]⟩ : ByteArray), .int .i64 0]) ?_ 1 _ rfl; (with_reducible repeat (first | refine blk_drewN ?_ _ | refine blk_drew ?_ | refine blk_alloc ?_ _)); refine blk_put (cs := #[.int .i64 0, .string (⟨#[]⟩ : ByteArray), .int .i64 0]) ?_ 0 _ rfl; (with_reducible repeat (first | refine blk_drewN ?_ _ | refine blk_drew ?_ | refine blk_alloc ?_ _)); exact BK151.out⟩, ⟨by repeat (first | (with_reducible first | exact HI0.out | apply IsS48.alloc | apply IsS48.drewN | apply IsS48.drew | apply IsS48.set_1 | apply IsS48.set_2 | apply IsS48.set_3 | apply IsS48.far (hne := NB0_134.out) | apply IsS48.far (hne := NB0_151.out)) | exact HI0.out)⟩, ⟨by repeat (first | (with_reducible first | exact HK.out | apply KeepBut.set_ | apply keep_drewN | apply keep_drew | apply keep_alloc | refine keep_far ?_ GW134.out _ | refine keep_far ?_ GW151.out _) | exact HK.out)⟩, ⟨by repeat (first | (with_reducible first | exact HB.out | apply below_alloc | apply pw_below_drewN | apply below_drew1 | refine below_set ?_ (IsS48.ge HI0.out) | refine below_set ?_ GE134.out | refine below_set ?_ GE151.out) | exact HB.out)⟩⟩
            ·rw [if_neg c33] at H
             have c33b0 : (t144 == 3) = false := beq_eq_false_iff_ne.mpr c33
             have c33b1 : (t144 != 3) = true := bne_iff_ne.mpr c33
             (first | rw [c33b0] | (simp only [i64_w, i32_w]; rw [c33b0]) | skip)
             replace H := Option.bind_eq_some_iff.mp H
             obtain ⟨⟨t152, t153, t154⟩, A350, H⟩ := H
             replace H : (tree_parser_args.j2 kj7 a1 x5_1 t138 s0_0 t152 t153 t154) = some (r1, r2, r3, r4) := H
             have A35 := Aside0.mk A350
             clear A350
             have H' := Aside0.mk H
             clear H
             have hnb36 := NB134_151.out
             have hnc36 := NB151_134.out
             have hnb37 := NB134_0.out
             have hnc37 := NB0_134.out
             have hcz38_0 : w29.cell? ⟨gb134, 0, none⟩ = some (.int .i64 t127) := (blk_cell BK134.out 0).trans rfl
             have hcz38_1 : w29.cell? ⟨gb134, 1, none⟩ = some (.string t128) := (blk_cell BK134.out 1).trans rfl
             have hcz38_2 : w29.cell? ⟨gb134, 2, none⟩ = some (.int .i64 t129) := (blk_cell BK134.out 2).trans rfl
             have hfz38_0 := blk_frozen BK134.out 0
             have hfz38_1 := blk_frozen BK134.out 1
             have hfz38_2 := blk_frozen BK134.out 2
             go_wp2_with (first | ((with_reducible refine gate_callee (f := 33) rfl ?_); refine goesL_ (some 67) rfl rfl Try.func33 (by kernel_rfl) rfl #[.pointer (some ⟨g, 0, none⟩), .int .i64 62, .int .i64 t129] rfl (by (try simp only [List.map_toArray, List.map_cons, List.map_nil]); first | done | rfl | (simp only [List.length_drop, List.length_take]; rfl)) ?_; (with_reducible refine (tree_parser_fail.calls g s0_0 t148 t149 t150 62 t129 t152 t153 t154 w0 _ ?side1 ?side2 A35.out).mono ?_); (case side1 => repeat (first | (with_reducible first | exact HI0.out | apply IsS48.alloc | apply IsS48.drewN | apply IsS48.drew | apply IsS48.set_1 | apply IsS48.set_2 | apply IsS48.set_3 | apply IsS48.far (hne := NB0_134.out) | apply IsS48.far (hne := NB0_151.out)) | exact HI0.out)); (case side2 => repeat (first | (with_reducible first | exact HB.out | apply below_alloc | apply pw_below_drewN | apply below_drew1 | refine below_set ?_ (IsS48.ge HI0.out) | refine below_set ?_ GE134.out | refine below_set ?_ GE151.out) | exact HB.out)); rintro e w39 ⟨rfl, hi, hb, hk⟩; refine ⟨_, rfl, ?_⟩; have n0_ := Aside0.mk (Kd.R_mono (Kd.R_keep (IsS48.apart (show IsS48 w0 _ g s0_0 t148 t149 t150 from by repeat (first | (with_reducible first | exact HI0.out | apply IsS48.alloc | apply IsS48.drewN | apply IsS48.drew | apply IsS48.set_1 | apply IsS48.set_2 | apply IsS48.set_3 | apply IsS48.far (hne := NB0_134.out) | apply IsS48.far (hne := NB0_151.out)) | exact HI0.out)) (by (with_reducible repeat (first | apply Kd.R_alloc | apply Kd.R_drewN | apply Kd.R_drew)); exact (Kd.R_mono (Kd.R_far (p := ⟨gb151, 2, none⟩) (Kd.R_far (p := ⟨gb151, 1, none⟩) (Kd.R_far (p := ⟨gb151, 0, none⟩) (Kd.R_types HO_5.out BK151.out (by decide)) (fun _ hk => hk.2) (.int .i64 t144)) (fun _ hk => hk.2) (.string t145)) (fun _ hk => hk.2) (.int .i64 t146)) (fun _ h_ => h_.1))) (by decide)) hk (fun _ h => h.2)) (fun _ h => h.1)); have n1_ := Aside0.mk (KeepBut.blk hk (g' := gb134) (o := .cells #[.int .i64 t127, .string t128, .int .i64 t129] 44 (0, 0)) (by (with_reducible repeat (first | refine blk_drewN ?_ _ | refine blk_drew ?_ | refine blk_alloc ?_ _)); refine blk_far ?_ NB134_151.out _; (with_reducible repeat (first | refine blk_drewN ?_ _ | refine blk_drew ?_ | refine blk_alloc ?_ _)); refine blk_far ?_ NB134_151.out _; (with_reducible repeat (first | refine blk_drewN ?_ _ | refine blk_drew ?_ | refine blk_alloc ?_ _)); refine blk_far ?_ NB134_151.out _; (with_reducible repeat (first | refine blk_drewN ?_ _ | refine blk_drew ?_ | refine blk_alloc ?_ _)); exact BK134.out) NB134_0.out (by simp)); have n2_ := Aside0.mk (Kd.R_mono (Kd.R_keep (IsS48.apart (show IsS48 w0 _ g s0_0 t148 t149 t150 from by repeat (first | (with_reducible first | exact HI0.out | apply IsS48.alloc | apply IsS48.drewN | apply IsS48.drew | apply IsS48.set_1 | apply IsS48.set_2 | apply IsS48.set_3 | apply IsS48.far (hne := NB0_134.out) | apply IsS48.far (hne := NB0_151.out)) | exact HI0.out)) (by (with_reducible repeat (first | apply Kd.R_alloc | apply Kd.R_drewN | apply Kd.R_drew)); exact (Kd.R_mono (Kd.R_far (p := ⟨gb151, 2, none⟩) (Kd.R_far (p := ⟨gb151, 1, none⟩) (Kd.R_far (p := ⟨gb151, 0, none⟩) (Kd.R_types HO140.out BK151.out (by decide)) (fun _ hk => hk.2) (.int .i64 t144)) (fun _ hk => hk.2) (.string t145)) (fun _ hk => hk.2) (.int .i64 t146)) (fun _ h_ => h_.1))) (by decide)) hk (fun _ h => h.2)) (fun _ h => h.1)); have n3_ := Aside0.mk (KeepBut.blk hk (g' := gb151) (o := .cells #[.int .i64 t144, .string t145, .int .i64 t146] 44 (0, 0)) (by (with_reducible repeat (first | refine blk_drewN ?_ _ | refine blk_drew ?_ | refine blk_alloc ?_ _)); refine blk_put (cs := #[.int .i64 t144, .string t145, .int .i64 0]) ?_ 2 _ rfl; (with_reducible repeat (first | refine blk_drewN ?_ _ | refine blk_drew ?_ | refine blk_alloc ?_ _)); refine blk_put (cs := #[.int .i64 t144, .string (⟨#[]⟩ : ByteArray), .int .i64 0]) ?_ 1 _ rfl; (with_reducible repeat (first | refine blk_drewN ?_ _ | refine blk_drew ?_ | refine blk_alloc ?_ _)); refine blk_put (cs := #[.int .i64 0, .string (⟨#[]⟩ : ByteArray), .int .i64 0]) ?_ 0 _ rfl; (with_reducible repeat (first | refine blk_drewN ?_ _ | refine blk_drew ?_ | refine blk_alloc ?_ _)); exact BK151.out) NB151_0.out (by simp)); have n4_ := Aside0.mk (KeepBut.trans (by repeat (first | (with_reducible first | exact HK.out | apply KeepBut.set_ | apply keep_drewN | apply keep_drew | apply keep_alloc | refine keep_far ?_ GW134.out _ | refine keep_far ?_ GW151.out _) | exact HK.out)) hk (.inl rfl)); have n5_ := Aside0.mk (hb); have n6_ := Aside0.mk (hi); clear HO_5; clear BK134; clear HO140; clear BK151; clear HK; clear HB; clear HI0; have HO_5 := n0_; have BK134 := n1_; have HO140 := n2_; have BK151 := n3_; have HK := n4_; have HB := n5_; have HI0 := n6_; clear n0_ n1_ n2_ n3_ n4_ n5_ n6_; (try clear hb); (try clear hb2); (try clear hk); (try clear hi)))
             go_meet
             case rel => exact ⟨_, (t152), (t153), (t154), H', ⟨by have := HK1.out; have := HJ7.out; first | omega | exact Nat.le_refl _⟩, ⟨by (with_reducible repeat (first | apply Kd.R_alloc | apply Kd.R_drewN | apply Kd.R_drew)); exact Kd.R_mono HO_5.out (fun _ hk => hk.2)⟩, ⟨by (with_reducible repeat (first | apply Kd.R_alloc | apply Kd.R_drewN | apply Kd.R_drew)); exact Kd.R_mono HO140.out (fun _ hk => hk.2)⟩, ⟨by (with_reducible repeat (first | refine blk_drewN ?_ _ | refine blk_drew ?_ | refine blk_alloc ?_ _)); exact BK134.out⟩, ⟨by (with_reducible repeat (first | refine blk_drewN ?_ _ | refine blk_drew ?_ | refine blk_alloc ?_ _)); exact BK151.out⟩, ⟨by repeat (first | (with_reducible first | exact HI0.out | apply IsS48.alloc | apply IsS48.drewN | apply IsS48.drew | apply IsS48.set_1 | apply IsS48.set_2 | apply IsS48.set_3 | apply IsS48.far (hne := NB0_134.out) | apply IsS48.far (hne := NB0_151.out)) | exact HI0.out)⟩, ⟨by repeat (first | (with_reducible first | exact HK.out | apply KeepBut.set_ | apply keep_drewN | apply keep_drew | apply keep_alloc | refine keep_far ?_ GW134.out _ | refine keep_far ?_ GW151.out _) | exact HK.out)⟩, ⟨by repeat (first | (with_reducible first | exact HB.out | apply below_alloc | apply pw_below_drewN | apply below_drew1 | refine below_set ?_ (IsS48.ge HI0.out) | refine below_set ?_ GE134.out | refine below_set ?_ GE151.out) | exact HB.out)⟩⟩
           case rest =>
            clear HC25
            try clear c1
            try clear c2
            try clear p2
            try clear c3
            try clear c4
            try clear c4b0
            try clear c4b1
            try clear p6
            try clear c11
            try clear c13
            try clear c14
            try clear c16
            try clear c17
            try clear c17b0
            try clear c19
            try clear c20
            try clear c24
            try clear c30
            try clear c31
            try clear c32
            try clear c33
            try clear c33b0
            try clear c33b1
            try clear c36
            try clear c37
            try clear hcz12_0
            try clear hcz12_1
            try clear hcz12_2
            try clear hcz15_0
            try clear hcz15_1
            try clear hcz15_2
            try clear hcz20_0
            try clear hcz20_1
            try clear hcz20_2
            try clear hcz26_0
            try clear hcz26_1
            try clear hcz26_2
            try clear hcz26_3
            try clear hcz32_0
            try clear hcz32_1
            try clear hcz32_2
            try clear hcz34_0
            try clear hcz34_1
            try clear hcz34_2
            try clear hcz34_3
            try clear hcz38_0
            try clear hcz38_1
            try clear hcz38_2
            try clear hcz6_0
            try clear hcz6_1
            try clear hcz6_2
            try clear hcz6_3
            try clear hfz12_0
            try clear hfz12_1
            try clear hfz12_2
            try clear hfz15_0
            try clear hfz15_1
            try clear hfz15_2
            try clear hfz20_0
            try clear hfz20_1
            try clear hfz20_2
            try clear hfz26_1
            try clear hfz26_2
            try clear hfz26_3
            try clear hfz32_0
            try clear hfz32_1
            try clear hfz32_2
            try clear hfz34_1
            try clear hfz34_2
            try clear hfz34_3
            try clear hfz38_0
            try clear hfz38_1
            try clear hfz38_2
            try clear hfz6_1
            try clear hfz6_2
            try clear hfz6_3
            try clear p2
            obtain ⟨kq, x1001_24, x1002_24, x1003_24, HA, HJ24, HO_5, HO_8, BK134, BK151, HI0, HK, HB⟩ := hcut
            cases kq with
            | zero => exact absurd HA.out (by simp [tree_parser_args.j2])
            | succ kj24 =>
             have H := HA.out
             clear HA
             simp only [tree_parser_args.j2] at H
             by_cases c40 : x5_1.length < 5864062014805
             ·rw [if_pos c40] at H
              have LMc40 := Aside0.mk c40
              clear c40
              obtain ⟨y155, hy155⟩ : ∃ y_ : List (List (S38)), y_ = (x5_1 ++ [t138]) := ⟨_, rfl⟩
              replace H : (tree_parser_args.j3 kj24 a1 y155 s0_0 x1001_24 x1002_24 x1003_24) = some (r1, r2, r3, r4) := by first | (rw [hy155]; with_reducible exact H) | (have H2_ := (Option.bind_some _ _).symm.trans H; rw [hy155]; with_reducible exact H2_) | (have H2_ := (Option.bind_some _ _).symm.trans H; with_reducible exact H2_) | with_reducible exact H | (rw [hy155]; exact H) | exact H
              have Ny155 := Aside0.mk hy155
              clear hy155
              have H' := Aside0.mk H
              clear H
              obtain ⟨Ao42, co42, eo42⟩ := Kd.R_slice HO_8.out
              subst eo42
              go_wp2_with (first | ((with_reducible refine gate_builtin (b := .append) (xs := #[.tmp 68, .tmp 70]) rfl ?_); at_builtin; refine Kd.R_append (Kd.slice 38 k38) w.heap.size rfl (.tmp 68) (.tmp 70) 36 23 (.slice none 0 0) 24 rfl Try.underlying36 info23 rfl (by decide) (by omega) u5 x5_1 t138 [.slice Ao42 t138.length co42] (fun _ => True) (fun k_ => ((fun _ => True)) k_ ∧ some k_ ≠ (u5 : Value).ownBlock) rfl rfl ?aP (fun _ hk => hk) ?aF ?aO (Below.refl _ _) ?aS ?aL ?_; (case aP => exact Kd.M_row (Kd.R_mono (HO_8.out) (fun k_ hk => ⟨trivial, hk⟩))); (case aF => exact (fun _ _ => trivial)); (case aO => exact (by (with_reducible repeat (first | apply Kd.R_alloc | apply Kd.R_drewN | apply Kd.R_drew)); exact Kd.R_mono HO_5.out (fun _ hk => trivial))); (case aS => exact (keep_size (w := w) (g := g) (row := none) (by repeat (first | (with_reducible first | exact HK.out | apply KeepBut.set_ | apply keep_drewN | apply keep_drew | apply keep_alloc | refine keep_far ?_ GW134.out _ | refine keep_far ?_ GW151.out _) | exact HK.out)))); (case aL => have := LMc40.out; omega); intro v156 w41 ho hb hg hat; rw [← Ny155.out] at ho; have n0_ := Aside0.mk (blk_grown (g := gb134) (o := .cells #[.int .i64 t127, .string t128, .int .i64 t129] 44 (0, 0)) (by (with_reducible repeat (first | refine blk_drewN ?_ _ | refine blk_drew ?_ | refine blk_alloc ?_ _)); exact BK134.out) hg (Kd.R_ne HO_5.out BK134.out (by decide))); have n1_ := Aside0.mk (blk_grown (g := gb151) (o := .cells #[.int .i64 t144, .string t145, .int .i64 t146] 44 (0, 0)) (by (with_reducible repeat (first | refine blk_drewN ?_ _ | refine blk_drew ?_ | refine blk_alloc ?_ _)); exact BK151.out) hg (Kd.R_ne HO_5.out BK151.out (by decide))); have n2_ := Aside0.mk (IsS48.grown (by repeat (first | (with_reducible first | exact HI0.out | apply IsS48.alloc | apply IsS48.drewN | apply IsS48.drew | apply IsS48.set_1 | apply IsS48.set_2 | apply IsS48.set_3 | apply IsS48.far (hne := NB0_134.out) | apply IsS48.far (hne := NB0_151.out)) | exact HI0.out)) hg (IsS48.own_ne HI0.out HO_5.out (by decide))); have n3_ := Aside0.mk (below_weaken (by repeat (first | (with_reducible first | exact HB.out | apply below_alloc | apply pw_below_drewN | apply below_drew1 | refine below_set ?_ (IsS48.ge HI0.out) | refine below_set ?_ GE134.out | refine below_set ?_ GE151.out) | exact HB.out)) HL.out hb); have n4_ := Aside0.mk (KeepBut.trans (by repeat (first | (with_reducible first | exact HK.out | apply KeepBut.set_ | apply keep_drewN | apply keep_drew | apply keep_alloc | refine keep_far ?_ GW134.out _ | refine keep_far ?_ GW151.out _) | exact HK.out)) (KeepBut.of_grown hg g) (Kd.R_base2 HO_5.out)); have n5_ := Aside0.mk (ho); clear BK134; clear BK151; clear HI0; clear HB; clear HK; clear HO_5; clear HO_8; have BK134 := n0_; have BK151 := n1_; have HI0 := n2_; have HB := n3_; have HK := n4_; have HO157 := n5_; clear n0_ n1_ n2_ n3_ n4_ n5_; clear ho hb hg hat))
              go_meet
              case rel => exact ⟨_, (y155), (x1001_24), (x1002_24), (x1003_24), H', ⟨by have := HK1.out; have := HJ7.out; have := HJ24.out; first | omega | exact Nat.le_refl _⟩, ⟨by (with_reducible repeat (first | apply Kd.R_alloc | apply Kd.R_drewN | apply Kd.R_drew)); exact HO157.out⟩, ⟨by repeat (first | (with_reducible first | exact HI0.out | apply IsS48.alloc | apply IsS48.drewN | apply IsS48.drew | apply IsS48.set_1 | apply IsS48.set_2 | apply IsS48.set_3 | apply IsS48.far (hne := NB0_134.out) | apply IsS48.far (hne := NB0_151.out)) | exact HI0.out)⟩, ⟨by repeat (first | (with_reducible first | exact HK.out | apply KeepBut.set_ | apply keep_drewN | apply keep_drew | apply keep_alloc | refine keep_far ?_ GW134.out _ | refine keep_far ?_ GW151.out _) | exact HK.out)⟩, ⟨by repeat (first | (with_reducible first | exact HB.out | apply below_alloc | apply pw_below_drewN | apply below_drew1 | refine below_set ?_ (IsS48.ge HI0.out) | refine below_set ?_ GE134.out | refine below_set ?_ GE151.out) | exact HB.out)⟩⟩
             ·rw [if_neg c40] at H
              exact absurd H (by simp)
          ·replace c24 := Bool.eq_false_iff.mpr c24
           subst c24
           have H1 : ((tree_parser_fail.f s0_0 t148 t149 t150 62 t129).bind fun bt158 => (if x5_1.length < 5864062014805 then (tree_parser_args.j3 kj7 a1 (x5_1 ++ [t138]) s0_0 bt158.1 bt158.2.1 bt158.2.2) else (none))) = some (r1, r2, r3, r4) := by rw [if_neg (show ¬ (false = true) by decide)] at H; exact H
           clear H
           have H := H1
           clear H1
           replace H := Option.bind_eq_some_iff.mp H
           obtain ⟨⟨t158, t159, t160⟩, A430, H⟩ := H
           replace H : (if x5_1.length < 5864062014805 then (tree_parser_args.j3 kj7 a1 (x5_1 ++ [t138]) s0_0 t158 t159 t160) else (none)) = some (r1, r2, r3, r4) := H
           have A43 := Aside0.mk A430
           clear A430
           by_cases c44 : x5_1.length < 5864062014805
           ·rw [if_pos c44] at H
            have LMc44 := Aside0.mk c44
            clear c44
            obtain ⟨y161, hy161⟩ : ∃ y_ : List (List (S38)), y_ = (x5_1 ++ [t138]) := ⟨_, rfl⟩
            replace H : (tree_parser_args.j3 kj7 a1 y161 s0_0 t158 t159 t160) = some (r1, r2, r3, r4) := by first | (rw [hy161]; with_reducible exact H) | (have H2_ := (Option.bind_some _ _).symm.trans H; rw [hy161]; with_reducible exact H2_) | (have H2_ := (Option.bind_some _ _).symm.trans H; with_reducible exact H2_) | with_reducible exact H | (rw [hy161]; exact H) | exact H
            have Ny161 := Aside0.mk hy161
            clear hy161
            have H' := Aside0.mk H
            clear H
            obtain ⟨ASz45_0, cSz45_0, HGz45, hgz45, HSz45_0⟩ := HI0.out
            have hcz45_0 := cellS48_0 HGz45
            have hcz45_1 := cellS48_1 HGz45
            have hcz45_2 := cellS48_2 HGz45
            have hcz45_3 := cellS48_3 HGz45
            have hfz45_1 := blk_frozen HGz45 1
            have hfz45_2 := blk_frozen HGz45 2
            have hfz45_3 := blk_frozen HGz45 3
            clear HGz45 hgz45
            go_wp2_with (first | ((with_reducible refine gate_callee (f := 20) rfl ?_); refine goesL_ (some 45) rfl rfl Try.func20 (by kernel_rfl) rfl #[.pointer (some ⟨g, 0, none⟩), .int .i64 (wrap64 (a1 + 1))] rfl (by (try simp only [List.map_toArray, List.map_cons, List.map_nil]); first | done | rfl | (simp only [List.length_drop, List.length_take]; rfl)) ?_; (with_reducible refine (ih20 kj7 (by have := HK1.out; have := HJ7.out; omega) g s0_0 (wrap64 (t131 + 1)) t132 t133 (wrap64 (a1 + 1)) t138 t141 t142 t143 w0 _ ?side1 ?side2 A22.out).mono ?_); (case side1 => repeat (first | (with_reducible first | exact HI0.out | apply IsS48.alloc | apply IsS48.drewN | apply IsS48.drew | apply IsS48.set_1 | apply IsS48.set_2 | apply IsS48.set_3 | apply IsS48.far (hne := NB0_134.out)) | exact HI0.out)); (case side2 => repeat (first | (with_reducible first | exact HB.out | apply below_alloc | apply pw_below_drewN | apply below_drew1 | refine below_set ?_ (IsS48.ge HI0.out) | refine below_set ?_ GE134.out) | exact HB.out)); rintro e w46 ⟨v139, rfl, ho0, hi, hb, hk⟩; refine ⟨_, rfl, ?_⟩; have n0_ := Aside0.mk (Kd.R_mono (Kd.R_told (Kd.R_oldK (IsS48.apart (show IsS48 w0 _ g s0_0 (wrap64 (t131 + 1)) t132 t133 from by repeat (first | (with_reducible first | exact HI0.out | apply IsS48.alloc | apply IsS48.drewN | apply IsS48.drew | apply IsS48.set_1 | apply IsS48.set_2 | apply IsS48.set_3 | apply IsS48.far (hne := NB0_134.out)) | exact HI0.out)) (by (with_reducible repeat (first | apply Kd.R_alloc | apply Kd.R_drewN | apply Kd.R_drew)); exact (Kd.R_mono (Kd.R_far (p := ⟨g, 1, none⟩) (IsS48.apart HI0.out HO_5.out (by decide)) (fun _ hk => hk.2) (.int .i64 (wrap64 (t131 + 1)))) (fun _ h_ => h_.1))) (by decide)) hk) (Kd.R_base ho0)) (fun _ h_ => h_.1)); have n1_ := Aside0.mk (KeepBut.blk hk (g' := gb134) (o := .cells #[.int .i64 t127, .string t128, .int .i64 t129] 44 (0, 0)) (by (with_reducible repeat (first | refine blk_drewN ?_ _ | refine blk_drew ?_ | refine blk_alloc ?_ _)); refine blk_far ?_ NB134_0.out _; (with_reducible repeat (first | refine blk_drewN ?_ _ | refine blk_drew ?_ | refine blk_alloc ?_ _)); exact BK134.out) NB134_0.out (by simp)); have n2_ := Aside0.mk (Kd.R_lower (Kd.R_new' ho0 (Kd.R_lt (by (with_reducible repeat (first | apply Kd.R_alloc | apply Kd.R_drewN | apply Kd.R_drew)); exact (Kd.R_mono (Kd.R_far (p := ⟨g, 1, none⟩) (IsS48.apart HI0.out HO_5.out (by decide)) (fun _ hk => hk.2) (.int .i64 (wrap64 (t131 + 1)))) (fun _ h_ => h_.1))))) (keep_size (w := w) (g := g) (row := none) (by repeat (first | (with_reducible first | exact HK.out | apply KeepBut.set_ | apply keep_drewN | apply keep_drew | apply keep_alloc | refine keep_far ?_ GW134.out _) | exact HK.out)))); have n3_ := Aside0.mk (KeepBut.trans (by repeat (first | (with_reducible first | exact HK.out | apply KeepBut.set_ | apply keep_drewN | apply keep_drew | apply keep_alloc | refine keep_far ?_ GW134.out _) | exact HK.out)) hk (.inl rfl)); have n4_ := Aside0.mk (hb); have n5_ := Aside0.mk (hi); clear HO_5; clear BK134; clear HK; clear HB; clear HI0; have HO_5 := n0_; have BK134 := n1_; have HO140 := n2_; have HK := n3_; have HB := n4_; have HI0 := n5_; clear n0_ n1_ n2_ n3_ n4_ n5_; (try clear hb); (try clear hb2); (try clear hk); (try clear hi); (try clear ho0)) | ((with_reducible refine gate_callee (f := 31) rfl ?_); refine goesL_ (some 48) rfl rfl Try.func31 (by kernel_rfl) rfl #[.pointer (some ⟨g, 0, none⟩)] rfl (by (try simp only [List.map_toArray, List.map_cons, List.map_nil]); first | done | rfl | (simp only [List.length_drop, List.length_take]; rfl)) ?_; (with_reducible refine (tree_parser_peek.calls g s0_0 t141 t142 t143 t144 t145 t146 false t148 t149 t150 w0 _ ?side1 ?side2 A23.out).mono ?_); (case side1 => repeat (first | (with_reducible first | exact HI0.out | apply IsS48.alloc | apply IsS48.drewN | apply IsS48.drew | apply IsS48.set_1 | apply IsS48.set_2 | apply IsS48.set_3 | apply IsS48.far (hne := NB0_134.out)) | exact HI0.out)); (case side2 => repeat (first | (with_reducible first | exact HB.out | apply below_alloc | apply pw_below_drewN | apply below_drew1 | refine below_set ?_ (IsS48.ge HI0.out) | refine below_set ?_ GE134.out) | exact HB.out)); rintro e w47 ⟨rfl, hi, hb, hk⟩; refine ⟨_, rfl, ?_⟩; have n0_ := Aside0.mk (Kd.R_mono (Kd.R_keep (IsS48.apart (show IsS48 w0 _ g s0_0 t141 t142 t143 from by repeat (first | (with_reducible first | exact HI0.out | apply IsS48.alloc | apply IsS48.drewN | apply IsS48.drew | apply IsS48.set_1 | apply IsS48.set_2 | apply IsS48.set_3 | apply IsS48.far (hne := NB0_134.out)) | exact HI0.out)) (by (with_reducible repeat (first | apply Kd.R_alloc | apply Kd.R_drewN | apply Kd.R_drew)); exact HO_5.out) (by decide)) hk (fun _ h => h.2)) (fun _ h => h.1)); have n1_ := Aside0.mk (KeepBut.blk hk (g' := gb134) (o := .cells #[.int .i64 t127, .string t128, .int .i64 t129] 44 (0, 0)) (by (with_reducible repeat (first | refine blk_drewN ?_ _ | refine blk_drew ?_ | refine blk_alloc ?_ _)); exact BK134.out) NB134_0.out (by simp)); have n2_ := Aside0.mk (Kd.R_mono (Kd.R_keep (IsS48.apart (show IsS48 w0 _ g s0_0 t141 t142 t143 from by repeat (first | (with_reducible first | exact HI0.out | apply IsS48.alloc | apply IsS48.drewN | apply IsS48.drew | apply IsS48.set_1 | apply IsS48.set_2 | apply IsS48.set_3 | apply IsS48.far (hne := NB0_134.out)) | exact HI0.out)) (by (with_reducible repeat (first | apply Kd.R_alloc | apply Kd.R_drewN | apply Kd.R_drew)); exact HO140.out) (by decide)) hk (fun _ h => h.2)) (fun _ h => h.1)); have n3_ := Aside0.mk (KeepBut.trans (by repeat (first | (with_reducible first | exact HK.out | apply KeepBut.set_ | apply keep_drewN | apply keep_drew | apply keep_alloc | refine keep_far ?_ GW134.out _) | exact HK.out)) hk (.inl rfl)); have n4_ := Aside0.mk (hb); have n5_ := Aside0.mk (hi); clear HO_5; clear BK134; clear HO140; clear HK; clear HB; clear HI0; have HO_5 := n0_; have BK134 := n1_; have HO140 := n2_; have HK := n3_; have HB := n4_; have HI0 := n5_; clear n0_ n1_ n2_ n3_ n4_ n5_; (try clear hb); (try clear hb2); (try clear hk); (try clear hi)) | ((with_reducible refine gate_dst (N := 9) rfl ?_); refine box_event ?hg (N := 9) ?hd (cs := #[.int .i64 0, .string (⟨#[]⟩ : ByteArray), .int .i64 0]) (t := 44) ?hr ?_; (case hd => rfl); (case hg => rfl); (case hr => first | (go_simp; done) | (go_simp; rfl)); intro gb151 hg w48 hbox hb; have n0_ := Aside0.mk (Kd.R_below (by (with_reducible repeat (first | apply Kd.R_alloc | apply Kd.R_drewN | apply Kd.R_drew)); exact HO_5.out) hb); have n1_ := Aside0.mk (Kd.R_below (by (with_reducible repeat (first | apply Kd.R_alloc | apply Kd.R_drewN | apply Kd.R_drew)); exact HO140.out) hb); have n2_ := Aside0.mk (blk_below (g := gb134) (o := .cells #[.int .i64 t127, .string t128, .int .i64 t129] 44 (0, 0)) (by (with_reducible repeat (first | refine blk_drewN ?_ _ | refine blk_drew ?_ | refine blk_alloc ?_ _)); exact BK134.out) hb); have n3_ := Aside0.mk (IsS48.below (by repeat (first | (with_reducible first | exact HI0.out | apply IsS48.alloc | apply IsS48.drewN | apply IsS48.drew | apply IsS48.set_1 | apply IsS48.set_2 | apply IsS48.set_3 | apply IsS48.far (hne := NB0_134.out)) | exact HI0.out)) hb); have n4_ := Aside0.mk (KeepBut.trans (by repeat (first | (with_reducible first | exact HK.out | apply KeepBut.set_ | apply keep_drewN | apply keep_drew | apply keep_alloc | refine keep_far ?_ GW134.out _) | exact HK.out)) (KeepBut.of_below hb g none) (.inl rfl)); have n5_ := Aside0.mk (below_step (by repeat (first | (with_reducible first | exact HB.out | apply below_alloc | apply pw_below_drewN | apply below_drew1 | refine below_set ?_ (IsS48.ge HI0.out) | refine below_set ?_ GE134.out) | exact HB.out)) hb); have n6_ := Aside0.mk (hbox); have n7_ := Aside0.mk ((by rw [hg]; exact (keep_size (w := w) (g := g) (row := none) (by repeat (first | (with_reducible first | exact HK.out | apply KeepBut.set_ | apply keep_drewN | apply keep_drew | apply keep_alloc | refine keep_far ?_ GW134.out _) | exact HK.out))) : w.heap.size ≤ gb151)); have n8_ := Aside0.mk ((Nat.le_trans HW0.out (by rw [hg]; exact (keep_size (w := w) (g := g) (row := none) (by repeat (first | (with_reducible first | exact HK.out | apply KeepBut.set_ | apply keep_drewN | apply keep_drew | apply keep_alloc | refine keep_far ?_ GW134.out _) | exact HK.out))) : w.heap.size ≤ gb151) : w0.heap.size ≤ gb151)); have n9_ := Aside0.mk ((by rw [hg]; exact Nat.ne_of_lt (blk_lt (g := gb134) (o := .cells #[.int .i64 t127, .string t128, .int .i64 t129] 44 (0, 0)) (by (with_reducible repeat (first | refine blk_drewN ?_ _ | refine blk_drew ?_ | refine blk_alloc ?_ _)); exact BK134.out)) : gb134 ≠ gb151)); have n10_ := Aside0.mk ((by rw [hg]; exact Nat.ne_of_gt (blk_lt (g := gb134) (o := .cells #[.int .i64 t127, .string t128, .int .i64 t129] 44 (0, 0)) (by (with_reducible repeat (first | refine blk_drewN ?_ _ | refine blk_drew ?_ | refine blk_alloc ?_ _)); exact BK134.out)) : gb151 ≠ gb134)); have n11_ := Aside0.mk ((by rw [hg]; exact Nat.ne_of_lt (IsS48.lt (show IsS48 w0 _ g s0_0 t148 t149 t150 from by repeat (first | (with_reducible first | exact HI0.out | apply IsS48.alloc | apply IsS48.drewN | apply IsS48.drew | apply IsS48.set_1 | apply IsS48.set_2 | apply IsS48.set_3 | apply IsS48.far (hne := NB0_134.out)) | exact HI0.out))) : g ≠ gb151)); have n12_ := Aside0.mk ((by rw [hg]; exact Nat.ne_of_gt (IsS48.lt (show IsS48 w0 _ g s0_0 t148 t149 t150 from by repeat (first | (with_reducible first | exact HI0.out | apply IsS48.alloc | apply IsS48.drewN | apply IsS48.drew | apply IsS48.set_1 | apply IsS48.set_2 | apply IsS48.set_3 | apply IsS48.far (hne := NB0_134.out)) | exact HI0.out))) : gb151 ≠ g)); clear HO_5; clear HO140; clear BK134; clear HI0; clear HK; clear HB; have HO_5 := n0_; have HO140 := n1_; have BK134 := n2_; have HI0 := n3_; have HK := n4_; have HB := n5_; have BK151 := n6_; have GW151 := n7_; have GE151 := n8_; have NB134_151 := n9_; have NB151_134 := n10_; have NB0_151 := n11_; have NB151_0 := n12_; clear n0_ n1_ n2_ n3_ n4_ n5_ n6_ n7_ n8_ n9_ n10_ n11_ n12_; clear hb hbox hg; have hnb49 := NB151_134.out; have hnc49 := NB134_151.out; have hnb50 := NB151_0.out; have hnc50 := NB0_151.out; have hcz51_0 : w48.cell? ⟨gb151, 0, none⟩ = some (.int .i64 0) := (blk_cell BK151.out 0).trans rfl; have hcz51_1 : w48.cell? ⟨gb151, 1, none⟩ = some (.string (⟨#[]⟩ : ByteArray)) := (blk_cell BK151.out 1).trans rfl; have hcz51_2 : w48.cell? ⟨gb151, 2, none⟩ = some (.int .i64 0) := (blk_cell BK151.out 2).trans rfl; have hfz51_0 := blk_frozen BK151.out 0; have hfz51_1 := blk_frozen BK151.out 1; have hfz51_2 := blk_frozen BK151.out 2; have hnb52 := NB134_0.out; have hnc52 := NB0_134.out; have hcz53_0 : w48.cell? ⟨gb134, 0, none⟩ = some (.int .i64 t127) := (blk_cell BK134.out 0).trans rfl; have hcz53_1 : w48.cell? ⟨gb134, 1, none⟩ = some (.string t128) := (blk_cell BK134.out 1).trans rfl; have hcz53_2 : w48.cell? ⟨gb134, 2, none⟩ = some (.int .i64 t129) := (blk_cell BK134.out 2).trans rfl; have hfz53_0 := blk_frozen BK134.out 0; have hfz53_1 := blk_frozen BK134.out 1; have hfz53_2 := blk_frozen BK134.out 2) | ((with_reducible refine gate_callee (f := 33) rfl ?_); refine goesL_ (some 67) rfl rfl Try.func33 (by kernel_rfl) rfl #[.pointer (some ⟨g, 0, none⟩), .int .i64 62, .int .i64 t129] rfl (by (try simp only [List.map_toArray, List.map_cons, List.map_nil]); first | done | rfl | (simp only [List.length_drop, List.length_take]; rfl)) ?_; (with_reducible refine (tree_parser_fail.calls g s0_0 t148 t149 t150 62 t129 t158 t159 t160 w0 _ ?side1 ?side2 A43.out).mono ?_); (case side1 => repeat (first | (with_reducible first | exact HI0.out | apply IsS48.alloc | apply IsS48.drewN | apply IsS48.drew | apply IsS48.set_1 | apply IsS48.set_2 | apply IsS48.set_3 | apply IsS48.far (hne := NB0_134.out) | apply IsS48.far (hne := NB0_151.out)) | exact HI0.out)); (case side2 => repeat (first | (with_reducible first | exact HB.out | apply below_alloc | apply pw_below_drewN | apply below_drew1 | refine below_set ?_ (IsS48.ge HI0.out) | refine below_set ?_ GE134.out | refine below_set ?_ GE151.out) | exact HB.out)); rintro e w54 ⟨rfl, hi, hb, hk⟩; refine ⟨_, rfl, ?_⟩; have n0_ := Aside0.mk (Kd.R_mono (Kd.R_keep (IsS48.apart (show IsS48 w0 _ g s0_0 t148 t149 t150 from by repeat (first | (with_reducible first | exact HI0.out | apply IsS48.alloc | apply IsS48.drewN | apply IsS48.drew | apply IsS48.set_1 | apply IsS48.set_2 | apply IsS48.set_3 | apply IsS48.far (hne := NB0_134.out) | apply IsS48.far (hne := NB0_151.out)) | exact HI0.out)) (by (with_reducible repeat (first | apply Kd.R_alloc | apply Kd.R_drewN | apply Kd.R_drew)); exact (Kd.R_mono (Kd.R_far (p := ⟨gb151, 2, none⟩) (Kd.R_far (p := ⟨gb151, 1, none⟩) (Kd.R_far (p := ⟨gb151, 0, none⟩) (Kd.R_types HO_5.out BK151.out (by decide)) (fun _ hk => hk.2) (.int .i64 t144)) (fun _ hk => hk.2) (.string t145)) (fun _ hk => hk.2) (.int .i64 t146)) (fun _ h_ => h_.1))) (by decide)) hk (fun _ h => h.2)) (fun _ h => h.1)); have n1_ := Aside0.mk (KeepBut.blk hk (g' := gb134) (o := .cells #[.int .i64 t127, .string t128, .int .i64 t129] 44 (0, 0)) (by (with_reducible repeat (first | refine blk_drewN ?_ _ | refine blk_drew ?_ | refine blk_alloc ?_ _)); refine blk_far ?_ NB134_151.out _; (with_reducible repeat (first | refine blk_drewN ?_ _ | refine blk_drew ?_ | refine blk_alloc ?_ _)); refine blk_far ?_ NB134_151.out _; (with_reducible repeat (first | refine blk_drewN ?_ _ | refine blk_drew ?_ | refine blk_alloc ?_ _)); refine blk_far ?_ NB134_151.out _; (with_reducible repeat (first | refine blk_drewN ?_ _ | refine blk_drew ?_ | refine blk_alloc ?_ _)); exact BK134.out) NB134_0.out (by simp)); have n2_ := Aside0.mk (Kd.R_mono (Kd.R_keep (IsS48.apart (show IsS48 w0 _ g s0_0 t148 t149 t150 from by repeat (first | (with_reducible first | exact HI0.out | apply IsS48.alloc | apply IsS48.drewN | apply IsS48.drew | apply IsS48.set_1 | apply IsS48.set_2 | apply IsS48.set_3 | apply IsS48.far (hne := NB0_134.out) | apply IsS48.far (hne := NB0_151.out)) | exact HI0.out)) (by (with_reducible repeat (first | apply Kd.R_alloc | apply Kd.R_drewN | apply Kd.R_drew)); exact (Kd.R_mono (Kd.R_far (p := ⟨gb151, 2, none⟩) (Kd.R_far (p := ⟨gb151, 1, none⟩) (Kd.R_far (p := ⟨gb151, 0, none⟩) (Kd.R_types HO140.out BK151.out (by decide)) (fun _ hk => hk.2) (.int .i64 t144)) (fun _ hk => hk.2) (.string t145)) (fun _ hk => hk.2) (.int .i64 t146)) (fun _ h_ => h_.1))) (by decide)) hk (fun _ h => h.2)) (fun _ h => h.1)); have n3_ := Aside0.mk (KeepBut.blk hk (g' := gb151) (o := .cells #[.int .i64 t144, .string t145, .int .i64 t146] 44 (0, 0)) (by (with_reducible repeat (first | refine blk_drewN ?_ _ | refine blk_drew ?_ | refine blk_alloc ?_ _)); refine blk_put (cs := #[.int .i64 t144, .string t145, .int .i64 0]) ?_ 2 _ rfl; (with_reducible repeat (first | refine blk_drewN ?_ _ | refine blk_drew ?_ | refine blk_alloc ?_ _)); refine blk_put (cs := #[.int .i64 t144, .string (⟨#[]⟩ : ByteArray), .int .i64 0]) ?_ 1 _ rfl; (with_reducible repeat (first | refine blk_drewN ?_ _ | refine blk_drew ?_ | refine blk_alloc ?_ _)); refine blk_put (cs := #[.int .i64 0, .string (⟨#[]⟩ : ByteArray), .int .i64 0]) ?_ 0 _ rfl; (with_reducible repeat (first | refine blk_drewN ?_ _ | refine blk_drew ?_ | refine blk_alloc ?_ _)); exact BK151.out) NB151_0.out (by simp)); have n4_ := Aside0.mk (KeepBut.trans (by repeat (first | (with_reducible first | exact HK.out | apply KeepBut.set_ | apply keep_drewN | apply keep_drew | apply keep_alloc | refine keep_far ?_ GW134.out _ | refine keep_far ?_ GW151.out _) | exact HK.out)) hk (.inl rfl)); have n5_ := Aside0.mk (hb); have n6_ := Aside0.mk (hi); clear HO_5; clear BK134; clear HO140; clear BK151; clear HK; clear HB; clear HI0; have HO_5 := n0_; have BK134 := n1_; have HO140 := n2_; have BK151 := n3_; have HK := n4_; have HB := n5_; have HI0 := n6_; clear n0_ n1_ n2_ n3_ n4_ n5_ n6_; (try clear hb); (try clear hb2); (try clear hk); (try clear hi); obtain ⟨Ao56, co56, eo56⟩ := Kd.R_slice HO140.out; subst eo56) | ((with_reducible refine gate_builtin (b := .append) (xs := #[.tmp 68, .tmp 70]) rfl ?_); at_builtin; refine Kd.R_append (Kd.slice 38 k38) w.heap.size rfl (.tmp 68) (.tmp 70) 36 23 (.slice none 0 0) 24 rfl Try.underlying36 info23 rfl (by decide) (by omega) u5 x5_1 t138 [.slice Ao56 t138.length co56] (fun _ => True) (fun k_ => ((fun _ => True)) k_ ∧ some k_ ≠ (u5 : Value).ownBlock) rfl rfl ?aP (fun _ hk => hk) ?aF ?aO (Below.refl _ _) ?aS ?aL ?_; (case aP => exact Kd.M_row (Kd.R_mono (HO140.out) (fun k_ hk => ⟨trivial, hk.2⟩))); (case aF => exact (fun _ _ => trivial)); (case aO => exact (by (with_reducible repeat (first | apply Kd.R_alloc | apply Kd.R_drewN | apply Kd.R_drew)); exact Kd.R_mono HO_5.out (fun _ hk => trivial))); (case aS => exact (keep_size (w := w) (g := g) (row := none) (by repeat (first | (with_reducible first | exact HK.out | apply KeepBut.set_ | apply keep_drewN | apply keep_drew | apply keep_alloc | refine keep_far ?_ GW134.out _ | refine keep_far ?_ GW151.out _) | exact HK.out)))); (case aL => have := LMc44.out; omega); intro v162 w55 ho hb hg hat; rw [← Ny161.out] at ho; have n0_ := Aside0.mk (blk_grown (g := gb134) (o := .cells #[.int .i64 t127, .string t128, .int .i64 t129] 44 (0, 0)) (by (with_reducible repeat (first | refine blk_drewN ?_ _ | refine blk_drew ?_ | refine blk_alloc ?_ _)); exact BK134.out) hg (Kd.R_ne HO_5.out BK134.out (by decide))); have n1_ := Aside0.mk (IsS48.grown (by repeat (first | (with_reducible first | exact HI0.out | apply IsS48.alloc | apply IsS48.drewN | apply IsS48.drew | apply IsS48.set_1 | apply IsS48.set_2 | apply IsS48.set_3 | apply IsS48.far (hne := NB0_134.out) | apply IsS48.far (hne := NB0_151.out)) | exact HI0.out)) hg (IsS48.own_ne HI0.out HO_5.out (by decide))); have n2_ := Aside0.mk (blk_grown (g := gb151) (o := .cells #[.int .i64 t144, .string t145, .int .i64 t146] 44 (0, 0)) (by (with_reducible repeat (first | refine blk_drewN ?_ _ | refine blk_drew ?_ | refine blk_alloc ?_ _)); exact BK151.out) hg (Kd.R_ne HO_5.out BK151.out (by decide))); have n3_ := Aside0.mk (below_weaken (by repeat (first | (with_reducible first | exact HB.out | apply below_alloc | apply pw_below_drewN | apply below_drew1 | refine below_set ?_ (IsS48.ge HI0.out) | refine below_set ?_ GE134.out | refine below_set ?_ GE151.out) | exact HB.out)) HL.out hb); have n4_ := Aside0.mk (KeepBut.trans (by repeat (first | (with_reducible first | exact HK.out | apply KeepBut.set_ | apply keep_drewN | apply keep_drew | apply keep_alloc | refine keep_far ?_ GW134.out _ | refine keep_far ?_ GW151.out _) | exact HK.out)) (KeepBut.of_grown hg g) (Kd.R_base2 HO_5.out)); have n5_ := Aside0.mk (ho); clear BK134; clear HI0; clear BK151; clear HB; clear HK; clear HO_5; clear HO140; have BK134 := n0_; have HI0 := n1_; have BK151 := n2_; have HB := n3_; have HK := n4_; have HO163 := n5_; clear n0_ n1_ n2_ n3_ n4_ n5_; clear ho hb hg hat))
            go_meet
            case rel => exact ⟨_, (y161), (t158), (t159), (t160), H', ⟨by have := HK1.out; have := HJ7.out; first | omega | exact Nat.le_refl _⟩, ⟨by (with_reducible repeat (first | apply Kd.R_alloc | apply Kd.R_drewN | apply Kd.R_drew)); exact HO163.out⟩, ⟨by repeat (first | (with_reducible first | exact HI0.out | apply IsS48.alloc | apply IsS48.drewN | apply IsS48.drew | apply IsS48.set_1 | apply IsS48.set_2 | apply IsS48.set_3 | apply IsS48.far (hne := NB0_134.out) | apply IsS48.far (hne := NB0_151.out)) | exact HI0.out)⟩, ⟨by repeat (first | (with_reducible first | exact HK.out | apply KeepBut.set_ | apply keep_drewN | apply keep_drew | apply keep_alloc | refine keep_far ?_ GW134.out _ | refine keep_far ?_ GW151.out _) | exact HK.out)⟩, ⟨by repeat (first | (with_reducible first | exact HB.out | apply below_alloc | apply pw_below_drewN | apply below_drew1 | refine below_set ?_ (IsS48.ge HI0.out) | refine below_set ?_ GE134.out | refine below_set ?_ GE151.out) | exact HB.out)⟩⟩
           ·rw [if_neg c44] at H
            exact absurd H (by simp)
     case rest =>
      clear HC5
      try clear c1
      try clear c2
      try clear p2
      try clear c3
      try clear c4
      try clear c4b0
      try clear c4b1
      try clear c5
      try clear p6
      try clear c11
      try clear c13
      try clear c14
      try clear c16
      try clear c17
      try clear c17b0
      try clear c19
      try clear c20
      try clear c24
      try clear c30
      try clear c31
      try clear c32
      try clear c33
      try clear c33b0
      try clear c33b1
      try clear c36
      try clear c37
      try clear c40
      try clear c44
      try clear c49
      try clear c50
      try clear c52
      try clear hcz12_0
      try clear hcz12_1
      try clear hcz12_2
      try clear hcz15_0
      try clear hcz15_1
      try clear hcz15_2
      try clear hcz20_0
      try clear hcz20_1
      try clear hcz20_2
      try clear hcz26_0
      try clear hcz26_1
      try clear hcz26_2
      try clear hcz26_3
      try clear hcz32_0
      try clear hcz32_1
      try clear hcz32_2
      try clear hcz34_0
      try clear hcz34_1
      try clear hcz34_2
      try clear hcz34_3
      try clear hcz38_0
      try clear hcz38_1
      try clear hcz38_2
      try clear hcz45_0
      try clear hcz45_1
      try clear hcz45_2
      try clear hcz45_3
      try clear hcz51_0
      try clear hcz51_1
      try clear hcz51_2
      try clear hcz53_0
      try clear hcz53_1
      try clear hcz53_2
      try clear hcz6_0
      try clear hcz6_1
      try clear hcz6_2
      try clear hcz6_3
      try clear hfz12_0
      try clear hfz12_1
      try clear hfz12_2
      try clear hfz15_0
      try clear hfz15_1
      try clear hfz15_2
      try clear hfz20_0
      try clear hfz20_1
      try clear hfz20_2
      try clear hfz26_1
      try clear hfz26_2
      try clear hfz26_3
      try clear hfz32_0
      try clear hfz32_1
      try clear hfz32_2
      try clear hfz34_1
      try clear hfz34_2
      try clear hfz34_3
      try clear hfz38_0
      try clear hfz38_1
      try clear hfz38_2
      try clear hfz45_1
      try clear hfz45_2
      try clear hfz45_3
      try clear hfz51_0
      try clear hfz51_1
      try clear hfz51_2
      try clear hfz53_0
      try clear hfz53_1
      try clear hfz53_2
      try clear hfz6_1
      try clear hfz6_2
      try clear hfz6_3
      try clear p2
      try clear p6
      obtain ⟨kq, x5_4, x1001_4, x1002_4, x1003_4, HA, HJ4, HO_5, HI0, HK, HB⟩ := hcut
      cases kq with
      | zero => exact absurd HA.out (by simp [tree_parser_args.j3])
      | succ kj4 =>
       have H := HA.out
       clear HA
       simp only [tree_parser_args.j3] at H
       have H' := Aside0.mk H
       clear H
       go_wp2
       go_roundg kj4
       case measure => have := HK1.out; have := HJ4.out; omega
       case rel => exact ⟨(x5_4), (x1001_4), (x1002_4), (x1003_4), H', ⟨by have := HK1.out; have := HJ4.out; omega⟩, ⟨by (with_reducible repeat (first | apply Kd.R_alloc | apply Kd.R_drewN | apply Kd.R_drew)); exact HO_5.out⟩, ⟨by repeat (first | (with_reducible first | exact HI0.out | apply IsS48.alloc | apply IsS48.drewN | apply IsS48.drew | apply IsS48.set_1 | apply IsS48.set_2 | apply IsS48.set_3) | exact HI0.out)⟩, ⟨by repeat (first | (with_reducible first | exact HK.out | apply KeepBut.set_ | apply keep_drewN | apply keep_drew | apply keep_alloc) | exact HK.out)⟩, ⟨by repeat (first | (with_reducible first | exact HB.out | apply below_alloc | apply pw_below_drewN | apply below_drew1 | refine below_set ?_ (IsS48.ge HI0.out)) | exact HB.out)⟩⟩
    ·rw [if_neg c4] at H
     have c4b0 : (x1002_1 == 0) = false := beq_eq_false_iff_ne.mpr c4
     have c4b1 : (x1002_1 != 0) = true := bne_iff_ne.mpr c4
     (first | rw [c4b0] | (simp only [i64_w, i32_w]; rw [c4b0]) | skip)
     have H' := Aside0.mk H
     clear H
     obtain ⟨ASz57_0, cSz57_0, HGz57, hgz57, HSz57_0⟩ := HI0.out
     have hcz57_0 := cellS48_0 HGz57
     have hcz57_1 := cellS48_1 HGz57
     have hcz57_2 := cellS48_2 HGz57
     have hcz57_3 := cellS48_3 HGz57
     have hfz57_1 := blk_frozen HGz57 1
     have hfz57_2 := blk_frozen HGz57 2
     have hfz57_3 := blk_frozen HGz57 3
     clear HGz57 hgz57
     go_wp2
     go_meet
     case rel => exact ⟨_, (x5_1), (x1001_1), (x1002_1), (x1003_1), H', ⟨by have := HK1.out; first | omega | exact Nat.le_refl _⟩, ⟨by (with_reducible repeat (first | apply Kd.R_alloc | apply Kd.R_drewN | apply Kd.R_drew)); exact HO_5.out⟩, ⟨by repeat (first | (with_reducible first | exact HI0.out | apply IsS48.alloc | apply IsS48.drewN | apply IsS48.drew | apply IsS48.set_1 | apply IsS48.set_2 | apply IsS48.set_3) | exact HI0.out)⟩, ⟨by repeat (first | (with_reducible first | exact HK.out | apply KeepBut.set_ | apply keep_drewN | apply keep_drew | apply keep_alloc) | exact HK.out)⟩, ⟨by repeat (first | (with_reducible first | exact HB.out | apply below_alloc | apply pw_below_drewN | apply below_drew1 | refine below_set ?_ (IsS48.ge HI0.out)) | exact HB.out)⟩⟩
 case rest =>
  clear HC3
  try clear c1
  try clear c2
  try clear p2
  try clear c3
  try clear c4
  try clear c4b0
  try clear c4b1
  try clear c5
  try clear p6
  try clear c11
  try clear c13
  try clear c14
  try clear c16
  try clear c17
  try clear c17b0
  try clear c19
  try clear c20
  try clear c24
  try clear c30
  try clear c31
  try clear c32
  try clear c33
  try clear c33b0
  try clear c33b1
  try clear c36
  try clear c37
  try clear c40
  try clear c44
  try clear c49
  try clear c50
  try clear c52
  try clear hcz12_0
  try clear hcz12_1
  try clear hcz12_2
  try clear hcz15_0
  try clear hcz15_1
  try clear hcz15_2
  try clear hcz20_0
  try clear hcz20_1
  try clear hcz20_2
  try clear hcz26_0
  try clear hcz26_1
  try clear hcz26_2
  try clear hcz26_3
  try clear hcz32_0
  try clear hcz32_1
  try clear hcz32_2
  try clear hcz34_0
  try clear hcz34_1
  try clear hcz34_2
  try clear hcz34_3
  try clear hcz38_0
  try clear hcz38_1
  try clear hcz38_2
  try clear hcz45_0
  try clear hcz45_1
  try clear hcz45_2
  try clear hcz45_3
  try clear hcz51_0
  try clear hcz51_1
  try clear hcz51_2
  try clear hcz53_0
  try clear hcz53_1
  try clear hcz53_2
  try clear hcz57_0
  try clear hcz57_1
  try clear hcz57_2
  try clear hcz57_3
  try clear hcz6_0
  try clear hcz6_1
  try clear hcz6_2
  try clear hcz6_3
  try clear hfz12_0
  try clear hfz12_1
  try clear hfz12_2
  try clear hfz15_0
  try clear hfz15_1
  try clear hfz15_2
  try clear hfz20_0
  try clear hfz20_1
  try clear hfz20_2
  try clear hfz26_1
  try clear hfz26_2
  try clear hfz26_3
  try clear hfz32_0
  try clear hfz32_1
  try clear hfz32_2
  try clear hfz34_1
  try clear hfz34_2
  try clear hfz34_3
  try clear hfz38_0
  try clear hfz38_1
  try clear hfz38_2
  try clear hfz45_1
  try clear hfz45_2
  try clear hfz45_3
  try clear hfz51_0
  try clear hfz51_1
  try clear hfz51_2
  try clear hfz53_0
  try clear hfz53_1
  try clear hfz53_2
  try clear hfz57_1
  try clear hfz57_2
  try clear hfz57_3
  try clear hfz6_1
  try clear hfz6_2
  try clear hfz6_3
  try clear p2
  try clear p6
  obtain ⟨kq, x5_2, x1001_2, x1002_2, x1003_2, HA, HJ2, HO_5, HI0, HK, HB⟩ := hcut
  cases kq with
  | zero => exact absurd HA.out (by simp [tree_parser_args.j4])
  | succ kj2 =>
   have H := HA.out
   clear HA
   simp only [tree_parser_args.j4] at H
   simp only [Option.some.injEq, Prod.mk.injEq] at H
   obtain ⟨rfl, rfl, rfl, rfl⟩ := H
   go_wp2
   go_ret
   exact ⟨_, by first | rfl | (simp [errW_none, errW_some] <;> rfl) | (simp [*, errW_none, errW_some] <;> rfl), by (with_reducible repeat (first | apply Kd.R_alloc | apply Kd.R_drewN | apply Kd.R_drew)); exact HO_5.out, by repeat (first | (with_reducible first | exact HI0.out | apply IsS48.alloc | apply IsS48.drewN | apply IsS48.drew | apply IsS48.set_1 | apply IsS48.set_2 | apply IsS48.set_3) | exact HI0.out), by repeat (first | (with_reducible first | exact HB.out | apply below_alloc | apply pw_below_drewN | apply below_drew1 | refine below_set ?_ (IsS48.ge HI0.out)) | exact HB.out), by repeat (first | (with_reducible first | exact HK.out | apply KeepBut.set_ | apply keep_drewN | apply keep_drew | apply keep_alloc) | exact HK.out)⟩
theorem tree_parser_nodes.calls_all : ∀ k, tree_parser_nodes.Spec k ∧ tree_parser_args.Spec k := by
 intro k
 induction k using Nat.strongRecOn with
 | _ k ih => exact ⟨tree_parser_nodes.calls_of k (fun k_ h_ => (ih k_ h_).1) (fun k_ h_ => (ih k_ h_).2), tree_parser_args.calls_of k (fun k_ h_ => (ih k_ h_).2) (fun k_ h_ => (ih k_ h_).1)⟩
theorem tree_parser_nodes.calls (k : Nat) : tree_parser_nodes.Spec k := (tree_parser_nodes.calls_all k).1
end Go.Proofs.Ytmpglkeoppbpgaa.PTree
