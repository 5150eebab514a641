/- A part of the row's proof. -/
import Derived.Test.YtmpglkeoppbpgaaCPTreex5
import Derived.RegionTactic
import Derived.BigRegion
namespace Go.Proofs.Ytmpglkeoppbpgaa.PTree
open Go.RowKit Go.Proofs.YtmpglkeoppbpgaaW.PrintWords Go.Proofs.YtmpglkeoppbpgaaW.PrintLast Go.Proofs.YtmpglkeoppbpgaaW.PrintMore
set_option linter.unusedVariables false
set_option linter.unusedSimpArgs false
def tree_Parse.f (k : Nat) (l0 : List S44) : Option (List S38 × Int × Int) :=
 (tree_parser_nodes.f k l0 0 0 0 0).bind fun b => if b.2.2.1 = 0 then some (b.1, 0, 0) else some ([], b.2.2.1, b.2.2.2)
theorem tree_Parse.mono : ∀ a0 k, LeO (tree_Parse.f k a0) (tree_Parse.f (k + 1) a0) := by
 intro a0 k
 unfold tree_Parse.f
 exact LeO.bind (tree_parser_nodes.mono _ _ _ _ _ _) (fun _ => LeO.refl _)
set_option maxHeartbeats 800000 in
set_option maxRecDepth 100000 in
theorem tree_Parse.calls (k : Nat) (A0 : Option Addr) (c0 : Nat) (l0 : List (S44)) (r1 : List (S38)) (r2 : Int) (r3 : Int) (w : World) (hr0 : Kd.C k44 w A0 l0.length l0) (hc0 : l0.length ≤ c0) (h : tree_Parse.f k l0 = some (r1, r2, r3)) :
  Calls Try.prog 7 #[.slice A0 l0.length c0] w fun e w' => ∃ v0_ : Value, e = .returned (.tuple #[v0_, .agg #[.int .i64 r2, .int .i64 r3]]) ∧ Kd.R k38 38 w' w.heap.size (fun _ => True) v0_ r1 ∧ Below w.heap.size w w' := by
 have hu26 := Try.underlying26
 have hu48 := Try.underlying48
 obtain ⟨⟨n1, n2, n3, n4⟩, hn, hr⟩ := Option.bind_eq_some_iff.1 h
 clear h
 have HR0 := Aside0.mk hr0
 have HC0 := Aside0.mk hc0
 have HN := Aside0.mk hn
 have HE := Aside0.mk hr
 clear hr0 hc0 hn hr
 go_enter Try.func7, Try.ntmps7
 go_wp2_with (fail)
 have hW1 : Below w.heap.size w (w.alloc (.cells #[.int .i64 0, .int .i64 0] 26)) := below_alloc (Below.refl _ _) _
 have hI : IsS48 w ((w.alloc (.cells #[.int .i64 0, .int .i64 0] 26)).alloc (.cells #[.slice A0 l0.length c0, .int .i64 0, .int .i64 0, .int .i64 0] 48)) (w.heap.size + 1) l0 0 0 0 := by
  have := IsS48.new w (w.alloc (.cells #[.int .i64 0, .int .i64 0] 26)) A0 c0 l0 0 0 0 hW1 HR0.out
  simpa using this
 have hW2 : Below w.heap.size w ((w.alloc (.cells #[.int .i64 0, .int .i64 0] 26)).alloc (.cells #[.slice A0 l0.length c0, .int .i64 0, .int .i64 0, .int .i64 0] 48)) := below_alloc hW1 _
 have hR : ((w.alloc (.cells #[.int .i64 0, .int .i64 0] 26)).alloc (.cells #[.slice A0 l0.length c0, .int .i64 0, .int .i64 0, .int .i64 0] 48)).heap[w.heap.size]? = some (.cells #[.int .i64 0, .int .i64 0] 26 (0, 0)) := blk_alloc (blk_new w _) _
 refine (tree_parser_nodes.calls k (w.heap.size + 1) l0 0 0 0 0 n1 n2 n3 n4 w _ hI hW2 HN.out).mono ?_
 rintro e w3 ⟨v0, rfl, ho, hi, hb, hk⟩
 have HO := Aside0.mk (Kd.R_lower ho hW2.size)
 have HI := Aside0.mk hi
 have HB := Aside0.mk hb
 have HR := Aside0.mk (hk.blk hR (by omega) (by simp))
 clear ho hb hk hR hI hW1 hW2
 obtain ⟨A1, c1, HG, hg, HC1⟩ := hi
 have hcz_2 := cellS48_2 HG
 have hcz_3 := cellS48_3 HG
 clear HG hg HC1
 have hrc0 : w3.cell? ⟨w.heap.size, 0, none⟩ = some (.int .i64 0) := (blk_cell HR.out 0).trans rfl
 have hrc1 : w3.cell? ⟨w.heap.size, 1, none⟩ = some (.int .i64 0) := (blk_cell HR.out 1).trans rfl
 have hrf0 := blk_frozen HR.out 0
 have hrf1 := blk_frozen HR.out 1
 by_cases hz : n3 = 0
 ·have hzb : (n3 != 0) = false := bne_eq_false_iff_eq.mpr hz
  have HE2 := HE.out
  rw [if_pos (show ((n1, n2, n3, n4) : List S38 × Int × Int × Int).2.2.1 = 0 from hz)] at HE2
  simp only [Option.some.injEq, Prod.mk.injEq] at HE2
  obtain ⟨rfl, rfl, rfl⟩ := HE2
  clear hz
  go_wp2
  refine bodyPost_ret (results_tc rfl _ _ w.heap.size 26 #[.int .i64 0, .int .i64 0] (0, 0) _ rfl ?_ Try.underlying26 rfl (by kernel_rfl)) rfl ?_
  ·refine blk_put (cs := #[.int .i64 0, .int .i64 0]) ?_ 1 _ rfl
   refine blk_put (cs := #[.int .i64 0, .int .i64 0]) ?_ 0 _ rfl
   exact HR.out
  ·refine ⟨v0, rfl, ?_, ?_⟩
   ·exact Kd.R_mono (Kd.R_far (p := ⟨w.heap.size, 1, none⟩) (Kd.R_far (p := ⟨w.heap.size, 0, none⟩) (Kd.R_types HO.out HR.out (by decide)) (fun _ hk => hk.2) _) (fun _ hk => hk.2) _) (fun _ hk => trivial)
   ·exact below_set (below_set HB.out (Nat.le_refl _)) (Nat.le_refl _)
 ·have hzb : (n3 != 0) = true := bne_iff_ne.mpr hz
  have HE2 := HE.out
  rw [if_neg (show ¬ ((n1, n2, n3, n4) : List S38 × Int × Int × Int).2.2.1 = 0 from hz)] at HE2
  simp only [Option.some.injEq, Prod.mk.injEq] at HE2
  obtain ⟨rfl, rfl, rfl⟩ := HE2
  clear hz
  go_wp2
  go_region
  go_wp2
  refine bodyPost_ret (results_tc rfl _ _ w.heap.size 26 #[.int .i64 n3, .int .i64 n4] (0, 0) _ rfl ?_ Try.underlying26 rfl (by kernel_rfl)) rfl ?_
  ·refine blk_put (cs := #[.int .i64 n3, .int .i64 0]) ?_ 1 _ rfl
   refine blk_put (cs := #[.int .i64 0, .int .i64 0]) ?_ 0 _ rfl
   exact HR.out
  ·exact ⟨_, rfl, Kd.R_nil _ _ _ _ _, below_set (below_set (below_drew1 HB.out) (Nat.le_refl _)) (Nat.le_refl _)⟩
end Go.Proofs.Ytmpglkeoppbpgaa.PTree
