/- A part of the row's proof. -/
import Derived.Test.YtmpglkeoppbpgaaCWWords
import Derived.Test.YtmpglkeoppbpgaaCWMore
namespace Go.Proofs.YtmpglkeoppbpgaaW.PrintWords
open Go.RowKit
theorem am {p : Prop} (h : p) : Aside0 p := ⟨h⟩
theorem bN {w : World} {g : Nat} {o : Obj} (h : w.heap[g]? = some o) (n : Nat) : (w.drewN n).heap[g]? = some o := h
theorem bD {w : World} {g : Nat} {o : Obj} (h : w.heap[g]? = some o) : w.drew.heap[g]? = some o := h
theorem bA {w : World} {g : Nat} {o : Obj} (h : w.heap[g]? = some o) (o' : Obj) : (w.alloc o').heap[g]? = some o := blk_alloc h o'
theorem lS {w W : World} {g j : Nat} {v : Value} (h : Below w.heap.size w W) (hg : w.heap.size ≤ g) : Below w.heap.size w (W.setCell ⟨g, j, none⟩ v) := below_set h hg
theorem lN {B : Nat} {w W : World} (h : Below B w W) (n : Nat) : Below B w (W.drewN n) := pw_below_drewN h n
theorem lD {base : Nat} {w W : World} (h : Below base w W) : Below base w W.drew := h.drew
theorem lA {w W : World} (h : Below w.heap.size w W) (o : Obj) : Below w.heap.size w (W.alloc o) := below_alloc h o
theorem bC {w : World} {g : Nat} {t : TypeId} {cs : Array Value} (h : w.heap[g]? = some (.cells cs t (0, 0))) (i : Nat) : w.cell? ⟨g, i, none⟩ = cs[i]? := blk_cell h i
theorem bB {w w1 : World} {g : Nat} {o : Obj} (h : w.heap[g]? = some o) (hb : Below w.heap.size w w1) : w1.heap[g]? = some o := blk_below h hb
theorem bP {w : World} {g : Nat} {t : TypeId} {cs cs' : Array Value} (h : w.heap[g]? = some (.cells cs t (0, 0))) (i : Nat) (u : Value) (e : cs.setIfInBounds i u = cs') : (w.setCell ⟨g, i, none⟩ u).heap[g]? = some (.cells cs' t (0, 0)) := blk_put h i u e
theorem bF {w : World} {g : Nat} {t : TypeId} {cs : Array Value} (h : w.heap[g]? = some (.cells cs t (0, 0))) (i : Nat) : w.frozen? ⟨g, i, none⟩ = false := blk_frozen h i
theorem bR {w : World} {g : Nat} {t : TypeId} {cs : Array Value} (h : w.heap[g]? = some (.cells cs t (0, 0))) {p : Addr} (hp : g ≠ p.block) (u : Value) : (w.setCell p u).heap[g]? = some (.cells cs t (0, 0)) := blk_far h hp u
theorem rA {α : Type} {d : Kd α} {e : Nat} {w : World} {base : Nat} {ok : Nat → Prop} {v : Value} {xs : List α} (h : d.R e w base ok v xs) (o : Obj) : d.R e (w.alloc o) base ok v xs := Kd.R_alloc h o
theorem rD {α : Type} {d : Kd α} {e : Nat} {w : World} {base : Nat} {ok : Nat → Prop} {v : Value} {xs : List α} (h : d.R e w base ok v xs) : d.R e w.drew base ok v xs := Kd.R_drew h
theorem rN {α : Type} {d : Kd α} {e : Nat} {w : World} {base : Nat} {ok : Nat → Prop} {v : Value} {xs : List α} (h : d.R e w base ok v xs) (m : Nat) : d.R e (w.drewN m) base ok v xs := Kd.R_drewN h m
namespace Kd
section
variable {α : Type} {F : Kd α → Kd α} {sz : Nat} {E : List Nat} {hs : ∀ n, (upto F sz E n).sz = sz} {hE : ∀ n q, q ∈ (upto F sz E n).E → q ∈ E}
theorem slice_K_imp {d d' : Kd α} {e : Nat} (hsz : d.sz = d'.sz) (h : ∀ w x cs, d.K w x cs → d'.K w x cs) (w : World) (x : List α) (cs : List Value) (hk : (slice e d).K w x cs) : (slice e d').K w x cs :=
 (mono_slice e (mono_id (α := α))).K d d' hsz h w x cs hk
theorem slice_M_imp {d d' : Kd α} {e : Nat} (hsz : d.sz = d'.sz) (h : ∀ w base ok x cs, d.M w base ok x cs → d'.M w base ok x cs) (w : World) (base : Nat) (ok : Nat → Prop) (x : List α) (cs : List Value) (hk : (slice e d).M w base ok x cs) : (slice e d').M w base ok x cs :=
 (mono_slice e (mono_id (α := α))).M d d' hsz h w base ok x cs hk
theorem fix_C2 {n e : Nat} {w : World} {A : Option Addr} {m : Nat} {xs : List (List α)} (h : (slice e (upto F sz E n)).C w A m xs) : (slice e (fix F sz E hs hE)).C w A m xs :=
 C_imp (d := slice e (upto F sz E n)) (d' := slice e (fix F sz E hs hE)) rfl (slice_K_imp (d := upto F sz E n) (d' := fix F sz E hs hE) (hs n) (fun w x cs hp => (⟨n, hp⟩ : ∃ n, (upto F sz E n).K w x cs))) h
theorem fix_R2 {n e e1 : Nat} {w : World} {base : Nat} {ok : Nat → Prop} {v : Value} {xs : List (List α)} (h : (slice e (upto F sz E n)).R e1 w base ok v xs) : (slice e (fix F sz E hs hE)).R e1 w base ok v xs :=
 R_imp (d := slice e (upto F sz E n)) (d' := slice e (fix F sz E hs hE)) rfl (slice_M_imp (d := upto F sz E n) (d' := fix F sz E hs hE) (hs n) (fun w base ok x cs hp => (⟨n, hp⟩ : ∃ n, (upto F sz E n).M w base ok x cs))) h
theorem upto_C2_le (hm : Mono F) (hs : ∀ n, (upto F sz E n).sz = sz) {n m : Nat} (hnm : n ≤ m) {e : Nat} {w : World} {A : Option Addr} {l : Nat} {xs : List (List α)} (h : (slice e (upto F sz E n)).C w A l xs) : (slice e (upto F sz E m)).C w A l xs :=
 C_imp (d := slice e (upto F sz E n)) (d' := slice e (upto F sz E m)) rfl (slice_K_imp (d := upto F sz E n) (d' := upto F sz E m) (by rw [hs n, hs m]) (fun _ _ _ hp => upto_K_le hm hs hnm hp)) h
theorem upto_R2_le (hm : Mono F) (hs : ∀ n, (upto F sz E n).sz = sz) {n m : Nat} (hnm : n ≤ m) {e e1 : Nat} {w : World} {base : Nat} {ok : Nat → Prop} {v : Value} {xs : List (List α)} (h : (slice e (upto F sz E n)).R e1 w base ok v xs) : (slice e (upto F sz E m)).R e1 w base ok v xs :=
 R_imp (d := slice e (upto F sz E n)) (d' := slice e (upto F sz E m)) rfl (slice_M_imp (d := upto F sz E n) (d' := upto F sz E m) (by rw [hs n, hs m]) (fun _ _ _ _ _ hp => upto_M_le hm hs hnm hp)) h
theorem slice_K_back (hm : Mono F) {e : Nat} {w : World} {x : List α} {cs : List Value} (h : (slice e (fix F sz E hs hE)).K w x cs) : ∃ n, (slice e (upto F sz E n)).K w x cs := by
 obtain ⟨A, c, rfl, hl, hr⟩ := h
 obtain ⟨n, hn⟩ := fix_C_back hm hr
 exact ⟨n, A, c, rfl, hl, hn⟩
theorem slice_M_back (hm : Mono F) {e : Nat} {w : World} {base : Nat} {ok : Nat → Prop} {x : List α} {cs : List Value} (h : (slice e (fix F sz E hs hE)).M w base ok x cs) : ∃ n, (slice e (upto F sz E n)).M w base ok x cs := by
 obtain ⟨v, rfl, hr⟩ := h
 obtain ⟨n, hn⟩ := fix_R_back hm hr
 exact ⟨n, v, rfl, hn⟩
theorem slice_K_le (hm : Mono F) (hs : ∀ n, (upto F sz E n).sz = sz) {n m e : Nat} (hnm : n ≤ m) {w : World} {x : List α} {cs : List Value} (h : (slice e (upto F sz E n)).K w x cs) : (slice e (upto F sz E m)).K w x cs :=
 slice_K_imp (by rw [hs n, hs m]) (fun _ _ _ hp => upto_K_le hm hs hnm hp) w x cs h
theorem slice_M_le (hm : Mono F) (hs : ∀ n, (upto F sz E n).sz = sz) {n m e : Nat} (hnm : n ≤ m) {w : World} {base : Nat} {ok : Nat → Prop} {x : List α} {cs : List Value} (h : (slice e (upto F sz E n)).M w base ok x cs) : (slice e (upto F sz E m)).M w base ok x cs :=
 slice_M_imp (by rw [hs n, hs m]) (fun _ _ _ _ _ hp => upto_M_le hm hs hnm hp) w base ok x cs h
theorem fix_R2_back (hm : Mono F) {e e1 : Nat} {w : World} {base : Nat} {ok : Nat → Prop} {v : Value} {xs : List (List α)} (h : (slice e (fix F sz E hs hE)).R e1 w base ok v xs) : ∃ n, (slice e (upto F sz E n)).R e1 w base ok v xs := by
 obtain ⟨h0, inner, ho, hr⟩ := h
 obtain ⟨N, hN⟩ := reps_bounded (R := fun n p c => (slice e (upto F sz E n)).M w base (fun k => ok k ∧ some k ≠ v.ownBlock) p c) (fun n m p c hnm hp => slice_M_le hm hs hnm hp) (hr.imp_ (fun _ _ hp => slice_M_back hm hp))
 exact ⟨N, h0, inner, ho, hN⟩
theorem fix_C2_back (hm : Mono F) {e : Nat} {w : World} {A : Option Addr} {m : Nat} {xs : List (List α)} (h : (slice e (fix F sz E hs hE)).C w A m xs) : ∃ n, (slice e (upto F sz E n)).C w A m xs := by
 rcases Nat.eq_zero_or_pos m with hz | hpos
 ·subst hz
  exact ⟨0, h.1, h.2.1, fun hp => absurd hp (Nat.lt_irrefl 0)⟩
 ·obtain ⟨ad, e', hc⟩ := h.2.2 hpos
  obtain ⟨N, hN⟩ := bounded (P := fun n j => ∀ p, xs[j]? = some p → ∃ c, c.length = 1 ∧ (slice e (upto F sz E n)).K w p c ∧ ∀ i u, c[i]? = some u → w.cell? (ad.add (j * 1 + i)) = some u)
   (fun n n' j hnm hp p hj => by
    obtain ⟨c, h1, h2, h3⟩ := hp p hj
    exact ⟨c, h1, slice_K_le hm hs hnm h2, h3⟩) xs.length
   (fun j hj => by
    obtain ⟨c, h1, h2, h3⟩ := hc j _ (List.getElem?_eq_getElem hj)
    obtain ⟨n, h2⟩ := slice_K_back hm h2
    refine ⟨n, fun p hp => ?_⟩
    rw [List.getElem?_eq_getElem hj] at hp
    injection hp with hp
    rw [← hp]
    exact ⟨c, h1, h2, h3⟩)
  refine ⟨N, h.1, h.2.1, fun _ => ⟨ad, e', fun j p hj => ?_⟩⟩
  exact hN j (List.getElem?_eq_some_iff.1 hj).1 p hj
end
end Kd
end Go.Proofs.YtmpglkeoppbpgaaW.PrintWords
