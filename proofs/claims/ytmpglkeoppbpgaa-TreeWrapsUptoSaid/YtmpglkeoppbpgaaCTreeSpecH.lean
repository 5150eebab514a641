/- A part of the row's proof. -/
import Derived.Test.YtmpglkeoppbpgaaCTreeSpecG
import Derived.Test.YtmpglkeoppbpgaaCPTreex14
import Derived.Test.YtmpglkeoppbpgaaCPTreex17
namespace Go.Proofs.Ytmpglkeoppbpgaa.PTree
open Go.RowKit Go.Proofs.YtmpglkeoppbpgaaW.PrintWords Go.Proofs.YtmpglkeoppbpgaaW.PrintLast Go.Proofs.YtmpglkeoppbpgaaW.PrintMore
set_option linter.unusedVariables false
set_option linter.unusedSimpArgs false
theorem flatMap_congr {α β : Type} {f g : α → List β} : ∀ {l : List α}, (∀ a ∈ l, f a = g a) → l.flatMap f = l.flatMap g
 | [], _ => rfl
 | x :: l, h => by rw [List.flatMap_cons, List.flatMap_cons, h x (by simp), flatMap_congr (fun a ha => h a (by simp [ha]))]
theorem walkL_Lv {α : Type} (step : Int → S38 → List α) (m : Nat) : ∀ (d e : Nat) (l : List S38), m ≤ d → m ≤ e → Lv m l → walkL step d l = walkL step e l := by
 induction m with
 | zero =>
  have h0 : ∀ (d : Nat) (l : List S38), Lv 0 l → walkL step d l = walkL step 0 l := by
   intro d l hl
   cases d with
   | zero => rfl
   | succ d =>
    simp only [walkL]
    refine flatMap_congr fun n hn => ?_
    have : n.f2 = [] := hl n hn
    rw [this]; simp
  intro d e l _ _ hl
  rw [h0 d l hl, h0 e l hl]
 | succ m ih =>
  intro d e l hd he hl
  obtain ⟨d, rfl⟩ : ∃ x, d = x + 1 := ⟨d - 1, by omega⟩
  obtain ⟨e, rfl⟩ : ∃ x, e = x + 1 := ⟨e - 1, by omega⟩
  simp only [walkL]
  refine flatMap_congr fun n hn => ?_
  have h2 : n.f2.flatMap (fun a => step 2 n ++ (walkL step d a ++ step 3 n)) = n.f2.flatMap (fun a => step 2 n ++ (walkL step e a ++ step 3 n)) := by
   refine flatMap_congr fun a ha => ?_
   rw [ih d e a (by omega) (by omega) (hl n hn a ha)]
  rw [h2]
theorem words_ev {l : List S38} (h : szL l ≤ 16777216) : Ev (fun k => tree_Words.f k l) (walkL wtok 100 l) := by
 have := walkL_le wtok (fun k n => by unfold wtok; split <;> simp) 100 l
 exact Ev.congr (f := fun _ => some (walkL wtok 100 l)) (fun k => by unfold tree_Words.f; rw [if_pos (by omega)]) (Ev.now _)
theorem texts_l0 (l : List ByteArray) (hl : l.length ≤ 4294967296) : ∀ (m p : Nat), l.length - p = m → p ≤ l.length → Ev (fun k => variorumref06_Texts.l0 k l l (p : Int)) true := by
 intro m
 induction m with
 | zero =>
  intro p hm hp
  refine Ev.step (f := fun _ => some true) (fun k => ?_) (Ev.now _)
  simp only [variorumref06_Texts.l0]
  rw [if_neg (by omega)]
 | succ m ih =>
  intro p hm hp
  refine Ev.step (fun k => ?_) (ih (p + 1) (by omega) (by omega))
  simp only [variorumref06_Texts.l0]
  rw [if_pos (by omega), if_pos (by omega), if_pos (by omega), if_true, w64 (by omega)]
theorem texts_refl (l : List ByteArray) (hl : l.length ≤ 4294967296) : Ev (fun k => variorumref06_Texts.f k l l) true := by
 refine Ev.congr (fun k => ?_) (texts_l0 l hl _ 0 rfl (by omega))
 unfold variorumref06_Texts.f
 rw [if_pos rfl]; rfl
theorem TreeWraps_pure (a b : List S38) (ha : szL a ≤ 4194304) (hb : szL b ≤ 4194304) : Ev (fun k => variorumlaw06_TreeWraps.f k a b) true := by
 obtain ⟨m1, hM1, hi1⟩ := tree_May_ev a (by omega)
 obtain ⟨m2, hM2, hi2⟩ := tree_May_ev b (by omega)
 have hst : Ev (fun k => variorumlaw06_TreeWraps.j0 k a b true) true :=
  Ev.step (f := fun k => (variorumlaw06_fixed.f k).bind fun t => some t) (fun k => by simp only [variorumlaw06_TreeWraps.j0]; rfl) (Ev.bind fixed_ev (Ev.now _))
 refine Ev.congr (f := fun k => (variorumlaw06_fixed.f k).bind fun t => (if t = true then ((tree_May.f k a).bind fun t1 => (if t1 = true then ((tree_May.f k b).bind fun t2 => (variorumlaw06_TreeWraps.j0 k a b (!t2))) else (variorumlaw06_TreeWraps.j0 k a b true))) else (variorumlaw06_TreeWraps.j0 k a b true))) (fun k => rfl) (Ev.bind fixed_ev ?_)
 refine Ev.congr (f := fun k => (tree_May.f k a).bind fun t1 => (if t1 = true then ((tree_May.f k b).bind fun t2 => (variorumlaw06_TreeWraps.j0 k a b (!t2))) else (variorumlaw06_TreeWraps.j0 k a b true))) (fun k => by rw [if_pos rfl]) (Ev.bind hM1 ?_)
 cases m1 with
 | false => exact Ev.congr (fun k => by rw [if_neg (by simp)]) hst
 | true =>
 refine Ev.congr (f := fun k => (tree_May.f k b).bind fun t2 => (variorumlaw06_TreeWraps.j0 k a b (!t2))) (fun k => by rw [if_pos rfl]) (Ev.bind hM2 ?_)
 cases m2 with
 | false => exact Ev.congr (fun k => by rfl) hst
 | true =>
 obtain ⟨va, oa⟩ := hi1.1 rfl
 obtain ⟨vb, ob⟩ := hi2.1 rfl
 have la := szL_len a
 have lb := szL_len b
 let n : S38 := ⟨true, ⟨#[112]⟩, [a, b], 0⟩
 have zn : szL [n] ≤ 16777216 := by simp only [szL, szN_eq, szA, n]; omega
 have zab : szL (a ++ b) ≤ 16777216 := by rw [szL_append]; omega
 have hWw : walkL wtok 100 [n] = walkL wtok 100 a ++ walkL wtok 100 b := by
  rw [show (100 : Nat) = 99 + 1 from rfl, walkL_comm]
  rw [walkL_Lv wtok 64 (99 + 1) 99 a (by omega) (by omega) va, walkL_Lv wtok 64 (99 + 1) 99 b (by omega) (by omega) vb]
  simp [partL, wtok]
 have hWb : walkL wtok 100 (a ++ b) = walkL wtok 100 a ++ walkL wtok 100 b := walkL_append _ _ _ _
 have hDw : dp 101 [n] = max (dp 101 a) (dp 101 b) + 1 := by
  rw [dp_cons, dp_nil, show (101 : Nat) = 100 + 1 from rfl]
  show max (dpA (100 + 1) [a, b]) 0 = _
  rw [dpA_cons, dpA_cons, dpA_nil, dp_same 64 100 (100 + 1) a (by omega) (by omega) va, dp_same 64 100 (100 + 1) b (by omega) (by omega) vb]
  omega
 have hDb : dp 101 (a ++ b) = max (dp 101 a) (dp 101 b) := dp_append _ _ _
 obtain ⟨m3, hM3, hi3⟩ := tree_May_ev [n] (by omega)
 have hm3 : m3 = decide ((((max (dp 101 a) (dp 101 b) : Nat)) : Int) < 64) := by
  have hok : okL [n] := by
   rw [okL_iff]
   intro x hx
   rw [List.mem_singleton] at hx
   subst hx
   refine ⟨fun h => by simp [n] at h, fun y hy => ?_⟩
   simp only [n, List.mem_cons, List.not_mem_nil, or_false] at hy
   rcases hy with hy | hy <;> subst hy <;> assumption
  have hiff : Lv 64 [n] ↔ max (dp 101 a) (dp 101 b) < 64 := by
   constructor
   ·intro h
    have := dp_of_Lv 64 101 [n] h
    omega
   ·intro h
    exact Lv_of_dp 64 101 [n] (by omega) (by omega)
  cases m3 with
  | true => have := hiff.1 (hi3.1 rfl).1; simp; omega
  | false =>
   have : ¬ max (dp 101 a) (dp 101 b) < 64 := fun h => by
    have := hi3.2 ⟨hiff.2 h, hok⟩
    cases this
   simp; omega
 have hda := dp_le 101 a
 have hdb := dp_le 101 b
 have hwa := walkL_le wtok (fun k n => by unfold wtok; split <;> simp) 100 a
 have hwb := walkL_le wtok (fun k n => by unfold wtok; split <;> simp) 100 b
 have hT := texts_refl (walkL wtok 100 a ++ walkL wtok 100 b) (by rw [List.length_append]; omega)
 refine Ev.step (f := fun k => (tree_Words.f k a).bind fun t394 => (if t394.length < 8796093022208 then ((tree_Words.f k b).bind fun t400 => (if t394.length + t400.length < 8796093022208 then ((tree_Depth.f k a).bind fun t412 => ((tree_Depth.f k b).bind fun t413 => ((tree_Words.f k (a ++ b)).bind fun t414 => ((variorumref06_Texts.f k t414 (t394 ++ t400)).bind fun t417 => (if t417 = true then ((tree_Words.f k [n]).bind fun t418 => ((variorumref06_Texts.f k t418 (t394 ++ t400)).bind fun t421 => (if t421 = true then ((tree_Depth.f k [n]).bind fun t422 => (if t422 = (wrap64 ((mx t412 t413) + 1)) then ((tree_Depth.f k (a ++ b)).bind fun t423 => (if t423 = (mx t412 t413) then ((tree_May.f k [n]).bind fun t424 => (some (t424 == (decide ((mx t412 t413) < 64))))) else (some false))) else (some false))) else (some false)))) else (some false)))))) else none)) else none)) (fun k => ?_) ?_
 ·simp only [variorumlaw06_TreeWraps.j0, Option.bind_some, List.nil_append, List.length_nil, Nat.zero_add]
  rw [if_neg (by simp), if_pos (by omega), if_pos (by omega)]
 refine Ev.bind (words_ev (by omega)) ?_
 refine Ev.congr (f := fun k => (tree_Words.f k b).bind fun t400 => _) (fun k => by rw [if_pos (by omega)]) (Ev.bind (words_ev (by omega)) ?_)
 refine Ev.congr (f := fun k => (tree_Depth.f k a).bind fun t412 => _) (fun k => by rw [if_pos (by omega)]) (Ev.bind (tree_Depth_ev a (by omega)) ?_)
 refine Ev.bind (tree_Depth_ev b (by omega)) ?_
 refine Ev.bind (words_ev zab) ?_
 rw [hWb]
 refine Ev.bind hT ?_
 refine Ev.congr (f := fun k => (tree_Words.f k [n]).bind fun t418 => _) (fun k => by rw [if_pos rfl]) (Ev.bind (words_ev zn) ?_)
 rw [hWw]
 refine Ev.bind hT ?_
 refine Ev.congr (f := fun k => (tree_Depth.f k [n]).bind fun t422 => _) (fun k => by rw [if_pos rfl]) (Ev.bind (tree_Depth_ev [n] (by omega)) ?_)
 rw [hDw, mxN, w64 (by omega)]
 refine Ev.congr (f := fun k => (tree_Depth.f k (a ++ b)).bind fun t423 => _) (fun k => by rw [if_pos rfl]) (Ev.bind (tree_Depth_ev (a ++ b) (by omega)) ?_)
 rw [hDb]
 refine Ev.congr (f := fun k => (tree_May.f k [n]).bind fun t424 => _) (fun k => by rw [if_pos rfl]) (Ev.bind hM3 ?_)
 exact Ev.congr (f := fun _ => some true) (fun k => by rw [hm3]; simp) (Ev.now _)
end Go.Proofs.Ytmpglkeoppbpgaa.PTree
