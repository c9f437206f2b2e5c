/- CssOnce: each name stands once in what is clean, and each declaration of it is safe, and one of the style's. -/
import Derived.Test.YtollfaphadcnnaaDoorPureMath
import Derived.Test.YtollfaphadcnnaaDoorPureLive
import Derived.Test.YtollfaphadcnnaaDoorPrx9
set_option linter.unusedVariables false
set_option linter.unusedSimpArgs false
set_option linter.unusedSectionVars false
namespace Go.Proofs.YtollfaphadcnnaaDoor.Pure
open Go Go.RowKit Go.Proofs.YtollfaphadcnnaaDoor.Pr Go.Proofs.YtollfaphadcnnaaDoorW.PrintWords Go.Proofs.YtollfaphadcnnaaDoorW.PrintLast Plain Go.Proofs.YtollfaphadcnnaaDoor
theorem rd29 (l : List S29) (i : Nat) (h : i < l.length) : rd_T29 l (i : Int) = l[i] := by
  unfold rd_T29
  rw [Int.toNat_natCast, List.getD_eq_getElem?_getD, List.getElem?_eq_getElem h]
  rfl
theorem uniq_ne : ∀ (E : List S29), Uniq E → ∀ (j i : Nat) (hi : i < E.length) (hj : j < i), ¬ (E[j]'(by omega)).f0.toList = E[i].f0.toList
  | [], _, j, i, hi, _ => by simp at hi
  | x :: r, h, 0, i + 1, hi, _ => by
    intro e
    have h1 := h.1
    rw [Bool.eq_false_iff] at h1
    apply h1
    rw [List.any_eq_true]
    refine ⟨r[i]'(by simpa using hi), List.getElem_mem _, ?_⟩
    have e2 : x.f0.toList = (r[i]'(by simpa using hi)).f0.toList := e
    rw [← e2]; simp
  | x :: r, h, j + 1, i + 1, hi, hj => uniq_ne r h.2 j i (by simpa using hi) (by omega)
section
variable (E A : List S29) (hE : E.length ≤ 100000) (hA : A.length ≤ 100000) (hu : Uniq E) (hent : ∀ x ∈ E, Ent x) (hsub : ∀ x ∈ E, x ∈ A) (hle : E.length ≤ A.length)
include hE hA hu hent hsub hle
theorem once_l2 (i : Nat) (hi : i < E.length) (hnext : Ev (fun k => muslinlaw17_CssOnce.l0 k E A ((i + 1 : Nat) : Int)) true) : ∀ (d j : Nat) (q : Bool), j + d = A.length → (q = true ∨ E[i] ∈ A.drop j) →
    Ev (fun k => muslinlaw17_CssOnce.l2 k E A (i : Int) q (j : Int)) true := by
  intro d
  induction d with
  | zero =>
    intro j q hj hq
    refine .succ ?_
    simp only [muslinlaw17_CssOnce.l2]
    have hq' : q = true := hq.resolve_right (by rw [List.drop_of_length_le (by omega)]; simp)
    refine .ifn (by omega) (.ifp hq' ?_)
    rw [w64 (by omega) (by omega)]
    exact hnext
  | succ d ih =>
    intro j q hj hq
    have h1 : j < A.length := by omega
    refine .succ ?_
    simp only [muslinlaw17_CssOnce.l2]
    rw [w64 (by omega) (by omega)]
    refine .ifp (by omega) (ev_ite (fun _ => ih (j + 1) true (by omega) (.inl rfl)) (fun hqf => ?_))
    have hm := hq.resolve_left hqf
    rw [List.drop_eq_getElem_cons h1] at hm
    refine .ifp (by omega) (.ifp (by omega) (.ifp (by omega) ?_))
    rw [rd29 A j h1, rd29 E i hi]
    refine ih (j + 1) _ (by omega) ?_
    rcases List.mem_cons.1 hm with hm | hm
    · left; rw [← hm]; simp
    · exact .inr hm
theorem once_l1 (i : Nat) (hi : i < E.length) (hnext : Ev (fun k => muslinlaw17_CssOnce.l0 k E A ((i + 1 : Nat) : Int)) true) : ∀ (d j : Nat), j + d = i → Ev (fun k => muslinlaw17_CssOnce.l1 k E A (i : Int) (j : Int)) true := by
  intro d
  induction d with
  | zero =>
    intro j hj
    refine .succ ?_
    simp only [muslinlaw17_CssOnce.l1]
    refine .ifn (by omega) ?_
    exact once_l2 E A hE hA hu hent hsub hle i hi hnext _ 0 false (Nat.zero_add _) (.inr (by rw [List.drop_zero]; exact hsub _ (List.getElem_mem hi)))
  | succ d ih =>
    intro j hj
    refine .succ ?_
    simp only [muslinlaw17_CssOnce.l1]
    refine .ifp (by omega) (.ifp (by omega) (.ifp (by omega) (.ifp (by omega) (.ifp (by omega) ?_))))
    rw [rd29 E j (by omega), rd29 E i hi, w64 (by omega) (by omega)]
    exact .ifn (uniq_ne E hu j i hi (by omega)) (ih (j + 1) (by omega))
theorem once_l0 : ∀ (d i : Nat), i + d = E.length → Ev (fun k => muslinlaw17_CssOnce.l0 k E A (i : Int)) true := by
  intro d
  induction d with
  | zero =>
    intro i hi
    refine .succ ?_
    simp only [muslinlaw17_CssOnce.l0]
    exact .ifn (by omega) (.ifp (by omega) (.bind live_ev (.pure _)))
  | succ d ih =>
    intro i hi
    have h1 : i < E.length := by omega
    refine .succ ?_
    simp only [muslinlaw17_CssOnce.l0]
    refine .ifp (by omega) (.ifp (by omega) (.bindc (safeEq _ _) ?_))
    rw [rd29 E i h1]
    refine .ifp (hent _ (List.getElem_mem h1)).safe ?_
    exact once_l1 E A hE hA hu hent hsub hle i h1 (ih (i + 1) (by omega)) i 0 (Nat.zero_add _)
end
theorem CssOnce : muslinlaw17_CssOnce.Pure := by
  intro a0 _
  refine Ev.ex ?_
  unfold muslinlaw17_CssOnce.f muslinlaw17_short.f
  rw [B_of a0]
  generalize a0.data.toList = l
  refine .bindc rfl ?_
  by_cases h : l.length ≤ 3000
  · refine .ifp (by rw [B_size]; exact decide_eq_true (by omega)) (.bindc (cleanEq l (by omega)) ?_)
    have hlen := clean_len l
    have hc1 := cut_ev (joinE (entsOf l)) (by omega)
    rw [cutV_join _ (ents_ent l)] at hc1
    rw [clean_ents]
    have h5 := cutV_len l
    have h4 := (ents_sub l).length_le
    refine .bind hc1 (.bind (cut_ev l (by omega)) ?_)
    exact once_l0 (entsOf l) (cutV l) (by omega) (by omega) (ents_uniq l) (ents_ent l) (fun x hx => (ents_sub l).subset hx) h4 _ 0 (Nat.zero_add _)
  · exact .ifn (by rw [B_size]; simp; omega) (.bind live_ev (.pure _))
end Go.Proofs.YtollfaphadcnnaaDoor.Pure
