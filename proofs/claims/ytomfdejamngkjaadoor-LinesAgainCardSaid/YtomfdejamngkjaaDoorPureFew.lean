/- At most 60 fields of 500 bytes. -/
import Derived.Test.YtomfdejamngkjaaDoorPureTexts
set_option linter.unusedVariables false
set_option linter.unusedSimpArgs false
set_option linter.unusedSectionVars false
namespace Go.Proofs.YtomfdejamngkjaaDoor.Pure
open Go Go.RowKit Go.Proofs.YtomfdejamngkjaaDoor.Pr Go.Proofs.YtomfdejamngkjaaDoorW.PrintWords Go.Proofs.YtomfdejamngkjaaDoorW.PrintLast Plain Go.Proofs.YtomfdejamngkjaaDoor
theorem rd29 (l : List S29) (i : Nat) (h : i < l.length) : rd_T29 l (i : Int) = l[i] := by
  unfold rd_T29
  rw [Int.toNat_natCast, List.getD_eq_getElem?_getD, List.getElem?_eq_getElem h]
  rfl
def okSz (x : S29) : Bool := decide (x.f0.size ≤ 500 ∧ x.f1.size ≤ 500)
theorem few_l0 (l : List S29) (hl : l.length ≤ 60) : ∀ (d i : Nat), i + d = l.length → Ev (fun k => muslinlaw06_few.l0 k l (i : Int)) ((l.drop i).all okSz) := by
  intro d
  induction d with
  | zero =>
    intro i hi
    refine .succ ?_
    simp only [muslinlaw06_few.l0]
    refine .ifn (by omega) (.of ?_)
    rw [List.drop_of_length_le (by omega)]
    rfl
  | succ d ih =>
    intro i hi
    refine .succ ?_
    simp only [muslinlaw06_few.l0]
    have h1 : i < l.length := by omega
    refine .ifp (by omega) (.ifp (by omega) ?_)
    rw [rd29 l i h1]
    have e : (l.drop i).all okSz = (okSz l[i] && (l.drop (i + 1)).all okSz) := by rw [List.drop_eq_getElem_cons h1]; rfl
    rw [e]
    by_cases h0 : l[i].f0.size ≤ 500
    · by_cases h2 : l[i].f1.size ≤ 500
      · refine .ifn (by omega) (.ifn (by omega) ?_)
        rw [w64 (by omega) (by omega), show okSz l[i] = true from decide_eq_true ⟨h0, h2⟩, Bool.true_and]
        exact ih (i + 1) (by omega)
      · refine .ifn (by omega) (.ifp (by omega) (.of ?_))
        rw [show okSz l[i] = false from decide_eq_false (fun h => h2 h.2)]; rfl
    · refine .ifp (by omega) (.of ?_)
      rw [show okSz l[i] = false from decide_eq_false (fun h => h0 h.1)]; rfl
def fewB (l : List S29) : Bool := decide (l.length ≤ 60) && l.all okSz
theorem few_ev (l : List S29) : Ev (fun k => muslinlaw06_few.f k l) (fewB l) := by
  unfold muslinlaw06_few.f fewB
  by_cases h : l.length ≤ 60
  · refine .ifn (by omega) ?_
    have := few_l0 l h l.length 0 (by omega)
    rw [decide_eq_true h, Bool.true_and]
    exact this
  · refine .ifp (by omega) (.of ?_)
    rw [decide_eq_false h]; rfl
theorem fewB_len {l : List S29} (h : fewB l = true) : l.length ≤ 60 := by
  unfold fewB at h
  rw [Bool.and_eq_true, decide_eq_true_eq] at h
  exact h.1
theorem fewB_mem {l : List S29} (h : fewB l = true) {x : S29} (hx : x ∈ l) : x.f0.size ≤ 500 ∧ x.f1.size ≤ 500 := by
  unfold fewB at h
  rw [Bool.and_eq_true, List.all_eq_true] at h
  exact of_decide_eq_true (h.2 x hx)
end Go.Proofs.YtomfdejamngkjaaDoor.Pure
