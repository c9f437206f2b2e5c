/- LinesGet: a field put ahead is the first of its name; others stay as they were. -/
import Derived.Test.YtomfdejamngkjaaDoorPureFew
import Derived.Test.YtomfdejamngkjaaDoorPrx3
set_option linter.unusedVariables false
set_option linter.unusedSimpArgs false
namespace Go.Proofs.YtomfdejamngkjaaDoor.Pure
open Go Go.RowKit Go.Proofs.YtomfdejamngkjaaDoor.Pr Go.Proofs.YtomfdejamngkjaaDoorW.PrintWords Go.Proofs.YtomfdejamngkjaaDoorW.PrintLast Plain Go.Proofs.YtomfdejamngkjaaDoor
theorem get_j0_true (l : List S29) (a2 b0 b1 : ByteArray) : Ev (fun k => muslinlaw06_LinesGet.j0 k l a2 true b0 b1) true := by
  refine .succ ?_
  simp only [muslinlaw06_LinesGet.j0]
  exact .ifp (by simp) (.bind live_ev (.pure _))
theorem get_j0 (l : List S29) (a2 b0 b1 : ByteArray) (hf : fewB l = true) (h0 : b0.size ≤ 500) (h2 : a2.size ≤ 5000) : Ev (fun k => muslinlaw06_LinesGet.j0 k l a2 false b0 b1) true := by
  refine .succ ?_
  simp only [muslinlaw06_LinesGet.j0]
  have hl := fewB_len hf
  have hx := @fewB_mem l hf
  have e1 : ([] ++ [(⟨b0, b1⟩ : S29)] : List S29) = [⟨b0, b1⟩] := rfl
  have hmem : ∀ x ∈ (⟨b0, b1⟩ : S29) :: l, x.f0.size ≤ 5000000 := by
    intro x hm
    rcases List.mem_cons.1 hm with rfl | hm
    · show b0.size ≤ _; omega
    · have := hx hm; omega
  have g1 : lines_Get.f ((⟨b0, b1⟩ : S29) :: l) b0 = some (b1, true) := by
    rw [get_ok _ _ (by simp; omega) (by omega) hmem, getL_hit _ _ _ (by unfold nameIs; simp)]
  have g2 : lines_Get.f l a2 = some (getL l a2) := get_ok _ _ (by omega) h2 (fun x hm => by have := hx hm; omega)
  have g3 : lines_Get.f ((⟨b0, b1⟩ : S29) :: l) a2 = some (getL ((⟨b0, b1⟩ : S29) :: l) a2) := get_ok _ _ (by simp; omega) h2 hmem
  have g4 : lines_Get.f [(⟨b0, b1⟩ : S29)] a2 = some (getL [(⟨b0, b1⟩ : S29)] a2) := get_ok _ _ (by simp) h2 (fun x hm => hmem x (by simp at hm; simp [hm]))
  refine .ifn (by simp) (.ifp (by simp) (.bindc rfl (.ifp (by simp; omega) (.bindc rfl ?_))))
  refine .bindc g1 (.bindc g2 (.bindc g3 (.ifp (by simp; omega) (.bindc g4 (.ifp rfl (.ifp rfl ?_))))))
  cases hn : nameIs a2 (⟨b0, b1⟩ : S29) with
  | true =>
    rw [getL_hit _ [] a2 hn]
    exact .ifp rfl (.bind live_ev (.pure _))
  | false =>
    rw [getL_miss _ [] a2 hn, getL_miss _ l a2 hn]
    exact .ifn (by simp [getL]) (.ifp rfl (.ifp (by simp) (.bind live_ev (.pure _))))
def LinesGet_Pure : Prop := ∀ (l : List S29) (b0 b1 a2 : ByteArray), a2.size ≤ 140737488351232 → ∃ k, muslinlaw06_LinesGet.f k l b0 b1 a2 = some true
theorem LinesGet : LinesGet_Pure := by
  intro l b0 b1 a2 _
  refine Ev.ex ?_
  unfold muslinlaw06_LinesGet.f muslinlaw06_short.f
  refine .bind (few_ev l) ?_
  cases hf : fewB l with
  | false => exact .ifn (by simp) (get_j0_true _ _ _ _)
  | true =>
    refine .ifp rfl ?_
    by_cases h0 : b0.size ≤ 500
    · refine .ifn (by omega) ?_
      by_cases h1 : b1.size ≤ 500
      · refine .ifn (by omega) (.bindc rfl ?_)
        by_cases h2 : a2.size ≤ 5000
        · rw [show decide ((a2.size : Int) ≤ 5000) = true from decide_eq_true (by omega)]
          exact get_j0 l a2 b0 b1 hf h0 h2
        · rw [show decide ((a2.size : Int) ≤ 5000) = false from decide_eq_false (by omega)]
          exact get_j0_true _ _ _ _
      · exact .ifp (by omega) (get_j0_true _ _ _ _)
    · exact .ifp (by omega) (get_j0_true _ _ _ _)
end Go.Proofs.YtomfdejamngkjaaDoor.Pure
