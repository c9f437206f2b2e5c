/- A text's lines, over lists of bytes, with no program in sight. -/
import Derived.Lib.CutLaws
import Derived.Lib.IndexBytes
import Derived.Lib.Strings
set_option linter.unusedVariables false
namespace Go.Proofs.YtomfdejamngkjaaDoor.Plain
open Go

/-- A line: its text, what is behind it, and whether it has a line feed. -/
abbrev Ln := List UInt8 × List UInt8 × Bool
def lineOf (l : List UInt8) : Ln := (if (Lib.cut l [10]).2.2 then Lib.trimSuffix (Lib.cut l [10]).1 [13] else (Lib.cut l [10]).1, (Lib.cut l [10]).2.1, (Lib.cut l [10]).2.2)
theorem cut_len (l : List UInt8) (c : UInt8) : (Lib.cut l [c]).1.length ≤ l.length ∧ (Lib.cut l [c]).2.1.length ≤ l.length ∧ (l ≠ [] → (Lib.cut l [c]).2.1.length < l.length) := by
  have hne : l ≠ [] → 0 < l.length := fun h => List.length_pos_iff.2 h
  unfold Lib.cut
  split
  · simp only [List.length_take, List.length_drop, List.length_singleton]
    exact ⟨by omega, by omega, fun h => by have := hne h; omega⟩
  · simp only [List.length_nil]
    exact ⟨by omega, by omega, hne⟩
theorem trim_len (l p : List UInt8) : (Lib.trimSuffix l p).length ≤ l.length := by
  unfold Lib.trimSuffix
  split
  · simp only [List.length_take]; omega
  · exact Nat.le_refl _
theorem lineOf_len (l : List UInt8) : (lineOf l).1.length ≤ l.length ∧ (lineOf l).2.1.length ≤ l.length ∧ (l ≠ [] → (lineOf l).2.1.length < l.length) := by
  have h := cut_len l 10
  refine ⟨?_, h.2⟩
  unfold lineOf
  simp only
  split
  · exact Nat.le_trans (trim_len _ _) h.1
  · exact h.1
def linesL (l : List UInt8) : List Ln := if h : l = [] then [] else lineOf l :: linesL (lineOf l).2.1
termination_by l.length
decreasing_by exact (lineOf_len l).2.2 h
theorem linesL_nil : linesL [] = [] := by rw [linesL]; rfl
theorem linesL_cons {l : List UInt8} (h : l ≠ []) : linesL l = lineOf l :: linesL (lineOf l).2.1 := by rw [linesL, dif_neg h]
theorem linesL_len : ∀ (n : Nat) (l : List UInt8), l.length ≤ n → (linesL l).length ≤ l.length := by
  intro n
  induction n with
  | zero =>
    intro l h
    obtain rfl : l = [] := List.eq_nil_of_length_eq_zero (by omega)
    rw [linesL_nil]; exact Nat.le_refl _
  | succ n ih =>
    intro l h
    by_cases h0 : l = []
    · subst h0; rw [linesL_nil]; exact Nat.le_refl _
    · have h1 := (lineOf_len l).2.2 h0
      have := ih (lineOf l).2.1 (by omega)
      rw [linesL_cons h0, List.length_cons]
      omega
def cutL (l : List UInt8) : List (List UInt8) := (linesL l).map (·.1)
end Go.Proofs.YtomfdejamngkjaaDoor.Plain
