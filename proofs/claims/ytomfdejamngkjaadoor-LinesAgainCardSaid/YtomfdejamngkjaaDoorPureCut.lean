/- The lines of a text. -/
import Derived.Test.YtomfdejamngkjaaDoorPureBase
import Derived.Test.YtomfdejamngkjaaDoorGiven
set_option linter.unusedVariables false
set_option linter.unusedSimpArgs false
namespace Go.Proofs.YtomfdejamngkjaaDoor.Pure
open Go Go.RowKit Go.Proofs.YtomfdejamngkjaaDoor.Pr Go.Proofs.YtomfdejamngkjaaDoorW.PrintWords Go.Proofs.YtomfdejamngkjaaDoorW.PrintLast Plain

def chop (a : List UInt8) : List UInt8 := Lib.trimSuffix a [13]
theorem chop_snoc (a : List UInt8) (c : UInt8) : chop (a ++ [c]) = if c = 13 then a else a ++ [c] := by
  have e : Lib.hasSuffix (a ++ [c]) [13] = decide (c = 13) := by
    unfold Lib.hasSuffix
    rw [Bool.eq_iff_iff, List.isSuffixOf_iff_suffix, decide_eq_true_eq]
    constructor
    · rintro ⟨t, ht⟩
      have := List.append_inj' ht (by simp)
      simpa using this.2.symm
    · rintro rfl; exact ⟨a, rfl⟩
  unfold chop Lib.trimSuffix
  rw [e]
  by_cases h : c = 13
  · rw [decide_eq_true h, if_pos rfl, if_pos h]; simp
  · rw [decide_eq_false h, if_neg h]; rfl
theorem chop_nil : chop [] = [] := by unfold chop Lib.trimSuffix; split <;> rfl
theorem lineOf_brk (l : List UInt8) : lineOf l = (if (brk1 10 l).2.2 then chop (brk1 10 l).1 else (brk1 10 l).1, (brk1 10 l).2.1, (brk1 10 l).2.2) := by
  unfold lineOf chop
  rw [brk1_cut]


theorem bytesOf_len (a : List (List UInt8)) : (Pr.bytesOf a).length = a.length := by simp [Pr.bytesOf]
end Go.Proofs.YtomfdejamngkjaaDoor.Pure
