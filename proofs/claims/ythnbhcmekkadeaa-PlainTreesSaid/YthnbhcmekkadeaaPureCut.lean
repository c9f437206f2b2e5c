/- The lines of a text. -/
import Derived.Test.YthnbhcmekkadeaaPureBase
import Derived.Test.YthnbhcmekkadeaaGiven
set_option linter.unusedVariables false
set_option linter.unusedSimpArgs false
namespace Go.Proofs.Ythnbhcmekkadeaa.Pure
open Go Go.RowKit Go.Proofs.Ythnbhcmekkadeaa.Pr Go.Proofs.YthnbhcmekkadeaaW.PrintWords Go.Proofs.YthnbhcmekkadeaaW.PrintLast Plain

def chop (a : List UInt8) : List UInt8 := Lib.trimSuffix a [13]
theorem chop_snoc (a : List UInt8) (c : UInt8) : chop (a ++ [c]) = if c = 13 then a else a ++ [c] := by
  have e : Lib.hasSuffix (a ++ [c]) [13] = decide (c = 13) := by
    unfold Lib.hasSuffix
    rw [Bool.eq_iff_iff, List.isSuffixOf_iff_suffix, decide_eq_true_eq]
    constructor
    · rintro ⟨t, ht⟩
      have := List.append_inj' ht (by simp)
      simpa using this.2.symm
    · rintro rfl; exact ⟨a, rfl⟩
  unfold chop Lib.trimSuffix
  rw [e]
  by_cases h : c = 13
  · rw [decide_eq_true h, if_pos rfl, if_pos h]; simp
  · rw [decide_eq_false h, if_neg h]; rfl
theorem chop_nil : chop [] = [] := by unfold chop Lib.trimSuffix; split <;> rfl
theorem chop_eq (a : List UInt8) : chop a = if a ≠ [] ∧ a.getD (a.length - 1) 0 = 13 then a.take (a.length - 1) else a := by
  rcases List.eq_nil_or_concat a with rfl | ⟨b, c, rfl⟩
  · rw [chop_nil]; simp
  · rw [List.concat_eq_append, chop_snoc]
    have h1 : (b ++ [c]).getD ((b ++ [c]).length - 1) 0 = c := by simp
    have h2 : (b ++ [c]).take ((b ++ [c]).length - 1) = b := by simp
    rw [h1, h2]
    simp
theorem lineOf_brk (l : List UInt8) : lineOf l = (if (brk1 10 l).2.2 then chop (brk1 10 l).1 else (brk1 10 l).1, (brk1 10 l).2.1, (brk1 10 l).2.2) := by
  unfold lineOf chop
  rw [brk1_cut]
theorem cutL_nil : cutL [] = [] := by unfold cutL; rw [linesL_nil]; rfl
theorem cutL_cons {l : List UInt8} (h : l ≠ []) : cutL l = (if (brk1 10 l).2.2 then chop (brk1 10 l).1 else (brk1 10 l).1) :: cutL (brk1 10 l).2.1 := by
  unfold cutL
  rw [linesL_cons h, List.map_cons, lineOf_brk]
theorem cutL_len (l : List UInt8) : (cutL l).length ≤ l.length := by unfold cutL; rw [List.length_map]; exact linesL_len _ l (Nat.le_refl _)
theorem linesCut (l : List UInt8) (h : l.length ≤ 8796093022207) : lines_Cut.f (B l) = some (Pr.bytesOf (cutL l)) := by
  unfold lines_Cut.f
  rw [if_pos (by simpa using h), B_data]

theorem brk_get (l : List UInt8) (c : UInt8) (j : Nat) (h : j < (brk1 c l).1.length) : l.getD j 0 ≠ c := by
  have hs := brk1_spec c l
  have e : l.getD j 0 = (brk1 c l).1.getD j 0 := by
    cases hf : (brk1 c l).2.2 with
    | true =>
      conv => lhs; rw [hs.2.1 hf]
      rw [List.getD_eq_getElem?_getD, List.getElem?_append_left h, List.getD_eq_getElem?_getD]
    | false => conv => lhs; rw [(hs.2.2 hf).1]
  rw [e, List.getD_eq_getElem?_getD, List.getElem?_eq_getElem h]
  intro h2
  have hm := List.getElem_mem h
  rw [show (brk1 c l).1[j] = c from h2] at hm
  exact hs.1 hm
theorem brk_at (l : List UInt8) (c : UInt8) (h : (brk1 c l).2.2 = true) : (brk1 c l).1.length < l.length ∧ l.getD (brk1 c l).1.length 0 = c ∧ l.take (brk1 c l).1.length = (brk1 c l).1 ∧ l.drop ((brk1 c l).1.length + 1) = (brk1 c l).2.1 := by
  have hs := (brk1_spec c l).2.1 h
  generalize hq : brk1 c l = q at *
  rw [hs]
  refine ⟨by simp, by simp, by simp, ?_⟩
  rw [← List.drop_drop]; simp
theorem brk_none (l : List UInt8) (c : UInt8) (h : (brk1 c l).2.2 = false) : (brk1 c l).1 = l ∧ (brk1 c l).2.1 = [] := ⟨((brk1_spec c l).2.2 h).1.symm, ((brk1_spec c l).2.2 h).2⟩

theorem getD_drop (l : List UInt8) (i j : Nat) : (l.drop i).getD j 0 = l.getD (i + j) 0 := by simp [List.getD_eq_getElem?_getD]
theorem bytesOf_append (a b : List (List UInt8)) : Pr.bytesOf (a ++ b) = Pr.bytesOf a ++ Pr.bytesOf b := by simp [Pr.bytesOf]
theorem bytesOf_cons (a : List UInt8) (b : List (List UInt8)) : Pr.bytesOf (a :: b) = B a :: Pr.bytesOf b := rfl
theorem bytesOf_len (a : List (List UInt8)) : (Pr.bytesOf a).length = a.length := by simp [Pr.bytesOf]
theorem chop_id (a : List UInt8) (h : 13 ∉ a) : chop a = a := by
  rcases List.eq_nil_or_concat a with rfl | ⟨b, c, rfl⟩
  · exact chop_nil
  · rw [List.concat_eq_append] at h ⊢
    rw [chop_snoc, if_neg]
    rintro rfl
    exact h (by simp)
end Go.Proofs.Ythnbhcmekkadeaa.Pure
