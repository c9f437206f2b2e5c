/- LinesCut: a text's lines, put together again, are cut to the same. -/
import Derived.Test.YtomfdejamngkjaaDoorPureTexts
set_option linter.unusedVariables false
set_option linter.unusedSimpArgs false
set_option linter.unusedSectionVars false
namespace Go.Proofs.YtomfdejamngkjaaDoor.Pure
open Go Go.RowKit Go.Proofs.YtomfdejamngkjaaDoor.Pr Go.Proofs.YtomfdejamngkjaaDoorW.PrintWords Go.Proofs.YtomfdejamngkjaaDoorW.PrintLast Plain Go.Proofs.YtomfdejamngkjaaDoor
theorem chop_mem {a : List UInt8} {c : UInt8} (h : c ∈ chop a) : c ∈ a := by
  rw [chop_eq] at h
  split at h
  · exact List.mem_of_mem_take h
  · exact h
theorem chop_le (a : List UInt8) : (chop a).length ≤ a.length := by
  rw [chop_eq]
  split
  · rw [List.length_take]; omega
  · exact Nat.le_refl _
theorem cutL_no10 : ∀ (n : Nat) (l : List UInt8), l.length ≤ n → ∀ t ∈ cutL l, (10 : UInt8) ∉ t := by
  intro n
  induction n with
  | zero =>
    intro l h t ht
    obtain rfl : l = [] := List.eq_nil_of_length_eq_zero (by omega)
    rw [cutL_nil] at ht; cases ht
  | succ n ih =>
    intro l h t ht
    by_cases h0 : l = []
    · subst h0; rw [cutL_nil] at ht; cases ht
    · rw [cutL_cons h0] at ht
      rcases List.mem_cons.1 ht with rfl | ht
      · intro hm
        have hn := (brk1_spec 10 l).1
        split at hm
        · exact hn (chop_mem hm)
        · exact hn hm
      · have hl := (lineOf_len l).2.2 h0
        rw [lineOf_brk] at hl
        exact ih _ (by simp only at hl; omega) t ht
theorem cutL_sum (l : List UInt8) : (cutL l).flatten.length ≤ l.length := linesL_sum _ l (Nat.le_refl _)
/-- The lines, each with its end. -/
def endC (ls : List (List UInt8)) : List UInt8 := (ls.map fun t => t ++ [13, 10]).flatten
theorem brk1_app (c : UInt8) : ∀ (a r : List UInt8), c ∉ a → brk1 c (a ++ c :: r) = (a, r, true)
  | [], r, _ => by simp [brk1]
  | x :: a, r, h => by
    have h1 : ¬ x = c := fun e => h (by simp [e])
    have h2 : c ∉ a := fun e => h (by simp [e])
    rw [List.cons_append, brk1, if_neg h1, brk1_app c a r h2]
theorem cut_endC : ∀ (ls : List (List UInt8)), (∀ t ∈ ls, (10 : UInt8) ∉ t) → cutL (endC ls) = ls
  | [], _ => cutL_nil
  | t :: ls, h => by
    have e : endC (t :: ls) = (t ++ [13]) ++ 10 :: endC ls := by simp [endC]
    have hne : (t ++ [13]) ++ 10 :: endC ls ≠ [] := by simp
    have hno : (10 : UInt8) ∉ t ++ [13] := by
      have := h t (by simp)
      simp [this]
    rw [e, cutL_cons hne, brk1_app 10 _ _ hno]
    simp only [if_true]
    rw [chop_snoc, if_pos rfl, cut_endC ls (fun u hu => h u (by simp [hu]))]
theorem endC_len (ls : List (List UInt8)) : (endC ls).length = ls.flatten.length + 2 * ls.length := by
  induction ls with
  | nil => rfl
  | cons t ls ih =>
    have e : endC (t :: ls) = (t ++ [13, 10]) ++ endC ls := by simp [endC]
    rw [e]
    simp only [List.length_append, List.length_cons, List.length_nil, List.flatten_cons, ih]
    omega
theorem endC_append (a b : List (List UInt8)) : endC (a ++ b) = endC a ++ endC b := by simp [endC]
section
variable (ls : List (List UInt8)) (hn : ∀ t ∈ ls, (10 : UInt8) ∉ t) (hl : ls.length ≤ 5000) (hs : ls.flatten.length ≤ 5000)
include hn hl hs
theorem take_sum (i : Nat) : (endC (ls.take i)).length ≤ 15000 := by
  rw [endC_len]
  have h1 : (ls.take i).length ≤ ls.length := by rw [List.length_take]; omega
  have h2 : (ls.take i).flatten.length + (ls.drop i).flatten.length = ls.flatten.length := by
    rw [← List.length_append, ← List.flatten_append, List.take_append_drop]
  omega
theorem get_sum (i : Nat) (hi : i < ls.length) : ls[i].length ≤ 5000 := by
  have h2 : (ls.take i).flatten.length + (ls.drop i).flatten.length = ls.flatten.length := by
    rw [← List.length_append, ← List.flatten_append, List.take_append_drop]
  rw [List.drop_eq_getElem_cons hi, List.flatten_cons, List.length_append] at h2
  omega
theorem cut_end (x : ByteArray) (hx : x = B (endC ls)) : Ev (fun k => muslinlaw06_LinesCut.l0 k (Pr.bytesOf ls) x (ls.length : Int)) true := by
  refine .succ ?_
  simp only [muslinlaw06_LinesCut.l0]
  refine .ifn (by rw [bytesOf_len]; omega) ?_
  have hcut : lines_Cut.f x = some (Pr.bytesOf ls) := by
    rw [hx, linesCut _ (by rw [endC_len]; omega), cut_endC ls hn]
  refine .bindc hcut (.bind (a := true) ?_ (.ifp rfl (.bind live_ev (.pure _))))
  have := texts_ev ls ls (by omega)
  simpa using this
theorem cut_step (i : Nat) (hi : i < ls.length) (hnext : Ev (fun k => muslinlaw06_LinesCut.l0 k (Pr.bytesOf ls) (B (endC (ls.take (i + 1)))) ((i + 1 : Nat) : Int)) true) :
    ∀ (d j : Nat), j + d = ls[i].length → Ev (fun k => muslinlaw06_LinesCut.l1 k (Pr.bytesOf ls) (B (endC (ls.take i))) (i : Int) (j : Int)) true := by
  have hg := get_sum ls hn hl hs i hi
  have ht := take_sum ls hn hl hs i
  intro d
  induction d with
  | zero =>
    intro j hj
    refine .succ ?_
    simp only [muslinlaw06_LinesCut.l1]
    refine .ifp (by omega) (.ifp (by rw [bytesOf_len]; omega) ?_)
    rw [rd_bytes ls i hi]
    refine .ifn (by rw [B_size]; omega) (.ifp (by rw [B_size, B_size]; omega) (.ifp (by rw [B_append, B_size, List.length_append]; omega) ?_))
    have e : B (endC (ls.take i)) ++ B ls[i] ++ (⟨#[13, 10]⟩ : ByteArray) = B (endC (ls.take (i + 1))) := by
      rw [show (⟨#[13, 10]⟩ : ByteArray) = B [13, 10] from rfl, B_append, B_append, List.take_add_one, List.getElem?_eq_getElem hi, endC_append]
      simp [endC]
    rw [e, w64 (by omega) (by omega)]
    exact hnext
  | succ d ih =>
    intro j hj
    refine .succ ?_
    simp only [muslinlaw06_LinesCut.l1]
    refine .ifp (by omega) (.ifp (by rw [bytesOf_len]; omega) ?_)
    rw [rd_bytes ls i hi]
    refine .ifp (by rw [B_size]; omega) (.ifp (by omega) (.ifn ?_ ?_))
    · rw [B_bt]
      intro h
      have h2 := (u8_int _ 10).1 h
      rw [List.getD_eq_getElem?_getD, List.getElem?_eq_getElem (by omega)] at h2
      exact hn _ (List.getElem_mem hi) (h2 ▸ List.getElem_mem _)
    · rw [w64 (by omega) (by omega)]
      exact ih (j + 1) (by omega)
theorem cut_loop : ∀ (d i : Nat), i + d = ls.length → Ev (fun k => muslinlaw06_LinesCut.l0 k (Pr.bytesOf ls) (B (endC (ls.take i))) (i : Int)) true := by
  intro d
  induction d with
  | zero =>
    intro i hi
    obtain rfl : i = ls.length := by omega
    exact cut_end ls hn hl hs _ (by rw [List.take_length])
  | succ d ih =>
    intro i hi
    refine .succ ?_
    simp only [muslinlaw06_LinesCut.l0]
    refine .ifp (by rw [bytesOf_len]; omega) ?_
    exact cut_step ls hn hl hs i (by omega) (ih (i + 1) (by omega)) _ 0 (Nat.zero_add _)
end
theorem LinesCut : muslinlaw06_LinesCut.Pure := by
  intro a0 ha
  refine Ev.ex ?_
  unfold muslinlaw06_LinesCut.f muslinlaw06_short.f
  rw [B_of a0]
  generalize a0.data.toList = l
  refine .bindc rfl ?_
  by_cases h : l.length ≤ 5000
  · refine .ifp (by rw [B_size]; exact decide_eq_true (by omega)) (.bindc (linesCut l (by omega)) ?_)
    have := cut_loop (cutL l) (cutL_no10 _ l (Nat.le_refl _)) (Nat.le_trans (cutL_len l) h) (Nat.le_trans (cutL_sum l) h) (cutL l).length 0 (by omega)
    exact this
  · refine .ifn (by rw [B_size]; simp; omega) (.bind live_ev (.pure _))
end Go.Proofs.YtomfdejamngkjaaDoor.Pure
