/- A style's declarations: the printed function answers as a plain one over lists does. -/
import Derived.Test.YtollfaphadcnnaaDoorPureEnd
import Derived.Test.YtollfaphadcnnaaDoorPrxC
set_option linter.unusedVariables false
set_option linter.unusedSimpArgs false
namespace Go.Proofs.YtollfaphadcnnaaDoor.Pure
open Go Go.RowKit Go.Proofs.YtollfaphadcnnaaDoor.Pr Go.Proofs.YtollfaphadcnnaaDoorW.PrintWords Go.Proofs.YtollfaphadcnnaaDoorW.PrintLast Plain Go.Proofs.YtollfaphadcnnaaDoor
/-- The pieces of a style. -/
def piecesL (l : List UInt8) : List (List UInt8) := if h : endQ l 0 0 < l.length then l.take (endQ l 0 0) :: piecesL (l.drop (endQ l 0 0 + 1)) else [l]
termination_by l.length
decreasing_by rw [List.length_drop]; omega
theorem piecesL_more {l : List UInt8} (h : endQ l 0 0 < l.length) : piecesL l = l.take (endQ l 0 0) :: piecesL (l.drop (endQ l 0 0 + 1)) := by rw [piecesL, dif_pos h]
theorem piecesL_last {l : List UInt8} (h : ¬ endQ l 0 0 < l.length) : piecesL l = [l] := by rw [piecesL, dif_neg h]
def nmOf (p : List UInt8) : List UInt8 := small (Lib.trimS (Lib.cut p [58]).1 wh)
def vlOf (p : List UInt8) : List UInt8 := Lib.trimS (Lib.cut p [58]).2.1 wh
def declOf (p : List UInt8) : List S29 := if nmOf p ≠ [] ∧ vlOf p ≠ [] then [⟨B (nmOf p), B (vlOf p)⟩] else []
/-- The declarations of a style. -/
def cutV (l : List UInt8) : List S29 := (piecesL l).flatMap declOf
theorem cutV_more {l : List UInt8} (h : endQ l 0 0 < l.length) : cutV l = declOf (l.take (endQ l 0 0)) ++ cutV (l.drop (endQ l 0 0 + 1)) := by
  unfold cutV
  rw [piecesL_more h, List.flatMap_cons]
theorem cutV_last {l : List UInt8} (h : ¬ endQ l 0 0 < l.length) : cutV l = declOf l := by
  unfold cutV
  rw [piecesL_last h, List.flatMap_cons, List.flatMap_nil, List.append_nil]
theorem declOf_len (p : List UInt8) : (declOf p).length ≤ 1 := by unfold declOf; split <;> simp
theorem cut58_le (l : List UInt8) : (Lib.cut l [58]).1.length ≤ l.length ∧ (Lib.cut l [58]).2.1.length ≤ l.length := by
  unfold Lib.cut
  split
  · simp only [List.length_take, List.length_drop]; omega
  · simp
theorem trimS_sub (l cs : List UInt8) : (Lib.trimS l cs).Sublist l := by
  have h1 : (Lib.trimRightS l cs).Sublist l := by
    have := (List.dropWhile_sublist (l := l.reverse) (fun c => cs.contains c)).reverse
    rw [List.reverse_reverse] at this
    exact this
  exact (List.dropWhile_sublist (l := Lib.trimRightS l cs) (fun c => cs.contains c)).trans h1
theorem trimF (l : List UInt8) (h : l.length ≤ 1000000000) : strings_Trim.f (B l) (⟨#[32, 9, 10, 12, 13]⟩ : ByteArray) = some (B (Lib.trimS l wh)) := by
  unfold strings_Trim.f
  rw [if_pos ⟨by rw [B_size]; omega, by decide, by decide, by decide⟩]
  rfl
theorem smallF (l : List UInt8) (h : l.length ≤ 1000000000) : css_small.f (B l) = some (B (small l)) := by
  unfold css_small.f
  rw [if_pos (by rw [B_size]; omega)]
  rfl
theorem cutF (l : List UInt8) (h : l.length ≤ 1000000000) : strings_Cut.f (B l) (⟨#[58]⟩ : ByteArray) = some (B (Lib.cut l [58]).1, B (Lib.cut l [58]).2.1, (Lib.cut l [58]).2.2) := by
  unfold strings_Cut.f
  rw [if_pos ⟨by decide, by rw [B_size]; omega⟩]
  rfl
theorem cut_j1 (l : List UInt8) (X : List S29) (n : Nat) (a b : List UInt8) (q : Bool) (hl : l.length ≤ 1000000000) (hX : X.length ≤ 1000000000) (hn : n ≤ l.length) (V : List S29)
    (hlast : ¬ n < l.length → V = X ++ (if q then [⟨B a, B b⟩] else []))
    (hmore : n < l.length → Ev (fun k => css_Cut.l0 k (B (l.drop (n + 1))) (X ++ (if q then [⟨B a, B b⟩] else []))) V) :
    Ev (fun k => css_Cut.j1 k (B l) X (n : Int) (B a) (B b) q) V := by
  have w1 : wrap64 ((n : Int) + 1) = ((n + 1 : Nat) : Int) := by rw [w64 (by omega) (by omega)]; omega
  refine .succ ?_
  simp only [css_Cut.j1]
  rw [w1, B_size, Int.toNat_natCast, B_from]
  cases q with
  | true =>
    refine .ifp rfl (.ifp (by omega) (.bindc rfl ?_))
    by_cases h : n < l.length
    · exact .ifn (by omega) (.ifp (by omega) (.ifp (by omega) (hmore h)))
    · exact .ifp (by omega) (.of (by rw [hlast h]; rfl))
  | false =>
    refine .ifn (by simp) ?_
    by_cases h : n < l.length
    · have := hmore h
      simp only [Bool.false_eq_true, if_false, List.append_nil] at this
      exact .ifn (by omega) (.ifp (by omega) (.ifp (by omega) this))
    · exact .ifp (by omega) (.of (by rw [hlast h]; simp))
theorem cut_l0 : ∀ (n : Nat) (l : List UInt8) (X : List S29), l.length < n → n ≤ 100000001 → X.length + l.length ≤ 100000000 → Ev (fun k => css_Cut.l0 k (B l) X) (X ++ cutV l) := by
  intro n
  induction n with
  | zero => intro l X h _ _; omega
  | succ n ih =>
    intro l X h hn hX
    refine .succ ?_
    simp only [css_Cut.l0]
    have hle := endQ_le _ l 0 0 (Nat.le_refl _)
    refine .bind (end_ev l (by omega)) (.ifp (by omega) (.ifp (by rw [B_size]; omega) ?_))
    rw [Int.toNat_natCast, B_upto]
    have hp : (l.take (endQ l 0 0)).length ≤ l.length := by rw [List.length_take]; omega
    have h1 := cut58_le (l.take (endQ l 0 0))
    have h2 := (trimS_sub (Lib.cut (l.take (endQ l 0 0)) [58]).1 wh).length_le
    refine .bindc (cutF _ (by omega)) (.bindc (trimF _ (by omega)) (.bindc (smallF _ (by omega)) (.bindc (trimF _ (by omega)) ?_)))
    have hd : declOf (l.take (endQ l 0 0)) = if (decide (nmOf (l.take (endQ l 0 0)) ≠ [] ∧ vlOf (l.take (endQ l 0 0)) ≠ [])) = true then [⟨B (nmOf (l.take (endQ l 0 0))), B (vlOf (l.take (endQ l 0 0)))⟩] else [] := by
      unfold declOf
      by_cases hc : nmOf (l.take (endQ l 0 0)) ≠ [] ∧ vlOf (l.take (endQ l 0 0)) ≠ []
      · rw [if_pos hc, if_pos (decide_eq_true hc)]
      · rw [if_neg hc, if_neg (by simpa using hc)]
    have key : Ev (fun k => css_Cut.j1 k (B l) X ((endQ l 0 0 : Nat) : Int) (B (nmOf (l.take (endQ l 0 0)))) (B (vlOf (l.take (endQ l 0 0)))) (decide (nmOf (l.take (endQ l 0 0)) ≠ [] ∧ vlOf (l.take (endQ l 0 0)) ≠ []))) (X ++ cutV l) := by
      refine cut_j1 l X _ _ _ _ (by omega) (by omega) hle _ (fun hh => ?_) (fun hh => ?_)
      · rw [cutV_last hh, ← hd, show l.take (endQ l 0 0) = l from List.take_of_length_le (by omega)]
      · rw [cutV_more hh, ← hd, ← List.append_assoc]
        have hdl := declOf_len (l.take (endQ l 0 0))
        exact ih _ _ (by rw [List.length_drop]; omega) (by omega) (by rw [List.length_append, List.length_drop]; omega)
    by_cases hn0 : nmOf (l.take (endQ l 0 0)) = []
    · refine .ifp (by rw [B_list]; exact hn0) ?_
      rw [decide_eq_false (fun hc => hc.1 hn0)] at key
      exact key
    · refine .ifn (by rw [B_list]; exact hn0) ?_
      have e : ((B (vlOf (l.take (endQ l 0 0)))).toList != ([] : List UInt8)) = decide (nmOf (l.take (endQ l 0 0)) ≠ [] ∧ vlOf (l.take (endQ l 0 0)) ≠ []) := by
        rw [B_list]
        by_cases hv : vlOf (l.take (endQ l 0 0)) = []
        · rw [hv]; simp
        · rw [decide_eq_true ⟨hn0, hv⟩]; simpa using hv
      rw [← e] at key
      exact key
theorem cut_ev (l : List UInt8) (hl : l.length ≤ 100000000) : Ev (fun k => css_Cut.f k (B l)) (cutV l) := by
  have := cut_l0 (l.length + 1) l [] (by omega) (by omega) (by simpa using hl)
  exact this
end Go.Proofs.YtollfaphadcnnaaDoor.Pure
