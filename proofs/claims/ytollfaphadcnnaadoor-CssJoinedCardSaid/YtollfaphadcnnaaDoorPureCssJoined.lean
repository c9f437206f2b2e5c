/- CssJoined: styles one behind the other, with a sign between, are cut as both, if the first one opens nothing. -/
import Derived.Test.YtollfaphadcnnaaDoorPureMath
import Derived.Test.YtollfaphadcnnaaDoorPureLive
import Derived.Test.YtollfaphadcnnaaDoorPrx10
set_option linter.unusedVariables false
set_option linter.unusedSimpArgs false
namespace Go.Proofs.YtollfaphadcnnaaDoor.Pure
open Go Go.RowKit Go.Proofs.YtollfaphadcnnaaDoor.Pr Go.Proofs.YtollfaphadcnnaaDoorW.PrintWords Go.Proofs.YtollfaphadcnnaaDoorW.PrintLast Plain Go.Proofs.YtollfaphadcnnaaDoor
theorem joined_l0 (s t : List UInt8) (hs : s.length ≤ 3000) (ht : t.length ≤ 3000) : ∀ (d i : Nat), i + d = s.length → (s.take i).all noOpen = true → Ev (fun k => muslinlaw17_CssJoined.l0 k (B s) (B t) (i : Int)) true := by
  intro d
  induction d with
  | zero =>
    intro i hi hno
    rw [List.take_of_length_le (by omega)] at hno
    refine .succ ?_
    simp only [muslinlaw17_CssJoined.l0]
    have l1 := cutV_len s
    have l2 := cutV_len t
    have e : (B s ++ (⟨#[59]⟩ : ByteArray)) ++ B t = B (s ++ 59 :: t) := by
      rw [show (⟨#[59]⟩ : ByteArray) = B [59] from rfl, B_append, B_append]; simp
    refine .ifn (by rw [B_size]; omega) (.bind (cut_ev s (by omega)) (.ifp (by simp; omega) (.bindc rfl (.bind (cut_ev t (by omega)) ?_))))
    rw [e]
    have hcat := cut_ev (s ++ 59 :: t) (by simp; omega)
    rw [cutV_semi s t hno] at hcat
    refine .ifp (by simp; omega) (.ifp (by rw [B_size]; omega) (.ifp (by rw [show (⟨#[59]⟩ : ByteArray) = B [59] from rfl, B_append, B_size, B_size]; simp; omega) (.bind hcat ?_)))
    exact .bind (same_refl _ (by simp; omega)) (.ifp rfl (.bind live_ev (.pure _)))
  | succ d ih =>
    intro i hi hno
    have h1 : i < s.length := by omega
    refine .succ ?_
    simp only [muslinlaw17_CssJoined.l0]
    refine .ifp (by rw [B_size]; omega) (.ifp (by omega) ?_)
    rw [B_bt, w64 (by omega) (by omega)]
    have hc : s.getD i 0 = s[i] := by rw [List.getD_eq_getElem?_getD, List.getElem?_eq_getElem h1]; rfl
    refine ev_ite (fun _ => .bind live_ev (.pure _)) (fun a1 => ev_ite (fun _ => .bind live_ev (.pure _)) (fun a2 => ev_ite (fun _ => .bind live_ev (.pure _)) (fun a3 => ?_)))
    refine ih (i + 1) (by omega) ?_
    rw [List.take_add_one, List.getElem?_eq_getElem h1, List.all_append, hno]
    have : noOpen s[i] = true := by
      rw [noOpen_iff, ← hc]
      exact ⟨fun h => a1 ((u8_int _ 34).2 h), fun h => a2 ((u8_int _ 39).2 h), fun h => a3 ((u8_int _ 40).2 h)⟩
    simp [this]
theorem joined_true (a b : ByteArray) : Ev (fun k => muslinlaw17_CssJoined.j0 k a b true) true := by
  refine .succ ?_
  simp only [muslinlaw17_CssJoined.j0]
  exact .ifp (by first | rfl | trivial) (.bind live_ev (.pure _))
theorem CssJoined : muslinlaw17_CssJoined.Pure := by
  intro a0 a1 _ _
  refine Ev.ex ?_
  unfold muslinlaw17_CssJoined.f muslinlaw17_short.f
  rw [B_of a0, B_of a1]
  generalize a0.data.toList = s
  generalize a1.data.toList = t
  refine .bindc rfl ?_
  by_cases h : s.length ≤ 3000
  · refine .ifp (by rw [B_size]; exact decide_eq_true (by omega)) (.bindc rfl ?_)
    by_cases h2 : t.length ≤ 3000
    · rw [show decide (((B t).size : Int) ≤ 3000) = true from decide_eq_true (by rw [B_size]; omega)]
      refine .succ ?_
      simp only [muslinlaw17_CssJoined.j0]
      refine .ifn (by simp) ?_
      exact joined_l0 s t h h2 _ 0 (Nat.zero_add _) (by simp)
    · rw [show decide (((B t).size : Int) ≤ 3000) = false from decide_eq_false (by rw [B_size]; omega)]
      exact joined_true _ _
  · exact .ifn (by rw [B_size]; simp; omega) (joined_true _ _)
end Go.Proofs.YtollfaphadcnnaaDoor.Pure
