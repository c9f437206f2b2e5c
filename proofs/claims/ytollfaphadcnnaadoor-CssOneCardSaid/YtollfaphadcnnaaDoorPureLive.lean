/- The document's examples of chapter 17, for the statements' live(); CssSafe. -/
import Derived.Test.YtollfaphadcnnaaDoorPureSafe
import Derived.Test.YtollfaphadcnnaaDoorPrx7
set_option linter.unusedVariables false
set_option linter.unusedSimpArgs false
namespace Go.Proofs.YtollfaphadcnnaaDoor.Pure
open Go Go.RowKit Go.Proofs.YtollfaphadcnnaaDoor.Pr Go.Proofs.YtollfaphadcnnaaDoorW.PrintWords Go.Proofs.YtollfaphadcnnaaDoorW.PrintLast Plain Go.Proofs.YtollfaphadcnnaaDoor
def piecesF : Nat → List UInt8 → List (List UInt8)
  | 0, _ => []
  | n + 1, l => if endQ l 0 0 < l.length then l.take (endQ l 0 0) :: piecesF n (l.drop (endQ l 0 0 + 1)) else [l]
theorem piecesF_eq : ∀ (n : Nat) (l : List UInt8), l.length < n → piecesL l = piecesF n l := by
  intro n
  induction n with
  | zero => intro l h; omega
  | succ n ih =>
    intro l h
    rw [piecesF]
    split
    · rename_i hm
      rw [piecesL_more hm, ih _ (by rw [List.length_drop]; omega)]
    · rename_i hm
      rw [piecesL_last hm]
def safeD (n v : ByteArray) : Bool := decide (Lib.bsGo (fun t => Op.bytesLess (nmAt t).data.toList n.data.toList) 38 0 38 < 38 ∧ nmAt (Lib.bsGo (fun t => Op.bytesLess (nmAt t).data.toList n.data.toList) 38 0 38) = n) && (!v.data.toList.isEmpty && (decide (v.size ≤ 100) && v.data.toList.all okC))
theorem safeD_eq (n v : ByteArray) : safeB n v = safeD n v := by
  rw [safeB_eq, isNm_data]
  unfold okV safeD
  rw [Lib.toList_data]
def lastD : List S29 → List (List UInt8)
  | [] => []
  | x :: r => (if r.any (fun e => e.f0.data.toList == x.f0.data.toList) then [] else [x.f0.data.toList ++ [58, 32] ++ x.f1.data.toList]) ++ lastD r
theorem line_data (x : S29) : (line x).data.toList = x.f0.data.toList ++ [58, 32] ++ x.f1.data.toList := by
  unfold line
  simp
theorem lastD_eq : ∀ L : List S29, (lastOf L).map (·.data.toList) = lastD L
  | [] => rfl
  | x :: r => by
    have ih := lastD_eq r
    rw [lastOf, lastD, List.map_append, ih]
    simp only [Lib.toList_data]
    split
    · rfl
    · rw [List.map_cons, List.map_nil, line_data]
def cutN (n : Nat) (l : List UInt8) : List S29 := (piecesF n l).flatMap declOf
theorem cutN_eq (n : Nat) (l : List UInt8) (h : l.length < n) : cutV l = cutN n l := by unfold cutV cutN; rw [piecesF_eq n l h]
def cleanF (n : Nat) (l : List UInt8) : List UInt8 := Lib.join (lastD ((cutN n l).filter fun x => safeD x.f0 x.f1)) [59, 32]
theorem cleanF_eq (n : Nat) (l : List UInt8) (h : l.length < n) : cleanV l = B (cleanF n l) := by
  unfold cleanV cleanF
  rw [lastD_eq, cutN_eq n l h]
  unfold keepL
  simp only [safeD_eq]
  rfl
theorem same_l0 (a : List S29) (hl : a.length ≤ 4611686018427387904) : ∀ (d i : Nat), i + d = a.length → Ev (fun k => muslinref17_Same.l0 k a a (i : Int)) true := by
  intro d
  induction d with
  | zero =>
    intro i hi
    refine .succ ?_
    simp only [muslinref17_Same.l0]
    exact .ifn (by omega) (.pure _)
  | succ d ih =>
    intro i hi
    refine .succ ?_
    simp only [muslinref17_Same.l0]
    refine .ifp (by omega) (.ifp (by omega) (.ifp (by omega) (.ifn (by simp) ?_)))
    rw [w64 (by omega) (by omega)]
    exact ih (i + 1) (by omega)
theorem same_refl (a : List S29) (hl : a.length ≤ 4611686018427387904) : Ev (fun k => muslinref17_Same.f k a a) true := by
  unfold muslinref17_Same.f
  exact .ifp rfl (same_l0 a hl a.length 0 (by omega))
theorem cleanEq (l : List UInt8) (h : l.length ≤ 1000000) : css_Clean.f (B l) = some (cleanV l) := by
  unfold css_Clean.f
  rw [if_pos (by rw [B_size]; exact h)]; rfl
theorem safeEq (n v : ByteArray) : css_Safe.f n v = some (safeB n v) := rfl
def ex1 : List UInt8 := [67, 79, 76, 79, 82, 58, 32, 114, 101, 100, 59, 32, 98, 97, 99, 107, 103, 114, 111, 117, 110, 100, 58, 32, 117, 114, 108, 40, 120, 59, 121, 41, 59, 32, 120, 59, 32, 99, 111, 108, 111, 114, 58, 98, 108, 117, 101, 32, 59, 119, 105, 100, 116, 104, 58, 49, 112, 120]
def ex2 : List UInt8 := [99, 111, 108, 111, 114, 58, 32, 34, 97, 59, 98, 34, 59, 32, 119, 105, 100, 116, 104, 58, 32, 101, 120, 112, 114, 101, 115, 115, 105, 111, 110, 40, 49, 41]
def ex3 : List UInt8 := [97, 58, 39, 98, 59, 39, 59, 99, 58, 100, 58, 101]
theorem live_1 : cleanF 80 ex1 = [99, 111, 108, 111, 114, 58, 32, 98, 108, 117, 101, 59, 32, 119, 105, 100, 116, 104, 58, 32, 49, 112, 120] := by decide +kernel
theorem live_2 : cleanF 80 ex2 = [] := by decide +kernel
theorem live_3 : safeD ⟨#[99, 111, 108, 111, 114]⟩ ⟨#[35, 102, 102, 102]⟩ = true := by decide +kernel
theorem live_4 : safeD ⟨#[67, 111, 108, 111, 114]⟩ ⟨#[114, 101, 100]⟩ = false := by decide +kernel
theorem live_5 : cutN 20 ex3 = [⟨⟨#[97]⟩, ⟨#[39, 98, 59, 39]⟩⟩, ⟨⟨#[99]⟩, ⟨#[100, 58, 101]⟩⟩] := by rfl
theorem live_ev : Ev (fun k => muslinlaw17_live.f k) true := by
  unfold muslinlaw17_live.f
  have c1 : css_Clean.f (B ex1) = some (B (cleanF 80 ex1)) := by rw [cleanEq ex1 (by decide), cleanF_eq 80 ex1 (by decide)]
  have c2 : css_Clean.f (B ex2) = some (B (cleanF 80 ex2)) := by rw [cleanEq ex2 (by decide), cleanF_eq 80 ex2 (by decide)]
  have c5 := cut_ev ex3 (by decide)
  rw [cutN_eq 20 ex3 (by decide)] at c5
  refine .bindc c1 (.ifp (by rw [B_list, live_1]) (.bindc c2 (.ifp (by rw [B_list, live_2]) (.bindc (safeEq _ _) (.ifp (by rw [safeD_eq]; exact live_3) (.bindc (safeEq _ _) (.ifn (by rw [safeD_eq, live_4]; decide) (.bind c5 ?_))))))))
  rw [live_5]
  exact .bind (same_refl _ (by decide)) (.pure _)
theorem safe_j0_true (a b : ByteArray) : Ev (fun k => muslinlaw17_CssSafe.j0 k a b true) true := by
  refine .succ ?_
  simp only [muslinlaw17_CssSafe.j0]
  exact .ifp (by first | rfl | trivial) (.bind live_ev (.pure _))
theorem CssSafe : muslinlaw17_CssSafe.Pure := by
  intro a0 a1 _ _
  refine Ev.ex ?_
  unfold muslinlaw17_CssSafe.f muslinlaw17_short.f
  refine .bindc rfl ?_
  by_cases h : a0.size ≤ 3000
  · refine .ifp (decide_eq_true (by omega)) (.bindc rfl ?_)
    by_cases h2 : a1.size ≤ 3000
    · rw [show decide ((a1.size : Int) ≤ 3000) = true from decide_eq_true (by omega)]
      refine .succ ?_
      simp only [muslinlaw17_CssSafe.j0]
      exact .ifn (by simp) (.bindc (safeEq _ _) (.bind (refSafe a0 a1 (by omega)) (.ifp (by simp) (.bind live_ev (.pure _)))))
    · rw [show decide ((a1.size : Int) ≤ 3000) = false from decide_eq_false (by omega)]
      exact safe_j0_true _ _
  · exact .ifn (by simp; omega) (safe_j0_true _ _)
end Go.Proofs.YtollfaphadcnnaaDoor.Pure
