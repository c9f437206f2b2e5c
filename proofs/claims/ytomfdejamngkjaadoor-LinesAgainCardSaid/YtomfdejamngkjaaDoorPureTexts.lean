/- Two rows of texts compared; the document's examples of chapter 6, for the statements' live(). -/
import Derived.Test.YtomfdejamngkjaaDoorPureCut
import Derived.Test.YtomfdejamngkjaaDoorPrx2
set_option linter.unusedVariables false
set_option linter.unusedSimpArgs false
namespace Go.Proofs.YtomfdejamngkjaaDoor.Pure
open Go Go.RowKit Go.Proofs.YtomfdejamngkjaaDoor.Pr Go.Proofs.YtomfdejamngkjaaDoorW.PrintWords Go.Proofs.YtomfdejamngkjaaDoorW.PrintLast Plain Go.Proofs.YtomfdejamngkjaaDoor
theorem rd_bytes (a : List (List UInt8)) (i : Nat) (h : i < a.length) : rdOf ByteArray.empty (Pr.bytesOf a) (i : Int) = B a[i] := by
  unfold rdOf Pr.bytesOf
  rw [Int.toNat_natCast, List.getD_eq_getElem?_getD, List.getElem?_map, List.getElem?_eq_getElem h]
  rfl
theorem texts_l0 (a b : List (List UInt8)) (hl : a.length ≤ 4611686018427387904) (he : a.length = b.length) : ∀ (d i : Nat), i + d = a.length → Ev (fun k => muslinref06_Texts.l0 k (Pr.bytesOf a) (Pr.bytesOf b) (i : Int)) (decide (a.drop i = b.drop i)) := by
  intro d
  induction d with
  | zero =>
    intro i hi
    refine .succ ?_
    simp only [muslinref06_Texts.l0]
    refine .ifn (by rw [bytesOf_len]; omega) (.of ?_)
    rw [List.drop_of_length_le (by omega), List.drop_of_length_le (by omega)]
    simp
  | succ d ih =>
    intro i hi
    refine .succ ?_
    simp only [muslinref06_Texts.l0]
    have h1 : i < a.length := by omega
    have h2 : i < b.length := by omega
    refine .ifp (by rw [bytesOf_len]; omega) (.ifp (by omega) (.ifp (by rw [bytesOf_len]; omega) ?_))
    rw [rd_bytes a i h1, rd_bytes b i h2, B_list, B_list]
    rw [List.drop_eq_getElem_cons h1, List.drop_eq_getElem_cons h2]
    by_cases hab : a[i] = b[i]
    · refine .ifp hab ?_
      rw [w64 (by omega) (by omega)]
      have := ih (i + 1) (by omega)
      refine Ev.cast (v := decide (a.drop (i + 1) = b.drop (i + 1))) ?_ ?_
      · exact_mod_cast this
      · rw [hab]
        simp only [List.cons.injEq, true_and]
    · refine .ifn hab (.of ?_)
      simp only [List.cons.injEq, hab, false_and, decide_false]
theorem texts_ev (a b : List (List UInt8)) (hl : a.length ≤ 4611686018427387904) : Ev (fun k => muslinref06_Texts.f k (Pr.bytesOf a) (Pr.bytesOf b)) (decide (a = b)) := by
  unfold muslinref06_Texts.f
  by_cases he : a.length = b.length
  · refine .ifp (by rw [bytesOf_len, bytesOf_len, he]) ?_
    have := texts_l0 a b hl he a.length 0 (by omega)
    simpa using this
  · refine .ifn (by rw [bytesOf_len, bytesOf_len]; omega) (.of ?_)
    have : ¬ a = b := fun h => he (by rw [h])
    rw [decide_eq_false this]
def linesF : Nat → List UInt8 → List Ln
  | 0, _ => []
  | _ + 1, [] => []
  | n + 1, c :: r => (if (brk1 10 (c :: r)).2.2 then chop (brk1 10 (c :: r)).1 else (brk1 10 (c :: r)).1, (brk1 10 (c :: r)).2.1, (brk1 10 (c :: r)).2.2) :: linesF n (brk1 10 (c :: r)).2.1
theorem linesF_eq : ∀ (n : Nat) (l : List UInt8), l.length ≤ n → linesL l = linesF n l := by
  intro n
  induction n with
  | zero =>
    intro l h
    obtain rfl : l = [] := List.eq_nil_of_length_eq_zero (by omega)
    rw [linesL_nil]; rfl
  | succ n ih =>
    intro l h
    cases l with
    | nil => rw [linesL_nil]; rfl
    | cons c r =>
      have hl := (lineOf_len (c :: r)).2.2 (by simp)
      rw [lineOf_brk] at hl
      rw [linesL_cons (by simp), lineOf_brk, ih _ (by show (brk1 10 (c :: r)).2.1.length ≤ n; simp only at hl; omega)]
      rfl
def smp : List UInt8 := [65, 32, 58, 32, 98, 13, 10, 9, 99, 32, 10, 98, 97, 100, 10, 32, 100, 10, 88, 58, 10, 10, 98, 111, 100, 121, 10]
theorem head_smp : headL smp = ([⟨B [65], B [98, 9, 99]⟩, ⟨B [88], B []⟩], [98, 111, 100, 121, 10]) := by
  unfold headL
  rw [linesF_eq 27 smp (by decide)]
  rfl
theorem live_f1 : lines_Head.f (B smp) = some ([⟨B [65], B [98, 9, 99]⟩, ⟨B [88], B []⟩], B [98, 111, 100, 121, 10]) := by
  unfold lines_Head.f
  rw [if_pos (by rw [B_size]; decide), B_data, head_smp]
  rfl
theorem live_f2 : lines_Get.f [⟨B [65], B [98, 9, 99]⟩, ⟨B [88], B []⟩] (B [97]) = some (B [98, 9, 99], true) := by rfl
theorem live_f3 : lines_Write.f [⟨B [65], B [98]⟩] (B [99]) = some (B [65, 58, 32, 98, 13, 10, 13, 10, 99], 0) := by rfl
theorem live_f4 : lines_Write.f [⟨B [65], B [98, 32]⟩] (B []) = some (B [], 1) := by rfl
theorem live_f5 : lines_Cut.f (B [97, 13, 10, 10, 98]) = some (Pr.bytesOf [[97], [], [98]]) := by
  unfold lines_Cut.f
  rw [if_pos (by rw [B_size]; decide), B_data]
  unfold cutL
  rw [linesF_eq 5 _ (by decide)]
  rfl
theorem live_ev : Ev (fun k => muslinlaw06_live.f k) true := by
  unfold muslinlaw06_live.f
  refine .bindc live_f1 (.bindc live_f2 (.bindc live_f3 (.bindc live_f4 ?_)))
  refine .ifp (by rfl) (.ifp (by simp) (.ifp (by simp) (.ifp (by rfl) (.ifp (by simp) (.ifp (by rfl) (.ifp (by rfl) ?_))))))
  refine .bindc live_f5 ?_
  refine .bind (a := true) ?_ (.pure _)
  exact texts_ev [[97], [], [98]] [[97], [], [98]] (by decide)
end Go.Proofs.YtomfdejamngkjaaDoor.Pure
