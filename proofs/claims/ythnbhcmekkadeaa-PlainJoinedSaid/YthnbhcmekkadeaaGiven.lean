/- The functions that are proved by hand, in the form in which the printed texts call them. -/
import Derived.Test.YthnbhcmekkadeaaLinesW
import Derived.Test.YthnbhcmekkadeaaRowsW
set_option linter.unusedVariables false
set_option linter.unusedSimpArgs false
namespace Go.Proofs.Ythnbhcmekkadeaa.Pr
open Go.RowKit Plain Go.Proofs.YthnbhcmekkadeaaW.PrintWords Go.Proofs.YthnbhcmekkadeaaW.PrintLast Go.Proofs.YthnbhcmekkadeaaW.PrintMore

def bytesOf (l : List (List UInt8)) : List ByteArray := l.map fun x => ⟨x.toArray⟩
def lines_Cut.f (a0 : ByteArray) : Option (List ByteArray) := if a0.size ≤ 8796093022207 then some (bytesOf (cutL a0.data.toList)) else none
theorem lines_Cut.calls (a0 : ByteArray) (r : List ByteArray) (w : World) (h : lines_Cut.f a0 = some r) :
    Calls Try.prog 22 #[.string a0] w fun e w' => ∃ v0_ : Value, e = .returned v0_ ∧ Kd.R Kd.string 9 w' w.heap.size (fun _ => True) v0_ r ∧ Below w.heap.size w w' := by
  unfold lines_Cut.f at h
  split at h
  · cases h
    refine (cutLines_any a0 w (by assumption)).mono ?_
    rintro e w' ⟨v, rfl, ho, hb⟩
    have e1 : (bytesOf (cutL a0.data.toList)).length = (linesL a0.data.toList).length := by simp [bytesOf, cutL]
    have e2 : encs (fun x : ByteArray => Value.string x) (bytesOf (cutL a0.data.toList)) = (linesL a0.data.toList).map textV := by simp [encs, bytesOf, cutL, textV]
    refine ⟨v, rfl, Kd.R_of_own ?_ (fun _ _ => trivial), hb⟩
    rw [e1, e2]
    exact ho
  · cases h
def rowsOk (l0 : List S44) (a1 : Int) : Bool := decide (0 ≤ a1 ∧ a1 ≤ 20 ∧ l0.length ≤ 100000) && l0.all fun x => decide (x.f0 ≤ 20)
def plain_rows.f (l0 : List S44) (a1 : Int) : Option (List S36) := if rowsOk l0 a1 then some (rowsD (20 - a1).toNat a1 l0) else none
theorem plain_rows.calls (A0 : Option Addr) (c0 : Nat) (l0 : List S44) (a1 : Int) (r : List S36) (w : World) (hr0 : Kd.C k44 w A0 l0.length l0) (hc0 : l0.length ≤ c0) (h : plain_rows.f l0 a1 = some r) :
    Calls Try.prog 23 #[.slice A0 l0.length c0, .int .i64 a1] w fun e w' => ∃ v0_ : Value, e = .returned v0_ ∧ Kd.R k36 36 w' w.heap.size (fun _ => True) v0_ r ∧ Below w.heap.size w w' := by
  unfold plain_rows.f at h
  split at h
  · rename_i hk
    cases h
    unfold rowsOk at hk
    rw [Bool.and_eq_true, decide_eq_true_eq, List.all_eq_true] at hk
    obtain ⟨⟨h1, h2, h3⟩, h4⟩ := hk
    exact rows_any (20 - a1).toNat A0 c0 l0 a1 w hr0 hc0 h3 h1 (by omega) (fun x hx => by have := of_decide_eq_true (h4 x hx); omega)
  · cases h
end Go.Proofs.Ythnbhcmekkadeaa.Pr
