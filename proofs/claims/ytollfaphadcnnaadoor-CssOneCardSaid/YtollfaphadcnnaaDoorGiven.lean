/- css.Safe and css.Clean, proved by hand, in the form in which the printed texts call them; both ask that the names' variable reads as laid. -/
import Derived.Test.YtollfaphadcnnaaDoorCleanW
import Derived.Test.YtollfaphadcnnaaDoorGiven1
set_option linter.unusedVariables false
namespace Go.Proofs.YtollfaphadcnnaaDoor.Pr
open Go.RowKit Plain Go.Proofs.YtollfaphadcnnaaDoorW.PrintWords Go.Proofs.YtollfaphadcnnaaDoorW.PrintLast Go.Proofs.YtollfaphadcnnaaDoorW.PrintMore
def css_Clean.f (a0 : ByteArray) : Option ByteArray := if a0.size ≤ 1000000 then some (cleanV a0.data.toList) else none
theorem css_Clean.calls (a0 : ByteArray) (r : ByteArray) (w : World) (h : css_Clean.f a0 = some r) (hN : NmAt w) :
    Calls Tryd.prog 14 #[.string a0] w fun e w' => e = .returned (.string r) ∧ Below w.heap.size w w' := by
  unfold css_Clean.f at h
  split at h
  · cases h
    exact clean_any a0 w hN (by assumption)
  · cases h
def css_Safe.f (a0 a1 : ByteArray) : Option Bool := some (safeB a0 a1)
theorem css_Safe.calls (a0 a1 : ByteArray) (r : Bool) (w : World) (h : css_Safe.f a0 a1 = some r) (hN : NmAt w) :
    Calls Tryd.prog 16 #[.string a0, .string a1] w fun e w' => e = .returned (.bool r) ∧ Below w.heap.size w w' := by
  unfold css_Safe.f at h
  cases h
  exact safe_any a0 a1 w hN
end Go.Proofs.YtollfaphadcnnaaDoor.Pr
