/- Library functions that are proved by hand, in the form in which the printed texts call them. -/
import Derived.Test.YtollfaphadcnnaaDoorTx
import Derived.Test.YtollfaphadcnnaaDoorPrx0
set_option linter.unusedVariables false
namespace Go.Proofs.YtollfaphadcnnaaDoor.Pr
open Go.RowKit Plain Go.Proofs.YtollfaphadcnnaaDoorW.PrintWords Go.Proofs.YtollfaphadcnnaaDoorW.PrintLast Go.Proofs.YtollfaphadcnnaaDoorW.PrintMore
theorem bne_nil (l : List UInt8) : (!l.isEmpty) = (l != []) := by cases l <;> rfl
def strings_Cut.f (a0 a1 : ByteArray) : Option (ByteArray × ByteArray × Bool) :=
  if a1.data.toList = [a1.data.toList.getD 0 0] ∧ a0.size ≤ 140737488351232 then some (⟨(Lib.cut a0.data.toList a1.data.toList).1.toArray⟩, ⟨(Lib.cut a0.data.toList a1.data.toList).2.1.toArray⟩, (Lib.cut a0.data.toList a1.data.toList).2.2) else none
theorem strings_Cut.calls (a0 a1 : ByteArray) (r1 r2 : ByteArray) (r3 : Bool) (w : World) (h : strings_Cut.f a0 a1 = some (r1, r2, r3)) :
    Calls Tryd.prog 19 #[.string a0, .string a1] w fun e w' => e = .returned (.tuple #[.string r1, .string r2, .bool r3]) ∧ Below w.heap.size w w' := by
  unfold strings_Cut.f at h
  split at h
  · rename_i hk
    cases h
    obtain ⟨h1, h2⟩ := hk
    have e : a1 = ⟨#[a1.data.toList.getD 0 0]⟩ := by
      have := congrArg (fun l : List UInt8 => (⟨l.toArray⟩ : ByteArray)) h1
      exact this
    have hc := cut_one a0 (a1.data.toList.getD 0 0) w h2
    rw [← e, ← h1] at hc
    exact hc.mono fun _ _ ⟨he, n, hw⟩ => ⟨he, hw ▸ pw_below_drewN (Below.refl _ _) n⟩
  · cases h
def strings_Trim.f (a0 a1 : ByteArray) : Option ByteArray :=
  if a0.size ≤ 140737488351232 ∧ a1.size ≤ 1000 ∧ a1.data.toList.all (fun c => decide (c.toNat < 128)) = true ∧ 2 ≤ a1.size then some ⟨(Lib.trimS a0.data.toList a1.data.toList).toArray⟩ else none
theorem strings_Trim.calls (a0 a1 : ByteArray) (r : ByteArray) (w : World) (h : strings_Trim.f a0 a1 = some r) :
    Calls Tryd.prog 21 #[.string a0, .string a1] w fun e w' => e = .returned (.string r) ∧ Below w.heap.size w w' := by
  unfold strings_Trim.f at h
  split at h
  · rename_i hk
    cases h
    exact trim_set a0 a1 w (by omega) hk.2.1 hk.2.2.1 hk.2.2.2
  · cases h
def css_small.f (a0 : ByteArray) : Option ByteArray := if a0.size ≤ 140737488351232 then some ⟨(small a0.data.toList).toArray⟩ else none
theorem css_small.calls (a0 : ByteArray) (r : ByteArray) (w : World) (h : css_small.f a0 = some r) :
    Calls Tryd.prog 20 #[.string a0] w fun e w' => e = .returned (.string r) ∧ Below w.heap.size w w' := by
  unfold css_small.f at h
  split at h
  · cases h
    exact small_any a0 w (by assumption)
  · cases h
def muslinref03_Small.f (a0 : ByteArray) : Option ByteArray := if a0.size ≤ 140737488351232 then some ⟨(small a0.data.toList).toArray⟩ else none
theorem muslinref03_Small.calls (a0 : ByteArray) (r : ByteArray) (w : World) (h : muslinref03_Small.f a0 = some r) :
    Calls Tryd.prog 23 #[.string a0] w fun e w' => e = .returned (.string r) ∧ Below w.heap.size w w' := by
  unfold muslinref03_Small.f at h
  split at h
  · cases h
    exact refSmall_any a0 w (by assumption)
  · cases h
end Go.Proofs.YtollfaphadcnnaaDoor.Pr
