/- The functions that are proved by hand, in the form in which the printed texts call them. -/
import Derived.Test.YtkiicejnoigmbaaPctB
set_option linter.unusedVariables false
namespace Go.Proofs.Ytkiicejnoigmbaa.Pr
open Go.RowKit Plain

def pct_Decode.f (a0 : ByteArray) : Option ByteArray := if a0.size ≤ 140737488351232 then some ⟨(dec a0.data.toList).toArray⟩ else none
theorem pct_Decode.calls (a0 : ByteArray) (r : ByteArray) (w : World) (h : pct_Decode.f a0 = some r) :
    Calls Try.prog 10 #[.string a0] w fun e w' => e = .returned (.string r) ∧ Below w.heap.size w w' := by
  unfold pct_Decode.f at h
  split at h
  · cases h; exact decode_any a0 w (by assumption)
  · cases h
def pct_Encode.f (a0 : ByteArray) : Option ByteArray := if a0.size ≤ 46912496117077 then some ⟨(enc a0.data.toList).toArray⟩ else none
theorem pct_Encode.calls (a0 : ByteArray) (r : ByteArray) (w : World) (h : pct_Encode.f a0 = some r) :
    Calls Try.prog 12 #[.string a0] w fun e w' => e = .returned (.string r) ∧ Below w.heap.size w w' := by
  unfold pct_Encode.f at h
  split at h
  · cases h; exact encode_any a0 w (by assumption)
  · cases h
def pct_Extended.f (a0 : ByteArray) : Option (ByteArray × ByteArray × Bool) := if a0.size ≤ 140737488351232 then some (⟨(ext a0.data.toList).1.toArray⟩, ⟨(ext a0.data.toList).2.1.toArray⟩, (ext a0.data.toList).2.2) else none
theorem pct_Extended.calls (a0 : ByteArray) (r1 : ByteArray) (r2 : ByteArray) (r3 : Bool) (w : World) (h : pct_Extended.f a0 = some (r1, r2, r3)) :
    Calls Try.prog 14 #[.string a0] w fun e w' => e = .returned (.tuple #[.string r1, .string r2, .bool r3]) ∧ Below w.heap.size w w' := by
  unfold pct_Extended.f at h
  split at h
  · cases h; exact extended_any a0 w (by assumption)
  · cases h
def muslinref03_Small.f (a0 : ByteArray) : Option ByteArray := if a0.size ≤ 140737488351232 then some ⟨(small a0.data.toList).toArray⟩ else none
theorem muslinref03_Small.calls (a0 : ByteArray) (r : ByteArray) (w : World) (h : muslinref03_Small.f a0 = some r) :
    Calls Try.prog 29 #[.string a0] w fun e w' => e = .returned (.string r) ∧ Below w.heap.size w w' := by
  unfold muslinref03_Small.f at h
  split at h
  · cases h; exact small_any a0 w (by assumption)
  · cases h
def muslinref02_Digits.f (a0 : Int) : Option ByteArray := if 0 ≤ a0 ∧ a0 ≤ 255 then some ⟨#[dig (a0.toNat / 16), dig (a0.toNat % 16)]⟩ else none
theorem muslinref02_Digits.calls (a0 : Int) (r : ByteArray) (w : World) (h : muslinref02_Digits.f a0 = some r) :
    Calls Try.prog 27 #[.int .u8 a0] w fun e w' => e = .returned (.string r) ∧ Below w.heap.size w w' := by
  unfold muslinref02_Digits.f at h
  split at h
  · rename_i hb
    cases h
    have := digits_any (UInt8.ofNat a0.toNat) w
    have e : (UInt8.ofNat a0.toNat).toNat = a0.toNat := by rw [UInt8.toNat_ofNat']; omega
    rw [e, Int.toNat_of_nonneg hb.1] at this
    exact this
  · cases h
end Go.Proofs.Ytkiicejnoigmbaa.Pr
