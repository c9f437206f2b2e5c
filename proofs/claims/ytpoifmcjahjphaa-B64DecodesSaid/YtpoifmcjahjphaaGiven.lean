/- The functions that are proved by hand, in the form in which the printed texts call them. -/
import Derived.Test.YtpoifmcjahjphaaDec
set_option linter.unusedVariables false
set_option linter.unusedSimpArgs false
namespace Go.Proofs.Ytpoifmcjahjphaa.Pr
open Go.RowKit Go.Proofs.YtpoifmcjahjphaaW.PrintWords Go.Proofs.YtpoifmcjahjphaaW.PrintLast Go.Proofs.YtpoifmcjahjphaaW.PrintMore

def b64_Encode.f (a0 : ByteArray) : Option ByteArray := if a0.size ≤ 1000000 then some ⟨(encB a0.data.toList).toArray⟩ else none
theorem b64_Encode.calls (a0 : ByteArray) (r : ByteArray) (w : World) (h : b64_Encode.f a0 = some r) :
    Calls Try.prog 11 #[.string a0] w fun e w' => e = .returned (.string r) ∧ Below w.heap.size w w' := by
  unfold b64_Encode.f at h
  split at h
  · cases h; exact encode_any a0 w (by assumption)
  · cases h
def b64_Decode.f (a0 : ByteArray) : Option ByteArray := if a0.size ≤ 1000000 then some ⟨(decB a0.data.toList).toArray⟩ else none
theorem b64_Decode.calls (a0 : ByteArray) (r : ByteArray) (w : World) (h : b64_Decode.f a0 = some r) :
    Calls Try.prog 15 #[.string a0] w fun e w' => e = .returned (.string r) ∧ Below w.heap.size w w' := by
  unfold b64_Decode.f at h
  split at h
  · cases h; exact decode_any a0 w (by assumption)
  · cases h
def strings_Join.f (l0 : List ByteArray) (a1 : ByteArray) : Option ByteArray :=
  if l0.length ≤ 1000000 ∧ (Lib.join (l0.map (·.data.toList)) a1.data.toList).length ≤ 140737488355328 then some ⟨(Lib.join (l0.map (·.data.toList)) a1.data.toList).toArray⟩ else none
theorem strings_Join.calls (A0 : Option Addr) (c0 : Nat) (l0 : List ByteArray) (a1 : ByteArray) (r : ByteArray) (w : World) (hr0 : Kd.C Kd.string w A0 l0.length l0) (hc0 : l0.length ≤ c0) (h : strings_Join.f l0 a1 = some r) :
    Calls Try.prog 23 #[.slice A0 l0.length c0, .string a1] w fun e w' => e = .returned (.string r) ∧ Below w.heap.size w w' := by
  unfold strings_Join.f at h
  split at h
  · rename_i hk
    cases h
    rcases Nat.eq_zero_or_pos l0.length with h0 | h0
    · obtain rfl : l0 = [] := List.eq_nil_of_length_eq_zero h0
      refine (Try.strings_Join_none A0 c0 a1 w).mono ?_
      rintro e w' ⟨rfl, rfl⟩
      exact ⟨rfl, Below.refl _ _⟩
    · obtain ⟨ad, rfl, hc⟩ := hr0.2.2 h0
      have hcell : ∀ (j : Nat) x, l0[j]? = some x → w.cell? (ad.add j) = some (.string x) := by
        intro j x hx
        obtain ⟨c, hl, hK, hcc⟩ := hc j x hx
        have : c = [.string x] := hK
        subst this
        have := hcc 0 (.string x) rfl
        simpa [Kd.string, Kd.scalar] using this
      obtain ⟨bk, o, sp⟩ := ad
      have h00 := hcell 0 l0[0] (List.getElem?_eq_getElem h0)
      have hsp : sp = none := by
        unfold World.cell? Addr.add at h00
        simp only [if_true] at h00
        cases sp with
        | none => rfl
        | some q => revert h00; cases w.heap[bk]? with
          | none => simp
          | some ob => cases ob <;> simp
      subst hsp
      have hbk : bk < w.heap.size := World.block_lt_of_cell? w _ h00
      refine (Try.strings_Join bk o c0 l0 a1 w (fun j x hx => ?_) hbk (by omega) hc0 hk.2).mono ?_
      · have := hcell j x hx
        unfold Addr.add at this
        by_cases hj : j = 0
        · subst hj; simpa using this
        · simpa [hj] using this
      rintro e w' ⟨rfl, hb⟩
      exact ⟨rfl, hb⟩
  · cases h
end Go.Proofs.Ytpoifmcjahjphaa.Pr
