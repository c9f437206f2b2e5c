/- PctSizes: what is encoded has no fewer bytes, and at most three times as many; what is decoded no more: for every input, no condition. -/
import Derived.Test.YtkiicejnoigmbaaRefs
import Derived.Test.YtkiicejnoigmbaaPrx4
namespace Go.Proofs.Ytkiicejnoigmbaa.Pure
open Go.RowKit Go.Proofs.Ytkiicejnoigmbaa.Pr Go.Proofs.YtkiicejnoigmbaaW.PrintWords Go.Proofs.YtkiicejnoigmbaaW.PrintLast Plain

theorem PctSizes : muslinlaw03_PctSizes.Pure := by
  intro s hs
  unfold muslinlaw03_PctSizes.f muslinlaw03_short.f
  simp only [Option.bind_some, decide_eq_true_eq, live_true]
  by_cases h : (s.size : Int) ≤ 5000
  · rw [if_pos h]
    unfold pct_Decode.f pct_Encode.f
    rw [if_pos hs, if_pos (by omega)]
    simp only [Option.bind_some]
    have h1 := enc_len s.data.toList
    have h2 := dec_len _ s.data.toList (Nat.le_refl _)
    have e1 : (⟨(enc s.data.toList).toArray⟩ : ByteArray).size = (enc s.data.toList).length := by simp [ByteArray.size]
    have e2 : (⟨(dec s.data.toList).toArray⟩ : ByteArray).size = (dec s.data.toList).length := by simp [ByteArray.size]
    have e3 : s.data.toList.length = s.size := by simp
    rw [e1, e2, w64 (by omega) (by omega), w64 (by omega) (by omega), if_pos (by omega), if_pos (by omega), if_pos (by omega), if_pos (by omega)]
  · rw [if_neg h]
end Go.Proofs.Ytkiicejnoigmbaa.Pure
