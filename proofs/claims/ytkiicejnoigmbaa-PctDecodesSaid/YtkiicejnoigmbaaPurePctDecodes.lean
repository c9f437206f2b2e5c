/- PctDecodes: the bytes of any text, and any bytes' text, are the document's: for every input, no condition. -/
import Derived.Test.YtkiicejnoigmbaaRefs
namespace Go.Proofs.Ytkiicejnoigmbaa.Pure
open Go.RowKit Go.Proofs.Ytkiicejnoigmbaa.Pr Go.Proofs.YtkiicejnoigmbaaW.PrintWords Go.Proofs.YtkiicejnoigmbaaW.PrintLast Plain

theorem PctDecodes : muslinlaw03_PctDecodes.Pure := by
  intro s hs
  refine ⟨2 * s.size + 5, ?_⟩
  unfold muslinlaw03_PctDecodes.f muslinlaw03_short.f
  simp only [Option.bind_some, decide_eq_true_eq, live_true]
  by_cases h : (s.size : Int) ≤ 5000
  · rw [if_pos h, dec_ref s hs _ (Nat.le_refl _), enc_ref s (by omega) _ (by omega)]
    unfold pct_Decode.f pct_Encode.f
    rw [if_pos hs, if_pos (by omega)]
    simp
  · rw [if_neg h]
end Go.Proofs.Ytkiicejnoigmbaa.Pure
