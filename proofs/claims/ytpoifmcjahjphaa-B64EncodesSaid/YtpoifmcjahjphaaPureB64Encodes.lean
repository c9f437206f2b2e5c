/- B64Encodes: any bytes' letters, with and without line ends between, are the reference's: for every input, no condition. -/
import Derived.Test.YtpoifmcjahjphaaPureRefEnc
set_option linter.unusedVariables false
namespace Go.Proofs.Ytpoifmcjahjphaa.Pure
open Go Go.RowKit Go.Proofs.Ytpoifmcjahjphaa.Pr Go.Proofs.YtpoifmcjahjphaaW.PrintWords Go.Proofs.YtpoifmcjahjphaaW.PrintLast

theorem B64Encodes : muslinlaw01_B64Encodes.Pure := by
  intro s w hs hw
  obtain ⟨l, rfl⟩ : ∃ l, s = B l := ⟨_, B_of s⟩
  rw [B_size] at hs
  have hw' := wf_i64 hw
  refine Ev.ex ?_
  unfold muslinlaw01_B64Encodes.f
  refine Ev.bindc (short_f l) ?_
  by_cases h : l.length ≤ 5000
  · exact Ev.ifp (decide_eq_true h) (Ev.bindc (enc_f l (by omega)) (Ev.bind (enc_ref l (by omega)) (Ev.ifp rfl (Ev.bind (wrap_ev l w (by omega) hw'.2) (Ev.bind (wrap_ref l w (by omega) hw'.2) (Ev.ifp rfl (Ev.bind live_ev (Ev.pure _))))))))
  · exact Ev.ifn (by simpa using h) (Ev.bind live_ev (Ev.pure _))
end Go.Proofs.Ytpoifmcjahjphaa.Pure
