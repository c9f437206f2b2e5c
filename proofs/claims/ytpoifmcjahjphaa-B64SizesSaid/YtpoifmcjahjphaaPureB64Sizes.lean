/- B64Sizes: of three bytes there are four letters, and as many of what is left; what is decoded has at most three quarters: for every input, no condition. -/
import Derived.Test.YtpoifmcjahjphaaPureB64
import Derived.Test.YtpoifmcjahjphaaPrx2
set_option linter.unusedVariables false
namespace Go.Proofs.Ytpoifmcjahjphaa.Pure
open Go Go.RowKit Go.Proofs.Ytpoifmcjahjphaa.Pr Go.Proofs.YtpoifmcjahjphaaW.PrintWords Go.Proofs.YtpoifmcjahjphaaW.PrintLast

theorem B64Sizes : muslinlaw01_B64Sizes.Pure := by
  intro s hs
  obtain ⟨l, rfl⟩ : ∃ l, s = B l := ⟨_, B_of s⟩
  rw [B_size] at hs
  refine Ev.ex ?_
  unfold muslinlaw01_B64Sizes.f
  refine Ev.bindc (short_f l) ?_
  by_cases h : l.length ≤ 5000
  · refine Ev.ifp (decide_eq_true h) (Ev.bindc (enc_f l (by omega)) ?_)
    have h1 := encB_len l
    have h2 := decB_len l
    refine Ev.ifp ?_ (Ev.bindc (dec_f l (by omega)) (Ev.ifp ?_ (Ev.bind live_ev (Ev.pure _))))
    · rw [B_size, B_size, w64 (i := (l.length : Int) + 2) (by omega) (by omega), Int.tdiv_eq_ediv_of_nonneg (by omega), w64 (i := ((l.length : Int) + 2) / 3) (by omega) (by omega), w64 (by omega) (by omega)]; omega
    · rw [B_size, B_size, w64 (i := (l.length : Int) * 3) (by omega) (by omega), Int.tdiv_eq_ediv_of_nonneg (by omega), w64 (by omega) (by omega)]; omega
  · exact Ev.ifn (by simpa using h) (Ev.bind live_ev (Ev.pure _))
end Go.Proofs.Ytpoifmcjahjphaa.Pure
