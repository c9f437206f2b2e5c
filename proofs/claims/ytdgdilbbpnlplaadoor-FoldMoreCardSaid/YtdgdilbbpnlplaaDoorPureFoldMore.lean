/- FoldMore: the plain law. -/
import Derived.Test.YtdgdilbbpnlplaaDoorPureWhere
import Derived.Test.YtdgdilbbpnlplaaDoorMore
set_option linter.unusedVariables false
namespace Go.Proofs.YtdgdilbbpnlplaaDoor.Pure
open Go Go.RowKit Go.Proofs.YtdgdilbbpnlplaaDoor.Pr
theorem law_more (l : List S32) : Ev (fun k => muslinlaw21_FoldMore.f k l) true := by
  simp only [muslinlaw21_FoldMore.f]
  refine .bind (small_ev l) ?_
  cases hs : small l with
  | false => exact .ifp rfl (.of rfl)
  | true => exact .ifp (by rw [fit_le (small_fit hs).1 65]; rfl) (.of rfl)
theorem FoldMore (l : List S32) : ∃ k, muslinlaw21_FoldMore.f k l = some true := (law_more l).ex
end Go.Proofs.YtdgdilbbpnlplaaDoor.Pure
