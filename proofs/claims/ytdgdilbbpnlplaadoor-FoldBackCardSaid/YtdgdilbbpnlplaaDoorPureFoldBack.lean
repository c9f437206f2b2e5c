/- FoldBack: the plain law. -/
import Derived.Test.YtdgdilbbpnlplaaDoorPureFold
import Derived.Test.YtdgdilbbpnlplaaDoorPrx8
set_option linter.unusedVariables false
set_option linter.unusedSimpArgs false
namespace Go.Proofs.YtdgdilbbpnlplaaDoor.Pure
open Go Go.RowKit Go.Proofs.YtdgdilbbpnlplaaDoor.Pr Go.Proofs.YtdgdilbbpnlplaaDoorW.PrintWords Go.Proofs.YtdgdilbbpnlplaaDoorW.PrintLast
theorem law_back (l : List S32) : Ev (fun k => muslinlaw21_FoldBack.f k l) true := by
  simp only [muslinlaw21_FoldBack.f]
  refine .bind (small_ev l) ?_
  cases hs : small l with
  | false => exact .ifn (by simp) (.bindc rfl (.of rfl))
  | true =>
    obtain ⟨hf, hl⟩ := small_fit hs
    have h100 : fit 100 l = true := fit_le hf 65
    have hff : fit 100 (foldL l) = true := fit_le (fit_fold hf (by omega)) 64
    refine .ifp (by trivial) (.bindc (where_f h100) (.bindc (fold_f h100) ?_))
    cases hw : (whereL l).2 with
    | false =>
      rw [fold_same hw]
      exact .ifn (by simp) (.bind (same_ev h100) (.ifp (by trivial) (.bindc rfl (.of rfl))))
    | true =>
      refine .ifp (by trivial) (.bindc (open_f hff) ?_)
      rw [open_fold hw]
      exact .bind (same_ev h100) (.ifp (by trivial) (.bindc rfl (.of rfl)))
theorem FoldBack (l : List S32) : ∃ k, muslinlaw21_FoldBack.f k l = some true := (law_back l).ex
end Go.Proofs.YtdgdilbbpnlplaaDoor.Pure
