/- FoldOnce: the plain law. -/
import Derived.Test.YtdgdilbbpnlplaaDoorPureFold
import Derived.Test.YtdgdilbbpnlplaaDoorPrx9
set_option linter.unusedVariables false
set_option linter.unusedSimpArgs false
namespace Go.Proofs.YtdgdilbbpnlplaaDoor.Pure
open Go Go.RowKit Go.Proofs.YtdgdilbbpnlplaaDoor.Pr Go.Proofs.YtdgdilbbpnlplaaDoorW.PrintWords Go.Proofs.YtdgdilbbpnlplaaDoorW.PrintLast
theorem law_once (l : List S32) : Ev (fun k => muslinlaw21_FoldOnce.f k l) true := by
  simp only [muslinlaw21_FoldOnce.f]
  refine .bind (small_ev l) ?_
  cases hs : small l with
  | false => exact .ifn (by simp) (.bindc rfl (.of rfl))
  | true =>
    obtain ⟨hf, hl⟩ := small_fit hs
    have h100 : fit 100 l = true := fit_le hf 65
    have hff : fit 100 (foldL l) = true := fit_le (fit_fold hf (by omega)) 64
    refine .ifp (by trivial) (.bindc (fold_f h100) (.bindc (where_f hff) ?_))
    have hw := fold_where l
    have h2 := fold_same hw
    refine .ifn (by rw [hw]; simp) (.bindc (fold_f hff) ?_)
    rw [h2]
    exact .bind (same_ev hff) (.ifp (by trivial) (.bindc rfl (.of rfl)))
theorem FoldOnce (l : List S32) : ∃ k, muslinlaw21_FoldOnce.f k l = some true := (law_once l).ex
end Go.Proofs.YtdgdilbbpnlplaaDoor.Pure
