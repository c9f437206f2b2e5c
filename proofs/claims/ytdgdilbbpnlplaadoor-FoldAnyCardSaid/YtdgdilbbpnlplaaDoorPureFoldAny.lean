/- FoldAny: the plain law. -/
import Derived.Test.YtdgdilbbpnlplaaDoorPureFold
import Derived.Test.YtdgdilbbpnlplaaDoorPrx6
set_option linter.unusedVariables false
set_option linter.unusedSimpArgs false
namespace Go.Proofs.YtdgdilbbpnlplaaDoor.Pure
open Go Go.RowKit Go.Proofs.YtdgdilbbpnlplaaDoor.Pr Go.Proofs.YtdgdilbbpnlplaaDoorW.PrintWords Go.Proofs.YtdgdilbbpnlplaaDoorW.PrintLast
theorem refFold (l : List S32) (h : fit 100 l = true) : Ev (fun k => muslinref21_Fold.f k l) (foldL l) := by
  have hlen := fit_len h
  simp only [muslinref21_Fold.f]
  refine .bind (refWhere l (szd_fit h)) (.bind (.of (copy_ev h 0)) ?_)
  cases hw : (whereL l).2 with
  | false =>
    rw [fold_same hw]
    exact .ifn (by simp) (.of rfl)
  | true =>
    obtain ⟨k, _, hk, _, he⟩ := where_of hw
    obtain ⟨e1, e2⟩ := fold_len he hk
    rw [he, e1]
    simp only [Int.toNat_natCast]
    refine .ifp (by trivial) (.ifp (by omega) (.ifp (by omega) (.bindc rfl (.ifp (by simp; omega) (.bindc rfl (.ifp (by simp; omega) (.bindc rfl (.ifp (by simp; omega) (.of ?_)))))))))
    rw [List.nil_append, List.nil_append]
    rfl
theorem law_any (l : List S32) : Ev (fun k => muslinlaw21_FoldAny.f k l) true := by
  simp only [muslinlaw21_FoldAny.f]
  refine .bind (small_ev l) ?_
  cases hs : small l with
  | false => exact .ifn (by simp) (.bindc rfl (.of rfl))
  | true =>
    obtain ⟨hf, hl⟩ := small_fit hs
    have h100 : fit 100 l = true := fit_le hf 65
    have hff : fit 100 (foldL l) = true := fit_le (fit_fold hf (by omega)) 64
    have hof := same_refl 100 (openL l) (Fit_open h100)
    refine .ifp (by trivial) (.bind (.of (copy_ev h100 0)) (.bindc (where_f h100) (.bind (refWhere l (szd_fit h100)) (.ifp rfl (.ifp (by simp) ?_)))))
    refine .bindc (fold_f h100) (.bind (refFold l h100) (.bind (same_ev hff) (.ifp (by trivial) ?_)))
    refine .bindc (open_f h100) (.bindc (openR_f h100) (.bind hof (.ifp (by trivial) ?_)))
    exact .bind (same_ev h100) (.ifp (by trivial) (.bindc rfl (.of rfl)))
theorem FoldAny (l : List S32) : ∃ k, muslinlaw21_FoldAny.f k l = some true := (law_any l).ex
end Go.Proofs.YtdgdilbbpnlplaaDoor.Pure
