/- PlainTrees: the plain law. -/
import Derived.Test.YthnbhcmekkadeaaPureLive
import Derived.Test.YthnbhcmekkadeaaPureRefRows
import Derived.Test.YthnbhcmekkadeaaPrx7
set_option linter.unusedVariables false
set_option linter.unusedSimpArgs false
namespace Go.Proofs.Ythnbhcmekkadeaa.Pure
open Go Go.RowKit Go.Proofs.Ythnbhcmekkadeaa.Pr Go.Proofs.YthnbhcmekkadeaaW.PrintWords Go.Proofs.YthnbhcmekkadeaaW.PrintLast Plain

theorem PlainTrees : muslinlaw20_PlainTrees.Pure := by
  intro a0 _
  apply Ev.ex (f := fun k => muslinlaw20_PlainTrees.f k a0)
  simp only [muslinlaw20_PlainTrees.f]
  by_cases h : (a0.size : Int) > 3000
  · exact .ifp h liveb
  · refine .ifn h ?_
    have hs : a0.data.toList.length ≤ 3000 := by rw [← Lib.size_eq]; omega
    rw [B_of a0]
    generalize a0.data.toList = s at *
    refine .bind (plainLevel s) (.bind (refLevel s (by omega)) (.bind (plainTree s (by omega)) (.bind (refTree s (by omega)) (.bind (same_refl 22 _ (treeL_fit s (by omega))) (.ifp (by trivial) (.ifp (by trivial) (.ifp (by trivial) liveb)))))))
end Go.Proofs.Ythnbhcmekkadeaa.Pure
