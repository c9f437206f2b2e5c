/- FoldAny, FoldBack, FoldOnce: the plain laws. -/
import Derived.Test.YtdgdilbbpnlplaaDoorPureWhere
import Derived.Test.YtdgdilbbpnlplaaDoorGiven
set_option linter.unusedVariables false
set_option linter.unusedSimpArgs false
namespace Go.Proofs.YtdgdilbbpnlplaaDoor.Pure
open Go Go.RowKit Go.Proofs.YtdgdilbbpnlplaaDoor.Pr Go.Proofs.YtdgdilbbpnlplaaDoorW.PrintWords Go.Proofs.YtdgdilbbpnlplaaDoorW.PrintLast
theorem copy_ev {l : List S32} (h : fit 100 l = true) (k : Nat) : muslinref14_Copy.f k l = some l := by unfold muslinref14_Copy.f; rw [if_pos h]
theorem where_f {l : List S32} (h : fit 100 l = true) : fold_Where.f l = some (whereL l) := by unfold fold_Where.f; rw [if_pos h]
theorem fold_f {l : List S32} (h : fit 100 l = true) : fold_Fold.f l = some (foldL l) := by unfold fold_Fold.f; rw [if_pos h]
theorem open_f {l : List S32} (h : fit 100 l = true) : fold_Open.f l = some (openL l) := by unfold fold_Open.f; rw [if_pos h]
theorem openR_f {l : List S32} (h : fit 100 l = true) : muslinref21_Open.f l = some (openL l) := by unfold muslinref21_Open.f; rw [if_pos h]
theorem same_ev {d : Nat} {l : List S32} (h : fit d l = true) : Ev (fun k => muslinref14_Same.f k l l) true := same_refl d l (fitP d l h)
theorem Fit_open {d : Nat} {l : List S32} (h : fit (d + 1) l = true) : Fit (d + 1) (openL l) := by
  unfold openL
  split
  · exact fitP _ _ h
  · rename_i h0
    split
    · obtain ⟨h1, h2⟩ := fit_elem h
      have hm : lastN l ∈ l := by unfold lastN; rw [getD_get (by omega)]; exact List.getElem_mem _
      have h3 := fit_len (h2 _ hm).2.2
      refine ⟨by rw [List.length_append, List.length_take]; omega, fun x hx => ?_⟩
      rcases List.mem_append.1 hx with hx | hx
      · obtain ⟨g1, _, g3⟩ := h2 x (List.mem_of_mem_take hx)
        exact ⟨by omega, fitP _ _ g3⟩
      · obtain ⟨g1, _, g3⟩ := (fit_elem (fit_up _ _ (h2 _ hm).2.2)).2 x hx
        exact ⟨by omega, fitP _ _ g3⟩
    · exact fitP _ _ h
end Go.Proofs.YtdgdilbbpnlplaaDoor.Pure
