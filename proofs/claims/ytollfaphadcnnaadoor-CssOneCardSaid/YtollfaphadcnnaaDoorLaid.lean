/- What the rows' laid condition gives the walks: the names' variable. -/
import Derived.Test.YtollfaphadcnnaaDoorSafe
import Derived.Test.YtollfaphadcnnaaDoorRows
import Derived.Deep.Slices
import Derived.FnData
import Derived.MakeChecks
set_option linter.unusedVariables false
namespace Go.Proofs.YtollfaphadcnnaaDoor
open Go Go.RowKit
theorem gNames : Tryd.prog.globalNamed "muslin/css.names" = some 0 := by kernel_rfl
theorem tNames : (Tryd.prog.globals[0]?).map (·.type) = some 35 := by kernel_rfl
theorem lits_eq : (Rows.laid_muslin_css_names : DataW Unit) = .slice ((List.range 38).map fun i => .lit (.string (nmAt i).data.toList)) [] := by rfl
theorem nm_of_laid {W : World} (h : laidMetH Tryd.prog Rows.cssSafeRow.laid W) : NmAt W := by
  rw [MakeChecks.laidMetH_plain _ _ _ (by kernel_rfl)] at h
  obtain ⟨ps, ⟨g0, t0, cs0, f0, p0, q0, hg0, ht0, hv0, hd0, ⟨g1, t1, cs1, f1, p1, q1, hg1, ht1, hv1, hd1, _, _⟩, _⟩, _, _⟩ := h
  obtain rfl := Option.some.inj (gNames.symm.trans hg1)
  obtain rfl := Option.some.inj (tNames.symm.trans ht1)
  rw [lits_eq] at hd1
  rcases Go.Deep.open_slice1 Tryd.underlying35 (by kernel_rfl) hd1 with ⟨_, hx⟩ | ⟨a, len, cap, m, n, V, D, Pl, hcs, hb, hl, hm, hmm, hx, hcell⟩
  · cases hx
  · simp only [Prod.mk.injEq, DataW.slice.injEq] at hx
    obtain ⟨⟨hx1, _⟩, _⟩ := hx
    have hlen : len = 38 := by
      have := congrArg List.length hx1
      simpa using this.symm
    subst hlen
    have hm38 : 38 ≤ m := by rw [hmm]; split <;> omega
    have hV : ∀ j, j < 38 → W.cell? (a.add j) = some (.string (nmAt j)) := fun j hj => by
      obtain ⟨h1, h2⟩ := hcell j (by omega)
      obtain ⟨s, hs1, hs2, _⟩ := DataW.trod_string Tryd.underlying9 h2
      have e1 : V j = .string s := by simpa using hs1
      have e2 : D j = .lit (.string s.data.toList) := (Prod.mk.inj hs2).1
      have e3 := congrArg (fun l : List (DataW Unit) => l[j]?) hx1
      simp only [List.getElem?_map, List.getElem?_range hj, Option.map_some, Option.some.injEq] at e3
      rw [e2] at e3
      injection e3 with e3
      injection e3 with e3
      have e4 : s = nmAt j := by
        rw [← Lib.mk_data s, ← Lib.mk_data (nmAt j), e3]
      rw [h1, e1, e4]
    have hsp : a.spot = none := by
      have h0 := hV 0 (by omega)
      have ha : a.add 0 = a := rfl
      rw [ha] at h0
      unfold World.cell? at h0
      split at h0
      · split at h0
        · cases h0
        · rename_i hno; cases hq : a.spot with
          | none => rfl
          | some _ => rw [hq] at hno; exact absurd rfl hno
      · cases h0
    have ha : a = ⟨a.block, a.off, none⟩ := by
      obtain ⟨b, o, sp⟩ := a
      simp only at hsp
      rw [hsp]
    have hg : W.cell? ⟨0, 0, none⟩ = some (.slice (some a) 38 cap) := by
      have := World.var?_cell hg1 hv1 0
      rw [this]
      obtain ⟨l1⟩ := cs1
      simp only at hcs
      rw [hcs]; rfl
    refine ⟨a.block, a.off, cap, by rw [hg, ← ha], fun j hj => ?_, World.block_lt_of_cell? W ⟨a.block, a.off, none⟩ (u := .string (nmAt 0)) ?_, World.block_lt_of_cell? W ⟨0, 0, none⟩ hg⟩
    · have := hV j hj
      rw [ha, Addr.add_lit] at this
      exact this
    · have := hV 0 (by omega)
      rw [ha, Addr.add_lit, Nat.add_zero] at this
      exact this
end Go.Proofs.YtollfaphadcnnaaDoor
