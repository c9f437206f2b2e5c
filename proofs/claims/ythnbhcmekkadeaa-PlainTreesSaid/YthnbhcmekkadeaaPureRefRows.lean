/- The tree of a plain text, as the reference tells it. -/
import Derived.Test.YthnbhcmekkadeaaPureRows
import Derived.Test.YthnbhcmekkadeaaPureRefLev
import Derived.Test.YthnbhcmekkadeaaPureRefCut
import Derived.Test.YthnbhcmekkadeaaPrx7
set_option linter.unusedVariables false
set_option linter.unusedSimpArgs false
namespace Go.Proofs.Ythnbhcmekkadeaa.Pure
open Go Go.RowKit Go.Proofs.Ythnbhcmekkadeaa.Pr Go.Proofs.YthnbhcmekkadeaaW.PrintWords Go.Proofs.YthnbhcmekkadeaaW.PrintLast Plain
/-! ### The reference's -/
theorem qNode_eq (kids : List S36) : (⟨(⟨#[98, 108, 111, 99, 107, 113, 117, 111, 116, 101]⟩ : ByteArray), ([] : List (S51)), (⟨#[]⟩ : ByteArray), kids⟩ : S36) = qNode kids := rfl
theorem rowsGo_nil0 (q : List S44 → List S36) (lv : Int) : rowsGo q lv ([] : List S44).length [] = [] := rfl
section
variable (L : List (List UInt8)) (hL : L.length ≤ 100000) (hl : ∀ x ∈ L, x.length ≤ 4611686018427387904) (d : Nat) (lv : Nat) (hlv : lv + d = 20)
include hL hl hlv
theorem refRows_l1 (hq : ∀ _ : Nat, 1 ≤ d → ∀ M : List (List UInt8), M.length ≤ L.length → (∀ x ∈ M, x ∈ L) → Ev (fun k => muslinref20_rows.f k (Pr.bytesOf M) ((lv + 1 : Nat) : Int)) (inner d lv (M.map mkRow)))
    (out : List S36) (i : Nat) (V : List S36) (ho : out.length ≤ 1000000) (hi : i < L.length) (hlead : 1 ≤ lead lv ((L.drop i).map mkRow))
    (hnext : Ev (fun k => muslinref20_rows.l0 k (Pr.bytesOf L) (lv : Int) (out ++ [qNode (inner d lv (((L.drop i).map mkRow).take (lead lv ((L.drop i).map mkRow))))]) ((i + lead lv ((L.drop i).map mkRow) : Nat) : Int)) V) :
    ∀ (e j : Nat), j + e = lead lv ((L.drop i).map mkRow) → Ev (fun k => muslinref20_rows.l1 k (Pr.bytesOf L) (lv : Int) out (i : Int) ((i + j : Nat) : Int)) V := by
  have hle := lead_le (lv : Int) ((L.drop i).map mkRow)
  simp only [List.length_map, List.length_drop] at hle
  have hgt : ∀ (l : List S44) (m : Nat), m < lead (lv : Int) l → ∃ x, l[m]? = some x ∧ (lv : Int) < x.f0 := by
    intro l
    induction l with
    | nil => intro m h; simp [lead] at h
    | cons x r ih =>
      intro m h
      unfold lead at h
      by_cases hx : (lv : Int) < x.f0
      · rw [if_pos hx] at h
        cases m with
        | zero => exact ⟨x, rfl, hx⟩
        | succ m => exact ih m (by omega)
      · rw [if_neg hx] at h; omega
  have hstop : ∀ (l : List S44), lead (lv : Int) l < l.length → ∃ x, l[lead (lv : Int) l]? = some x ∧ x.f0 ≤ (lv : Int) := by
    intro l
    induction l with
    | nil => intro h; simp at h
    | cons x r ih =>
      intro h
      unfold lead at h ⊢
      by_cases hx : (lv : Int) < x.f0
      · rw [if_pos hx] at h ⊢
        simp only [List.length_cons] at h
        obtain ⟨y, hy⟩ := ih (by omega)
        exact ⟨y, by simpa using hy.1, hy.2⟩
      · rw [if_neg hx]
        exact ⟨x, rfl, by omega⟩
  have hd1 : 1 ≤ d := by
    obtain ⟨x, hx, hx2⟩ := hgt _ 0 hlead
    have hm := List.mem_of_getElem? hx
    obtain ⟨y, _, rfl⟩ := List.mem_map.1 hm
    have := mkRow_le y
    omega
  have hget : ∀ j, i + j < L.length → ((L.drop i).map mkRow)[j]? = some (mkRow (L.getD (i + j) [])) := by
    intro j hj
    rw [List.getElem?_map, List.getElem?_drop, List.getD_eq_getElem?_getD, List.getElem?_eq_getElem hj]; rfl
  have hwr : wrap64 ((lv : Int) + 1) = ((lv + 1 : Nat) : Int) := by rw [w64 (by omega) (by omega)]; omega
  have hkids (j : Nat) (hj : j = lead lv ((L.drop i).map mkRow)) : ((Pr.bytesOf L).take ((i + j : Nat) : Int).toNat).drop ((i : Int)).toNat = Pr.bytesOf ((L.drop i).take j) := by
    rw [Int.toNat_natCast, Int.toNat_natCast]
    unfold Pr.bytesOf
    rw [← List.map_take, ← List.map_drop, List.drop_take, Nat.add_sub_cancel_left]
  have fin (j : Nat) (hj : j = lead lv ((L.drop i).map mkRow)) : Ev (fun k => if 0 ≤ (i : Int) then (if (i : Int) ≤ ((i + j : Nat) : Int) then (if ((i + j : Nat) : Int) ≤ ((Pr.bytesOf L).length : Int) then ((muslinref20_rows.f k (((Pr.bytesOf L).take ((i + j : Nat) : Int).toNat).drop ((i : Int)).toNat) (wrap64 ((lv : Int) + 1))).bind fun t181 => (if out.length < 1759218604441 then (muslinref20_rows.l0 k (Pr.bytesOf L) (lv : Int) (out ++ [(⟨(⟨#[98, 108, 111, 99, 107, 113, 117, 111, 116, 101]⟩ : ByteArray), ([] : List (S51)), (⟨#[]⟩ : ByteArray), t181⟩ : S36)]) ((i + j : Nat) : Int)) else (none))) else (none)) else (none)) else none) V := by
    refine .ifp (by omega) (.ifp (by omega) (.ifp (by rw [bytesOf_len]; omega) ?_))
    rw [hkids j hj, hwr]
    refine .bind (hq 0 hd1 _ (by rw [List.length_take, List.length_drop]; omega) (fun x hx => List.mem_of_mem_drop (List.mem_of_mem_take hx))) (.ifp (by omega) ?_)
    rw [qNode_eq, List.map_take, hj]
    exact hnext
  intro e
  induction e with
  | zero =>
    intro j hj
    rw [Nat.add_zero] at hj
    refine .succ ?_
    simp only [muslinref20_rows.l1]
    by_cases hlt : i + j < L.length
    · refine .ifp (by rw [bytesOf_len]; omega) (.ifp (by omega) ?_)
      rw [rd_bytes L _ hlt]
      refine .bind (refLevel _ (hl _ (getL_mem L _ hlt))) (.ifp ?_ (fin j hj))
      obtain ⟨x, hx, hx2⟩ := hstop ((L.drop i).map mkRow) (by rw [← hj]; simp; omega)
      rw [← hj, hget j hlt] at hx
      cases hx
      exact hx2
    · exact .ifn (by rw [bytesOf_len]; omega) (fin j hj)
  | succ e ih =>
    intro j hj
    refine .succ ?_
    simp only [muslinref20_rows.l1]
    have hlt : i + j < L.length := by omega
    refine .ifp (by rw [bytesOf_len]; omega) (.ifp (by omega) ?_)
    rw [rd_bytes L _ hlt]
    refine .bind (refLevel _ (hl _ (getL_mem L _ hlt))) (.ifn ?_ ?_)
    · obtain ⟨x, hx, hx2⟩ := hgt ((L.drop i).map mkRow) j (by omega)
      rw [hget j hlt] at hx
      cases hx
      exact fun h => by have h2 : (mkRow (L.getD (i + j) [])).f0 ≤ (lv : Int) := h; omega
    · have e1 : wrap64 (((i + j : Nat) : Int) + 1) = ((i + (j + 1) : Nat) : Int) := by rw [w64 (by omega) (by omega)]; omega
      rw [e1]
      exact ih (j + 1) (by omega)
theorem refRows_l0 (hq : ∀ _ : Nat, 1 ≤ d → ∀ M : List (List UInt8), M.length ≤ L.length → (∀ x ∈ M, x ∈ L) → Ev (fun k => muslinref20_rows.f k (Pr.bytesOf M) ((lv + 1 : Nat) : Int)) (inner d lv (M.map mkRow))) :
    ∀ (n i : Nat) (out : List S36), L.length - i ≤ n → i ≤ L.length → out.length + 2 * (L.length - i) ≤ 1000000 →
    Ev (fun k => muslinref20_rows.l0 k (Pr.bytesOf L) (lv : Int) out (i : Int)) (out ++ rowsGo (inner d lv) lv ((L.drop i).map mkRow).length ((L.drop i).map mkRow)) := by
  intro n
  induction n with
  | zero =>
    intro i out hn hi ho
    refine .succ ?_
    simp only [muslinref20_rows.l0]
    refine .ifn (by rw [bytesOf_len]; omega) (.of ?_)
    rw [List.drop_eq_nil_of_le (by omega)]
    simp [rowsGo]
  | succ n ih =>
    intro i out hn hi ho
    refine .succ ?_
    simp only [muslinref20_rows.l0]
    by_cases hlt : i < L.length
    · refine .ifp (by rw [bytesOf_len]; omega) (.ifp (by omega) ?_)
      rw [rd_bytes L _ hlt]
      refine .bind (refLevel _ (hl _ (getL_mem L _ hlt))) ?_
      have hdr := dropL L i hlt
      generalize hx : L.getD i [] = x at *
      have hlevel : (((levL 20 x).1 : Nat) : Int) = (mkRow x).f0 := rfl
      by_cases hc : (mkRow x).f0 ≤ (lv : Int)
      · refine .ifp (by rw [hlevel]; exact hc) ?_
        have hgo : rowsGo (inner d lv) lv ((L.drop i).map mkRow).length ((L.drop i).map mkRow) = txts (mkRow x).f1 ++ brks lv ((L.drop (i + 1)).map mkRow) ++ rowsGo (inner d lv) lv ((L.drop (i + 1)).map mkRow).length ((L.drop (i + 1)).map mkRow) := by
          rw [hdr, List.map_cons, rowsGo_line _ _ _ _ (by omega)]
        have e1 : wrap64 ((i : Int) + 1) = ((i + 1 : Nat) : Int) := by rw [w64 (by omega) (by omega)]; omega
        have hj (o : List S36) (hol : o.length + 1 + 2 * (L.length - (i + 1)) ≤ 1000000) : Ev (fun k => muslinref20_rows.j1 k (Pr.bytesOf L) (lv : Int) o (i : Int)) (o ++ brks lv ((L.drop (i + 1)).map mkRow) ++ rowsGo (inner d lv) lv ((L.drop (i + 1)).map mkRow).length ((L.drop (i + 1)).map mkRow)) := by
          refine .succ ?_
          simp only [muslinref20_rows.j1]
          rw [e1]
          by_cases h2 : i + 1 < L.length
          · refine .ifp (by rw [bytesOf_len]; omega) (.ifp (by omega) ?_)
            rw [rd_bytes L _ h2]
            refine .bind (refLevel _ (hl _ (getL_mem L _ h2))) ?_
            have hdr2 := dropL L (i + 1) h2
            generalize hy : L.getD (i + 1) [] = y at *
            have hly : (((levL 20 y).1 : Nat) : Int) = (mkRow y).f0 := rfl
            by_cases hc2 : (mkRow y).f0 ≤ (lv : Int)
            · have hb : brks lv ((L.drop (i + 1)).map mkRow) = [bNode] := by rw [hdr2, List.map_cons]; show (if (mkRow y).f0 ≤ (lv : Int) then [bNode] else []) = _; rw [if_pos hc2]
              refine .ifp (by rw [hly]; exact hc2) (.ifp (by omega) ?_)
              rw [hb]
              exact ih (i + 1) (o ++ [bNode]) (by omega) (by omega) (by simp; omega)
            · have hb : brks lv ((L.drop (i + 1)).map mkRow) = [] := by rw [hdr2, List.map_cons]; show (if (mkRow y).f0 ≤ (lv : Int) then [bNode] else []) = _; rw [if_neg hc2]
              refine .ifn (by rw [hly]; exact hc2) ?_
              rw [hb, List.append_nil]
              exact ih (i + 1) o (by omega) (by omega) (by omega)
          · refine .ifn (by rw [bytesOf_len]; omega) ?_
            have hb : brks lv ((L.drop (i + 1)).map mkRow) = [] := by rw [List.drop_eq_nil_of_le (by omega)]; rfl
            rw [hb, List.append_nil]
            exact ih (i + 1) o (by omega) (by omega) (by omega)
        rw [hgo]
        have hf1 : (mkRow x).f1 = B (levL 20 x).2 := rfl
        by_cases h0 : (levL 20 x).2 = []
        · have ht : txts (mkRow x).f1 = [] := by unfold txts; rw [if_pos (by rw [hf1, h0]; rfl)]
          refine .ifp (by rw [B_list]; exact h0) ?_
          rw [ht, List.nil_append, ← List.append_assoc]
          exact hj out (by omega)
        · have ht : txts (mkRow x).f1 = [tNode (mkRow x).f1] := by unfold txts; rw [if_neg (by rw [hf1, B_size]; intro h; exact h0 (List.eq_nil_of_length_eq_zero h))]
          refine .ifn (by rw [B_list]; exact h0) (.ifp (by omega) ?_)
          rw [ht]
          refine (hj (out ++ [tNode (mkRow x).f1]) (by simp; omega)).cast ?_
          simp
      · refine .ifn (by rw [hlevel]; exact hc) ?_
        have hgo : rowsGo (inner d lv) lv ((L.drop i).map mkRow).length ((L.drop i).map mkRow) = qNode (inner d lv (((L.drop i).map mkRow).take (lead lv ((L.drop i).map mkRow)))) :: rowsGo (inner d lv) lv (((L.drop i).map mkRow).drop (lead lv ((L.drop i).map mkRow))).length (((L.drop i).map mkRow).drop (lead lv ((L.drop i).map mkRow))) := by
          rw [hdr, List.map_cons]
          exact rowsGo_quote _ _ _ _ (by omega)
        have h1 : 1 ≤ lead lv ((L.drop i).map mkRow) := by rw [hdr, List.map_cons]; unfold lead; rw [if_pos (by omega)]; omega
        have hle := lead_le (lv : Int) ((L.drop i).map mkRow)
        simp only [List.length_map, List.length_drop] at hle
        refine refRows_l1 L hL hl d lv hlv hq out i _ (by omega) hlt h1 ?_ (lead lv ((L.drop i).map mkRow)) 0 (Nat.zero_add _)
        rw [hgo]
        refine (ih (i + lead lv ((L.drop i).map mkRow)) (out ++ [qNode (inner d lv (((L.drop i).map mkRow).take (lead lv ((L.drop i).map mkRow))))]) (by omega) (by omega) (by rw [List.length_append, List.length_singleton]; omega)).cast ?_
        rw [List.append_assoc, ← List.map_drop, List.drop_drop]; rfl
    · refine .ifn (by rw [bytesOf_len]; omega) (.of ?_)
      rw [List.drop_eq_nil_of_le (by omega)]
      simp [rowsGo]
end
theorem refRows : ∀ (d lv : Nat) (L : List (List UInt8)), lv + d = 20 → L.length ≤ 100000 → (∀ x ∈ L, x.length ≤ 4611686018427387904) →
    Ev (fun k => muslinref20_rows.f k (Pr.bytesOf L) (lv : Int)) (rowsD d lv (L.map mkRow))
  | 0, lv, L, h, hL, hl => by
    refine .succ ?_
    simp only [muslinref20_rows.f]
    rw [rowsD_go]
    exact (refRows_l0 L hL hl 0 lv h (fun _ h => absurd h (by omega)) _ 0 [] (Nat.le_refl _) (Nat.zero_le _) (by simp; omega)).cast (by simp)
  | d + 1, lv, L, h, hL, hl => by
    refine .succ ?_
    simp only [muslinref20_rows.f]
    rw [rowsD_go]
    refine (refRows_l0 L hL hl (d + 1) lv h (fun _ _ M hM hm => ?_) _ 0 [] (Nat.le_refl _) (Nat.zero_le _) (by simp; omega)).cast (by simp)
    exact refRows d (lv + 1) M (by omega) (by omega) (fun x hx => hl x (hm x hx))
theorem refTree (s : List UInt8) (hs : s.length ≤ 100000) : Ev (fun k => muslinref20_Tree.f k (B s)) (treeL s) := by
  have hc := cutL_len s
  unfold muslinref20_Tree.f
  refine .bind (refCut s (by omega)) (.bind (refRows 20 0 (cutL s) rfl (by omega) (fun x hx => by have := cutL_mem s _ s (Nat.le_refl _) x hx; omega)) (.pure _))
end Go.Proofs.Ythnbhcmekkadeaa.Pure
