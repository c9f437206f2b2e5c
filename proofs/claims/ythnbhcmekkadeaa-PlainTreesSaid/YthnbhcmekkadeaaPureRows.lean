/- The tree of a plain text, as the program tells it. -/
import Derived.Test.YthnbhcmekkadeaaPureLev
import Derived.Test.YthnbhcmekkadeaaPureCut
import Derived.Test.YthnbhcmekkadeaaPrx4
set_option linter.unusedVariables false
set_option linter.unusedSimpArgs false
namespace Go.Proofs.Ythnbhcmekkadeaa.Pure
open Go Go.RowKit Go.Proofs.Ythnbhcmekkadeaa.Pr Go.Proofs.YthnbhcmekkadeaaW.PrintWords Go.Proofs.YthnbhcmekkadeaaW.PrintLast Plain

def mkRow (l : List UInt8) : S44 := ⟨((levL 20 l).1 : Int), B (levL 20 l).2⟩
theorem rd_bytes (L : List (List UInt8)) (i : Nat) (h : i < L.length) : rdOf ByteArray.empty (Pr.bytesOf L) (i : Int) = B (L.getD i []) := by
  unfold rdOf Pr.bytesOf
  rw [Int.toNat_natCast, List.getD_eq_getElem?_getD, List.getElem?_map, List.getD_eq_getElem?_getD, List.getElem?_eq_getElem h]
  rfl
theorem dropL (L : List (List UInt8)) (i : Nat) (h : i < L.length) : L.drop i = L.getD i [] :: L.drop (i + 1) := by
  rw [List.drop_eq_getElem_cons h, List.getD_eq_getElem?_getD, List.getElem?_eq_getElem h]
  rfl
theorem getL_mem (L : List (List UInt8)) (i : Nat) (h : i < L.length) : L.getD i [] ∈ L := by
  rw [List.getD_eq_getElem?_getD, List.getElem?_eq_getElem h]; exact List.getElem_mem h
theorem mkRow_le (l : List UInt8) : (mkRow l).f0 ≤ 20 := by have := (levL_le 20 l).1; show ((levL 20 l).1 : Int) ≤ 20; omega

/-! ### The program's -/
def treeL (s : List UInt8) : List S36 := rowsD 20 0 ((cutL s).map mkRow)
theorem plainTree_l0 (L : List (List UInt8)) (hL : L.length ≤ 100000) : ∀ (d i : Nat), L.length - i = d → i ≤ L.length →
    Ev (fun k => plain_Tree.l0 k ((L.take i).map mkRow) (Pr.bytesOf L) (L.length : Int) (i : Int)) (rowsD 20 0 (L.map mkRow)) := by
  intro d
  induction d with
  | zero =>
    intro i hd hi
    refine .succ ?_
    simp only [plain_Tree.l0]
    refine .ifn (by omega) (.bindc ?_ (.pure _))
    unfold plain_rows.f
    rw [List.take_of_length_le (by omega)]
    have : rowsOk (L.map mkRow) 0 = true := by
      unfold rowsOk
      rw [Bool.and_eq_true, decide_eq_true_eq, List.all_eq_true]
      refine ⟨⟨by omega, by omega, by simpa using hL⟩, fun x hx => ?_⟩
      obtain ⟨y, _, rfl⟩ := List.mem_map.1 hx
      exact decide_eq_true (mkRow_le y)
    rw [if_pos this]; rfl
  | succ d ih =>
    intro i hd hi
    refine .succ ?_
    simp only [plain_Tree.l0]
    refine .ifp (by omega) (.ifp (by omega) (.ifp (by rw [bytesOf_len]; omega) ?_))
    rw [rd_bytes L i (by omega)]
    refine .bind (plainLevel _) (.ifp (by simp; omega) ?_)
    have e1 : wrap64 ((i : Int) + 1) = ((i + 1 : Nat) : Int) := by rw [w64 (by omega) (by omega)]; omega
    have e2 : (L.take i).map mkRow ++ [mkRow (L.getD i [])] = (L.take (i + 1)).map mkRow := by
      rw [List.take_add_one, List.map_append, List.getElem?_eq_getElem (by omega : i < L.length), List.getD_eq_getElem?_getD, List.getElem?_eq_getElem (by omega : i < L.length)]
      rfl
    rw [e1]
    have := ih (i + 1) (by omega) (by omega)
    rw [← e2] at this
    exact this
theorem plainTree (s : List UInt8) (hs : s.length ≤ 100000) : Ev (fun k => plain_Tree.f k (B s)) (treeL s) := by
  have hc := cutL_len s
  unfold plain_Tree.f
  refine .bindc (linesCut s (by omega)) ?_
  have := plainTree_l0 (cutL s) (by omega) _ 0 rfl (Nat.zero_le _)
  rw [bytesOf_len]
  exact this

theorem cutL_mem (_ : List UInt8) : ∀ (n : Nat) (s : List UInt8), s.length ≤ n → ∀ x ∈ cutL s, x.length ≤ s.length := by
  intro n
  induction n with
  | zero =>
    intro s h x hx
    obtain rfl : s = [] := List.eq_nil_of_length_eq_zero (by omega)
    rw [cutL_nil] at hx; cases hx
  | succ n ih =>
    intro s h x hx
    by_cases h0 : s = []
    · subst h0; rw [cutL_nil] at hx; cases hx
    · have h1 := lineOf_len s
      have e : cutL s = (lineOf s).1 :: cutL (lineOf s).2.1 := by unfold cutL; rw [linesL_cons h0, List.map_cons]
      rw [e] at hx
      rcases List.mem_cons.1 hx with rfl | hx
      · exact h1.1
      · have := h1.2.2 h0
        exact Nat.le_trans (ih _ (by omega) x hx) h1.2.1
end Go.Proofs.Ythnbhcmekkadeaa.Pure
