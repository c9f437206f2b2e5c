/- The lines of a text, as the reference tells them. -/
import Derived.Test.YthnbhcmekkadeaaPureCut
import Derived.Test.YthnbhcmekkadeaaPrx6
set_option linter.unusedVariables false
set_option linter.unusedSimpArgs false
namespace Go.Proofs.Ythnbhcmekkadeaa.Pure
open Go Go.RowKit Go.Proofs.Ythnbhcmekkadeaa.Pr Go.Proofs.YthnbhcmekkadeaaW.PrintWords Go.Proofs.YthnbhcmekkadeaaW.PrintLast Plain
/-- The answer of the reference's Next at a place. -/
def nextV (l : List UInt8) (at_ : Nat) : Int × ByteArray × Bool :=
  if (brk1 10 (l.drop at_)).2.2 then (((at_ + (brk1 10 (l.drop at_)).1.length + 1 : Nat) : Int), B (chop (brk1 10 (l.drop at_)).1), true) else ((l.length : Int), B (l.drop at_), false)
theorem next_j1 (l : List UInt8) (hl : l.length ≤ 4611686018427387904) (at_ : Nat) (ha : at_ ≤ l.length) :
    Ev (fun k => muslinref06_Next.j1 k (B l) (at_ : Int) ((at_ + (brk1 10 (l.drop at_)).1.length : Nat) : Int)) (nextV l at_) := by
  refine .succ ?_
  simp only [muslinref06_Next.j1]
  unfold nextV
  cases hf : (brk1 10 (l.drop at_)).2.2 with
  | false =>
    have hn := (brk_none _ 10 hf).1
    have hlen : at_ + (brk1 10 (l.drop at_)).1.length = l.length := by rw [hn]; simp; omega
    rw [hlen]
    refine .ifp (by simp) (.ifp (by omega) (.ifp (by simp; omega) (.of ?_)))
    rw [B_size, Int.toNat_natCast, B_from]; rfl
  | true =>
    obtain ⟨h1, h2, h3, h4⟩ := brk_at _ 10 hf
    have hnil := brk_get (l.drop at_) 10
    generalize (brk1 10 (l.drop at_)).1 = a at *
    simp only [List.length_drop] at h1
    have e1 : wrap64 (((at_ + a.length : Nat) : Int) + 1) = ((at_ + a.length + 1 : Nat) : Int) := by rw [w64 (by omega) (by omega)]; omega
    have ex1 : ((l.drop at_).take (at_ + a.length - at_)) = a := by rw [Nat.add_sub_cancel_left]; exact h3
    rw [if_pos rfl, chop_eq]
    refine .ifn (by simp; omega) ?_
    by_cases h0 : a = []
    · subst h0
      refine .ifn (by simp) (.ifp (by omega) (.ifp (by simp) (.ifp (by simp; omega) (.of ?_))))
      rw [e1, Int.toNat_natCast, Int.toNat_natCast, B_extract, ex1]
      simp
    · have hp : 0 < a.length := List.length_pos_iff.2 h0
      have e2 : wrap64 (((at_ + a.length : Nat) : Int) - 1) = ((at_ + a.length - 1 : Nat) : Int) := by rw [w64 (by omega) (by omega)]; omega
      rw [e1, e2]
      have hb : l.getD (at_ + a.length - 1) 0 = a.getD (a.length - 1) 0 := by
        have : at_ + a.length - 1 = at_ + (a.length - 1) := by omega
        rw [this, ← getD_drop, ← h3]
        rw [List.getD_eq_getElem?_getD, List.getD_eq_getElem?_getD, List.getElem?_take]
        rw [List.length_take, if_pos (by rw [Nat.min_eq_left (by simp; omega)]; omega), Nat.min_eq_left (by simp; omega)]
      refine .ifp (by omega) (.ifp (by omega) (.ifp (by simp; omega) ?_))
      rw [B_bt, hb]
      by_cases hc : a.getD (a.length - 1) 0 = 13
      · refine .ifp ((u8_int _ 13).2 hc) (.ifp (by omega) (.ifp (by omega) (.ifp (by simp; omega) (.of ?_))))
        rw [if_pos ⟨h0, hc⟩, Int.toNat_natCast, Int.toNat_natCast, B_extract]
        have : (l.drop at_).take (at_ + a.length - 1 - at_) = a.take (a.length - 1) := by
          rw [← h3, List.take_take]
          congr 1
          rw [List.length_take, Nat.min_eq_left (by simp; omega)]; omega
        rw [this]
      · refine .ifn (fun hh => hc ((u8_int _ 13).1 hh)) (.ifp (by omega) (.ifp (by omega) (.ifp (by simp; omega) (.of ?_))))
        rw [if_neg (fun hh => hc hh.2), Int.toNat_natCast, Int.toNat_natCast, B_extract, ex1]
theorem next_l0 (l : List UInt8) (hl : l.length ≤ 4611686018427387904) (at_ : Nat) (ha : at_ ≤ l.length) : ∀ (d j : Nat), j + d = (brk1 10 (l.drop at_)).1.length →
    Ev (fun k => muslinref06_Next.l0 k (B l) (at_ : Int) ((at_ + j : Nat) : Int)) (nextV l at_) := by
  intro d
  induction d with
  | zero =>
    intro j hj
    have hJ := next_j1 l hl at_ ha
    rw [Nat.add_zero] at hj
    refine .succ ?_
    simp only [muslinref06_Next.l0]
    by_cases hlt : at_ + j < l.length
    · refine .ifp (by simp; omega) (.ifp (by omega) ?_)
      rw [← hj] at hJ
      cases hf : (brk1 10 (l.drop at_)).2.2 with
      | false =>
        have hn := (brk_none _ 10 hf).1
        rw [hn] at hj; simp at hj; omega
      | true =>
        have h2 := (brk_at _ 10 hf).2.1
        rw [← hj, getD_drop] at h2
        rw [B_bt, h2]
        exact .ifp rfl hJ
    · rw [← hj] at hJ
      exact .ifn (by simp; omega) hJ
  | succ d ih =>
    intro j hj
    have hs : (brk1 10 (l.drop at_)).1.length ≤ (l.drop at_).length := by
      cases hf : (brk1 10 (l.drop at_)).2.2 with
      | false => rw [(brk_none _ 10 hf).1]; exact Nat.le_refl _
      | true => have := (brk_at _ 10 hf).1; omega
    simp only [List.length_drop] at hs
    have hg := brk_get (l.drop at_) 10 j (by omega)
    rw [getD_drop] at hg
    refine .succ ?_
    simp only [muslinref06_Next.l0]
    refine .ifp (by simp; omega) (.ifp (by omega) ?_)
    rw [B_bt]
    refine .ifn (fun hh => hg ((u8_int _ 10).1 hh)) ?_
    have e1 : wrap64 (((at_ + j : Nat) : Int) + 1) = ((at_ + (j + 1) : Nat) : Int) := by rw [w64 (by omega) (by omega)]; omega
    rw [e1]
    exact ih (j + 1) (by omega)
theorem refNext (l : List UInt8) (hl : l.length ≤ 4611686018427387904) (at_ : Nat) (ha : at_ ≤ l.length) : Ev (fun k => muslinref06_Next.f k (B l) (at_ : Int)) (nextV l at_) :=
  next_l0 l hl at_ ha _ 0 (Nat.zero_add _)
theorem refCut_l0 (l : List UInt8) (hl : l.length ≤ 4398046511104) : ∀ (d at_ : Nat) (out : List ByteArray), l.length - at_ ≤ d → at_ ≤ l.length → out.length ≤ at_ →
    Ev (fun k => muslinref06_Cut.l0 k (B l) out (at_ : Int)) (out ++ Pr.bytesOf (cutL (l.drop at_))) := by
  intro d
  induction d with
  | zero =>
    intro at_ out hd ha ho
    refine .succ ?_
    simp only [muslinref06_Cut.l0]
    refine .ifn (by simp; omega) (.of ?_)
    rw [List.drop_eq_nil_of_le (by omega), cutL_nil]; simp [Pr.bytesOf]
  | succ d ih =>
    intro at_ out hd ha ho
    refine .succ ?_
    simp only [muslinref06_Cut.l0]
    by_cases hlt : at_ < l.length
    · refine .ifp (by simp; omega) (.bind (refNext l (by omega) at_ ha) (.ifp (by omega) ?_))
      have hne : l.drop at_ ≠ [] := by intro h; have := drop_nil_le _ _ h; omega
      rw [cutL_cons hne]
      unfold nextV
      cases hf : (brk1 10 (l.drop at_)).2.2 with
      | true =>
        obtain ⟨h1, h2, h3, h4⟩ := brk_at _ 10 hf
        simp only [List.length_drop] at h1
        rw [if_pos rfl, if_pos rfl]
        rw [List.drop_drop] at h4
        refine (ih (at_ + (brk1 10 (l.drop at_)).1.length + 1) (out ++ [B (chop (brk1 10 (l.drop at_)).1)]) (by omega) (by omega) (by simp; omega)).cast ?_
        rw [← h4, bytesOf_cons, List.append_assoc, Nat.add_assoc]; rfl
      | false =>
        obtain ⟨h1, h2⟩ := brk_none _ 10 hf
        rw [if_neg (by simp), if_neg (by simp), h1, h2]
        refine (ih l.length (out ++ [B (l.drop at_)]) (by omega) (by omega) (by simp; omega)).cast ?_
        rw [List.drop_length, bytesOf_cons, List.append_assoc]; rfl
    · refine .ifn (by simp; omega) (.of ?_)
      rw [List.drop_eq_nil_of_le (by omega), cutL_nil]; simp [Pr.bytesOf]
theorem refCut (l : List UInt8) (hl : l.length ≤ 4398046511104) : Ev (fun k => muslinref06_Cut.f k (B l)) (Pr.bytesOf (cutL l)) :=
  (refCut_l0 l hl _ 0 [] (Nat.le_refl _) (Nat.zero_le _) (Nat.le_refl _)).cast (by simp)
end Go.Proofs.Ythnbhcmekkadeaa.Pure
