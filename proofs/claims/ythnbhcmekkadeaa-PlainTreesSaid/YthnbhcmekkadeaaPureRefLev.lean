/- Levels of lines, as the reference tells them. -/
import Derived.Test.YthnbhcmekkadeaaPureLev
import Derived.Test.YthnbhcmekkadeaaPrx6
set_option linter.unusedVariables false
set_option linter.unusedSimpArgs false
namespace Go.Proofs.Ythnbhcmekkadeaa.Pure
open Go Go.RowKit Go.Proofs.Ythnbhcmekkadeaa.Pr Go.Proofs.YthnbhcmekkadeaaW.PrintWords Go.Proofs.YthnbhcmekkadeaaW.PrintLast
theorem refLevel_l0 (l : List UInt8) (hl : l.length ≤ 4611686018427387904) : ∀ (n at_ m : Nat), n + m = 20 → at_ ≤ l.length → Ev (fun k => muslinref20_Level.l0 k (B l) (m : Int) (at_ : Int)) (((m + (levL n (l.drop at_)).1 : Nat) : Int), B (levL n (l.drop at_)).2) := by
  intro n
  induction n with
  | zero =>
    intro at_ m h ha
    have stop : Ev (fun k => muslinref20_Level.j1 k (B l) (m : Int) (at_ : Int) false) (((m + (levL 0 (l.drop at_)).1 : Nat) : Int), B (levL 0 (l.drop at_)).2) := by
      refine .succ ?_
      simp only [muslinref20_Level.j1]
      refine .ifn (by simp) (.ifp (by omega) (.ifp (by simp; omega) (.of ?_)))
      rw [B_size, Int.toNat_natCast, B_from]; simp [levL]
    refine .succ ?_
    simp only [muslinref20_Level.l0]
    by_cases hlt : at_ < l.length
    · refine .ifp (by simp; omega) (.ifp (by omega) ?_)
      have e : decide ((m : Int) < 20) = false := decide_eq_false (by omega)
      by_cases hc : bt (B l) (at_ : Int) = 62
      · refine .ifp hc ?_
        rw [e]; exact stop
      · exact .ifn hc stop
    · exact .ifn (by simp; omega) stop
  | succ n ih =>
    intro at_ m h ha
    have stop (hs : levL (n + 1) (l.drop at_) = (0, l.drop at_)) : Ev (fun k => muslinref20_Level.j1 k (B l) (m : Int) (at_ : Int) false) (((m + (levL (n + 1) (l.drop at_)).1 : Nat) : Int), B (levL (n + 1) (l.drop at_)).2) := by
      refine .succ ?_
      simp only [muslinref20_Level.j1]
      refine .ifn (by simp) (.ifp (by omega) (.ifp (by simp; omega) (.of ?_)))
      rw [B_size, Int.toNat_natCast, B_from, hs]; simp
    refine .succ ?_
    simp only [muslinref20_Level.l0]
    by_cases hlt : at_ < l.length
    · refine .ifp (by simp; omega) (.ifp (by omega) ?_)
      rw [B_bt]
      have hd := drop_cons_get l at_ hlt
      by_cases hc : l.getD at_ 0 = 62
      · refine .ifp ((u8_int _ 62).2 hc) ?_
        have e : decide ((m : Int) < 20) = true := decide_eq_true (by omega)
        have e1 : wrap64 ((at_ : Int) + 1) = ((at_ + 1 : Nat) : Int) := by rw [w64 (by omega) (by omega)]; omega
        have e2 : wrap64 ((m : Int) + 1) = ((m + 1 : Nat) : Int) := by rw [w64 (by omega) (by omega)]; omega
        have e3 : wrap64 (((at_ + 1 : Nat) : Int) + 1) = ((at_ + 2 : Nat) : Int) := by rw [w64 (by omega) (by omega)]; omega
        have hv : levL (n + 1) (l.drop at_) = ((levL n (strip (l.drop (at_ + 1)))).1 + 1, (levL n (strip (l.drop (at_ + 1)))).2) := by
          rw [hd, hc, levL_cons, if_pos rfl]
        rw [e, hv]
        refine .succ ?_
        simp only [muslinref20_Level.j1]
        rw [e1, e2, e3]
        refine .ifp (by trivial) ?_
        by_cases h1 : at_ + 1 < l.length
        · refine .ifp (by simp; omega) (.ifp (by omega) ?_)
          rw [B_bt]
          have hd1 := drop_cons_get l (at_ + 1) h1
          by_cases hc1 : l.getD (at_ + 1) 0 = 32
          · refine .ifp ((u8_int _ 32).2 hc1) ((ih (at_ + 2) (m + 1) (by omega) (by omega)).cast ?_)
            have es : strip (l.drop (at_ + 1)) = l.drop (at_ + 2) := by rw [hd1, hc1]; rfl
            rw [es]
            simp only [Prod.mk.injEq, and_true]; omega
          · refine .ifn (fun hh => hc1 ((u8_int _ 32).1 hh)) ((ih (at_ + 1) (m + 1) (by omega) (by omega)).cast ?_)
            have es : strip (l.drop (at_ + 1)) = l.drop (at_ + 1) := by
              rw [hd1, strip_cons, if_neg hc1]
            rw [es]
            simp only [Prod.mk.injEq, and_true]; omega
        · refine .ifn (by simp; omega) ((ih (at_ + 1) (m + 1) (by omega) (by omega)).cast ?_)
          have es : strip (l.drop (at_ + 1)) = l.drop (at_ + 1) := by rw [List.drop_eq_nil_of_le (by omega)]; rfl
          rw [es]
          simp only [Prod.mk.injEq, and_true]; omega
      · refine .ifn (fun hh => hc ((u8_int _ 62).1 hh)) (stop ?_)
        rw [hd, levL_cons, if_neg hc]
    · refine .ifn (by simp; omega) (stop ?_)
      rw [List.drop_eq_nil_of_le (by omega)]; rfl
theorem refLevel (l : List UInt8) (hl : l.length ≤ 4611686018427387904) : Ev (fun k => muslinref20_Level.f k (B l)) (((levL 20 l).1 : Int), B (levL 20 l).2) :=
  (refLevel_l0 l hl 20 0 0 rfl (Nat.zero_le _)).cast (by simp)
end Go.Proofs.Ythnbhcmekkadeaa.Pure
