/- PlainLevels: the plain law. -/
import Derived.Test.YthnbhcmekkadeaaPureLive
import Derived.Test.YthnbhcmekkadeaaPrx11
set_option linter.unusedVariables false
set_option linter.unusedSimpArgs false
namespace Go.Proofs.Ythnbhcmekkadeaa.Pure
open Go Go.RowKit Go.Proofs.Ythnbhcmekkadeaa.Pr Go.Proofs.YthnbhcmekkadeaaW.PrintWords Go.Proofs.YthnbhcmekkadeaaW.PrintLast Plain

theorem levels_j3 (y : List UInt8) : Ev (fun k => muslinlaw20_PlainLevels.j3 k (((levL 20 (strip y)).1 : Nat) : Int) (B (levL 20 (strip y)).2) (((levL 20 (62 :: y)).1 : Nat) : Int) (B (levL 20 (62 :: y)).2)) true := by
  obtain ⟨h1, h2⟩ := levL_up y
  refine .succ ?_
  simp only [muslinlaw20_PlainLevels.j3]
  by_cases h : (levL 20 (strip y)).1 = 20
  · exact .ifp (by omega) (.ifp (by have := h1 h; omega) liveb)
  · have h6 := (levL_le 20 (strip y)).1
    rw [h2 h]
    refine .ifn (by omega) (.ifp ?_ (.ifp (by trivial) liveb))
    rw [w64 (by omega) (by omega)]; simp
theorem levels_j0 (l : List UInt8) (hl : l.length ≤ 3000) (b : Bool) (x : List UInt8) (hx : x.length ≤ 2) (y : List UInt8) (hy : x ++ l = 62 :: y) (hs : strip y = if b then l else strip l) :
    Ev (fun k => muslinlaw20_PlainLevels.j0 k (B l) b (((levL 20 l).1 : Nat) : Int) (B (levL 20 l).2) (B x)) true := by
  have h3 := levels_j3 y
  have h1 : Ev (fun k => muslinlaw20_PlainLevels.j1 k (B l) b (((levL 20 l).1 : Nat) : Int) (B (levL 20 l).2) (((levL 20 (62 :: y)).1 : Nat) : Int) (B (levL 20 (62 :: y)).2) false) true := by
    refine .succ ?_
    simp only [muslinlaw20_PlainLevels.j1]
    refine .ifn (by simp) ?_
    have keep (hb : strip y = l) : Ev (fun k => muslinlaw20_PlainLevels.j2 k (B l) (((levL 20 l).1 : Nat) : Int) (B (levL 20 l).2) (((levL 20 (62 :: y)).1 : Nat) : Int) (B (levL 20 (62 :: y)).2) false) true := by
      refine .succ ?_
      simp only [muslinlaw20_PlainLevels.j2]
      rw [hb] at h3
      exact .ifn (by simp) h3
    cases b with
    | true => exact .ifp rfl (keep (by rw [hs]; rfl))
    | false =>
      rw [if_neg (by simp)] at hs
      refine .ifn (by simp) ?_
      cases l with
      | nil => exact .ifp (by simp) (keep (by rw [hs]; rfl))
      | cons c r =>
        refine .ifn (by simp) (.ifp (by simp; try omega) ?_)
        have e : bt (B (c :: r)) 0 = ((c.toNat : Nat) : Int) := B_bt (c :: r) 0
        rw [e]
        by_cases hc : c = 32
        · subst hc
          refine .succ ?_
          simp only [muslinlaw20_PlainLevels.j2]
          refine .ifp (by decide) (.ifp (by simp; try omega) ?_)
          rw [B_size, B_from]
          refine .bind (plainLevel r) ?_
          have e2 : strip y = r := by rw [hs]; rfl
          rw [e2] at h3
          exact h3
        · have : (((c.toNat : Nat) : Int) == 32) = false := by rw [beq_eq_false_iff_ne]; exact fun hh => hc ((u8_int c 32).1 hh)
          rw [this]
          exact keep (by rw [hs, strip_cons, if_neg hc])
  refine .succ ?_
  simp only [muslinlaw20_PlainLevels.j0]
  refine .ifp (by rw [B_size, B_size]; omega) ?_
  rw [B_append, hy]
  refine .bind (plainLevel (62 :: y)) ?_
  cases l with
  | nil =>
    refine .ifp (by simp) (.ifp rfl ?_)
    have e4 : ((B (levL 20 []).2).toList != (B []).toList) = false := by simp [levL]
    rw [e4]; exact h1
  | cons c r =>
    refine .ifn (by simp) (.ifp (by simp; try omega) ?_)
    have e : bt (B (c :: r)) 0 = ((c.toNat : Nat) : Int) := B_bt (c :: r) 0
    rw [e]
    by_cases hc : c = 62
    · exact .ifp ((u8_int c 62).2 hc) h1
    · have e3 : levL 20 (c :: r) = (0, c :: r) := by rw [levL_cons, if_neg hc]
      have e4 : ((B (levL 20 (c :: r)).2).toList != (B (c :: r)).toList) = false := by rw [e3]; simp
      refine .ifn (fun hh => hc ((u8_int c 62).1 hh)) (.ifp (by rw [e3]; rfl) ?_)
      rw [e4]
      exact h1
theorem PlainLevels : muslinlaw20_PlainLevels.Pure := by
  intro a0 a1 _
  apply Ev.ex (f := fun k => muslinlaw20_PlainLevels.f k a0 a1)
  simp only [muslinlaw20_PlainLevels.f]
  by_cases h : (a0.size : Int) > 3000
  · exact .ifp h liveb
  · refine .ifn h ?_
    have hs : a0.data.toList.length ≤ 3000 := by rw [← Lib.size_eq]; omega
    rw [B_of a0]
    generalize a0.data.toList = l at *
    refine .bind (plainLevel l) ?_
    cases a1 with
    | true => exact .ifp rfl (levels_j0 l hs true [62, 32] (by decide) (32 :: l) rfl rfl)
    | false => exact .ifn (by simp) (levels_j0 l hs false [62] (by decide) l rfl rfl)
end Go.Proofs.Ythnbhcmekkadeaa.Pure
