/- Levels of lines, lines of a text, and the tree of a plain text, as the printed functions tell them. -/
import Derived.Test.YthnbhcmekkadeaaPureBase
import Derived.Test.YthnbhcmekkadeaaPrx7
set_option linter.unusedVariables false
set_option linter.unusedSimpArgs false
namespace Go.Proofs.Ythnbhcmekkadeaa.Pure
open Go Go.RowKit Go.Proofs.Ythnbhcmekkadeaa.Pr Go.Proofs.YthnbhcmekkadeaaW.PrintWords Go.Proofs.YthnbhcmekkadeaaW.PrintLast Plain

/-! ### Prefixes -/
theorem hasPrefix_one (a : List UInt8) (c : UInt8) : stringslite_HasPrefix.f (B a) (B [c]) = some (match a with | [] => false | x :: _ => x == c) := by
  cases a with
  | nil => rfl
  | cons x r =>
    unfold stringslite_HasPrefix.f
    rw [if_pos (by simp; omega), if_pos (by simp), if_pos (by simp; omega)]
    have e : (B (x :: r)).extract 0 (((B [c]).size : Int)).toNat = B [x] := by rw [B_size, Int.toNat_natCast, B_upto]; rfl
    rw [e, B_list, B_list]
    congr 1
    simp
theorem cutPrefix_hit (c : UInt8) (r : List UInt8) : strings_CutPrefix.f (B (c :: r)) (B [c]) = some (B r, true) := by
  unfold strings_CutPrefix.f stringslite_CutPrefix.f
  rw [hasPrefix_one]
  simp only [Option.bind_some, beq_self_eq_true, if_true]
  rw [if_pos (by simp), if_pos (by simp; omega)]
  have e : (B (c :: r)).extract (((B [c]).size : Int)).toNat (B (c :: r)).size = B r := by rw [B_size, B_size, Int.toNat_natCast, B_from]; rfl
  rw [e]; rfl
theorem cutPrefix_miss (c : UInt8) (a : List UInt8) (h : ∀ r, a ≠ c :: r) : strings_CutPrefix.f (B a) (B [c]) = some (B a, false) := by
  unfold strings_CutPrefix.f stringslite_CutPrefix.f
  rw [hasPrefix_one]
  cases a with
  | nil => rfl
  | cons x r =>
    have hx : (x == c) = false := by rw [beq_eq_false_iff_ne]; rintro rfl; exact h r rfl
    simp only [Option.bind_some, hx]
    rfl
def strip : List UInt8 → List UInt8
  | [] => []
  | x :: r => if x = 32 then r else x :: r
theorem strip_cons (x : UInt8) (r : List UInt8) : strip (x :: r) = if x = 32 then r else x :: r := rfl
theorem trimPrefix_sp (a : List UInt8) : strings_TrimPrefix.f (B a) (B [32]) = some (B (strip a)) := by
  unfold strings_TrimPrefix.f stringslite_TrimPrefix.f
  rw [hasPrefix_one]
  cases a with
  | nil => rfl
  | cons x r =>
    rw [strip_cons]
    by_cases hx : x = 32
    · subst hx
      simp only [Option.bind_some, beq_self_eq_true, if_true]
      rw [if_pos (by simp), if_pos (by simp; omega)]
      have e : (B (32 :: r)).extract (((B [32]).size : Int)).toNat (B (32 :: r)).size = B r := by rw [B_size, B_size, Int.toNat_natCast, B_from]; rfl
      rw [e]; rfl
    · have hx' : (x == 32) = false := by rw [beq_eq_false_iff_ne]; exact hx
      simp only [Option.bind_some, hx']
      rw [if_neg hx]; rfl

/-! ### Levels -/
/-- How deep a line is quoted (at most as many as the first number), and what it says. -/
def levL : Nat → List UInt8 → Nat × List UInt8
  | 0, l => (0, l)
  | _ + 1, [] => (0, [])
  | n + 1, c :: r => if c = 62 then ((levL n (strip r)).1 + 1, (levL n (strip r)).2) else (0, c :: r)
theorem levL_cons (n : Nat) (c : UInt8) (r : List UInt8) : levL (n + 1) (c :: r) = if c = 62 then ((levL n (strip r)).1 + 1, (levL n (strip r)).2) else (0, c :: r) := rfl
theorem strip_len (l : List UInt8) : (strip l).length ≤ l.length := by
  cases l with
  | nil => exact Nat.le_refl _
  | cons x r => rw [strip_cons]; split <;> simp
theorem levL_le : ∀ (n : Nat) (l : List UInt8), (levL n l).1 ≤ n ∧ (levL n l).2.length ≤ l.length
  | 0, l => ⟨Nat.le_refl _, Nat.le_refl _⟩
  | n + 1, [] => ⟨Nat.zero_le _, Nat.le_refl _⟩
  | n + 1, c :: r => by
    rw [levL_cons]
    split
    · have := levL_le n (strip r)
      have := strip_len r
      simp only [List.length_cons]
      omega
    · simp
theorem plainLevel_l0 : ∀ (n : Nat) (l : List UInt8) (m : Nat), n + m = 20 → Ev (fun k => plain_Level.l0 k (B l) (m : Int)) (((m + (levL n l).1 : Nat) : Int), B (levL n l).2)
  | 0, l, m, h => by
    refine .succ ?_
    simp only [plain_Level.l0]
    exact .ifn (by omega) (.of (by simp [levL]))
  | n + 1, l, m, h => by
    refine .succ ?_
    simp only [plain_Level.l0]
    refine .ifp (by omega) ?_
    cases l with
    | nil =>
      refine .bindc (cutPrefix_miss 62 [] (by simp)) ?_
      exact .ifn (by simp) (.of (by simp [levL]))
    | cons c r =>
      by_cases hc : c = 62
      · subst hc
        refine .bindc (cutPrefix_hit 62 r) ?_
        refine .ifp rfl ?_
        refine .bindc (trimPrefix_sp r) ?_
        have e : wrap64 ((m : Int) + 1) = ((m + 1 : Nat) : Int) := by rw [w64 (by omega) (by omega)]; omega
        rw [e]
        refine (plainLevel_l0 n (strip r) (m + 1) (by omega)).cast ?_
        show _ = (((m + (levL (n + 1) (62 :: r)).1 : Nat) : Int), B (levL (n + 1) (62 :: r)).2)
        rw [levL_cons, if_pos rfl]
        simp only [Prod.mk.injEq, and_true]
        omega
      · refine .bindc (cutPrefix_miss 62 (c :: r) (by rintro _ ⟨⟩; exact hc rfl)) ?_
        refine .ifn (by simp) (.of ?_)
        show _ = some (((m + (levL (n + 1) (c :: r)).1 : Nat) : Int), B (levL (n + 1) (c :: r)).2)
        rw [levL_cons, if_neg hc]
        simp
theorem plainLevel (l : List UInt8) : Ev (fun k => plain_Level.f k (B l)) (((levL 20 l).1 : Int), B (levL 20 l).2) :=
  (plainLevel_l0 20 l 0 rfl).cast (by simp)
theorem refLevel_l0 (l : List UInt8) (hl : l.length ≤ 4611686018427387904) : ∀ (n at_ m : Nat), n + m = 20 → at_ ≤ l.length → Ev (fun k => muslinref20_Level.l0 k (B l) (m : Int) (at_ : Int)) (((m + (levL n (l.drop at_)).1 : Nat) : Int), B (levL n (l.drop at_)).2) := by
  intro n
  induction n with
  | zero =>
    intro at_ m h ha
    have stop : Ev (fun k => muslinref20_Level.j1 k (B l) (m : Int) (at_ : Int) false) (((m + (levL 0 (l.drop at_)).1 : Nat) : Int), B (levL 0 (l.drop at_)).2) := by
      refine .succ ?_
      simp only [muslinref20_Level.j1]
      refine .ifn (by simp) (.ifp (by omega) (.ifp (by simp; omega) (.of ?_)))
      rw [B_size, Int.toNat_natCast, B_from]; simp [levL]
    refine .succ ?_
    simp only [muslinref20_Level.l0]
    by_cases hlt : at_ < l.length
    · refine .ifp (by simp; omega) (.ifp (by omega) ?_)
      have e : decide ((m : Int) < 20) = false := decide_eq_false (by omega)
      by_cases hc : bt (B l) (at_ : Int) = 62
      · refine .ifp hc ?_
        rw [e]; exact stop
      · exact .ifn hc stop
    · exact .ifn (by simp; omega) stop
  | succ n ih =>
    intro at_ m h ha
    have stop (hs : levL (n + 1) (l.drop at_) = (0, l.drop at_)) : Ev (fun k => muslinref20_Level.j1 k (B l) (m : Int) (at_ : Int) false) (((m + (levL (n + 1) (l.drop at_)).1 : Nat) : Int), B (levL (n + 1) (l.drop at_)).2) := by
      refine .succ ?_
      simp only [muslinref20_Level.j1]
      refine .ifn (by simp) (.ifp (by omega) (.ifp (by simp; omega) (.of ?_)))
      rw [B_size, Int.toNat_natCast, B_from, hs]; simp
    refine .succ ?_
    simp only [muslinref20_Level.l0]
    by_cases hlt : at_ < l.length
    · refine .ifp (by simp; omega) (.ifp (by omega) ?_)
      rw [B_bt]
      have hd := drop_cons_get l at_ hlt
      by_cases hc : l.getD at_ 0 = 62
      · refine .ifp ((u8_int _ 62).2 hc) ?_
        have e : decide ((m : Int) < 20) = true := decide_eq_true (by omega)
        have e1 : wrap64 ((at_ : Int) + 1) = ((at_ + 1 : Nat) : Int) := by rw [w64 (by omega) (by omega)]; omega
        have e2 : wrap64 ((m : Int) + 1) = ((m + 1 : Nat) : Int) := by rw [w64 (by omega) (by omega)]; omega
        have e3 : wrap64 (((at_ + 1 : Nat) : Int) + 1) = ((at_ + 2 : Nat) : Int) := by rw [w64 (by omega) (by omega)]; omega
        have hv : levL (n + 1) (l.drop at_) = ((levL n (strip (l.drop (at_ + 1)))).1 + 1, (levL n (strip (l.drop (at_ + 1)))).2) := by
          rw [hd, hc, levL_cons, if_pos rfl]
        rw [e, hv]
        refine .succ ?_
        simp only [muslinref20_Level.j1]
        rw [e1, e2, e3]
        refine .ifp (by trivial) ?_
        by_cases h1 : at_ + 1 < l.length
        · refine .ifp (by simp; omega) (.ifp (by omega) ?_)
          rw [B_bt]
          have hd1 := drop_cons_get l (at_ + 1) h1
          by_cases hc1 : l.getD (at_ + 1) 0 = 32
          · refine .ifp ((u8_int _ 32).2 hc1) ((ih (at_ + 2) (m + 1) (by omega) (by omega)).cast ?_)
            have es : strip (l.drop (at_ + 1)) = l.drop (at_ + 2) := by rw [hd1, hc1]; rfl
            rw [es]
            simp only [Prod.mk.injEq, and_true]; omega
          · refine .ifn (fun hh => hc1 ((u8_int _ 32).1 hh)) ((ih (at_ + 1) (m + 1) (by omega) (by omega)).cast ?_)
            have es : strip (l.drop (at_ + 1)) = l.drop (at_ + 1) := by
              rw [hd1, strip_cons, if_neg hc1]
            rw [es]
            simp only [Prod.mk.injEq, and_true]; omega
        · refine .ifn (by simp; omega) ((ih (at_ + 1) (m + 1) (by omega) (by omega)).cast ?_)
          have es : strip (l.drop (at_ + 1)) = l.drop (at_ + 1) := by rw [List.drop_eq_nil_of_le (by omega)]; rfl
          rw [es]
          simp only [Prod.mk.injEq, and_true]; omega
      · refine .ifn (fun hh => hc ((u8_int _ 62).1 hh)) (stop ?_)
        rw [hd, levL_cons, if_neg hc]
    · refine .ifn (by simp; omega) (stop ?_)
      rw [List.drop_eq_nil_of_le (by omega)]; rfl
theorem refLevel (l : List UInt8) (hl : l.length ≤ 4611686018427387904) : Ev (fun k => muslinref20_Level.f k (B l)) (((levL 20 l).1 : Int), B (levL 20 l).2) :=
  (refLevel_l0 l hl 20 0 0 rfl (Nat.zero_le _)).cast (by simp)
end Go.Proofs.Ythnbhcmekkadeaa.Pure
