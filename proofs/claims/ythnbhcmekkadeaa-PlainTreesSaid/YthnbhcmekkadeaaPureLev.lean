/- Levels of lines, as the program tells them. -/
import Derived.Test.YthnbhcmekkadeaaPureBase
import Derived.Test.YthnbhcmekkadeaaPrx2
set_option linter.unusedVariables false
set_option linter.unusedSimpArgs false
namespace Go.Proofs.Ythnbhcmekkadeaa.Pure
open Go Go.RowKit Go.Proofs.Ythnbhcmekkadeaa.Pr Go.Proofs.YthnbhcmekkadeaaW.PrintWords Go.Proofs.YthnbhcmekkadeaaW.PrintLast

/-! ### Prefixes -/
theorem hasPrefix_one (a : List UInt8) (c : UInt8) : stringslite_HasPrefix.f (B a) (B [c]) = some (match a with | [] => false | x :: _ => x == c) := by
  cases a with
  | nil => rfl
  | cons x r =>
    unfold stringslite_HasPrefix.f
    rw [if_pos (by simp; omega), if_pos (by simp), if_pos (by simp; omega)]
    have e : (B (x :: r)).extract 0 (((B [c]).size : Int)).toNat = B [x] := by rw [B_size, Int.toNat_natCast, B_upto]; rfl
    rw [e, B_list, B_list]
    congr 1
    simp
theorem cutPrefix_hit (c : UInt8) (r : List UInt8) : strings_CutPrefix.f (B (c :: r)) (B [c]) = some (B r, true) := by
  unfold strings_CutPrefix.f stringslite_CutPrefix.f
  rw [hasPrefix_one]
  simp only [Option.bind_some, beq_self_eq_true, if_true]
  rw [if_pos (by simp), if_pos (by simp; omega)]
  have e : (B (c :: r)).extract (((B [c]).size : Int)).toNat (B (c :: r)).size = B r := by rw [B_size, B_size, Int.toNat_natCast, B_from]; rfl
  rw [e]; rfl
theorem cutPrefix_miss (c : UInt8) (a : List UInt8) (h : ∀ r, a ≠ c :: r) : strings_CutPrefix.f (B a) (B [c]) = some (B a, false) := by
  unfold strings_CutPrefix.f stringslite_CutPrefix.f
  rw [hasPrefix_one]
  cases a with
  | nil => rfl
  | cons x r =>
    have hx : (x == c) = false := by rw [beq_eq_false_iff_ne]; rintro rfl; exact h r rfl
    simp only [Option.bind_some, hx]
    rfl
def strip : List UInt8 → List UInt8
  | [] => []
  | x :: r => if x = 32 then r else x :: r
theorem strip_cons (x : UInt8) (r : List UInt8) : strip (x :: r) = if x = 32 then r else x :: r := rfl
theorem trimPrefix_sp (a : List UInt8) : strings_TrimPrefix.f (B a) (B [32]) = some (B (strip a)) := by
  unfold strings_TrimPrefix.f stringslite_TrimPrefix.f
  rw [hasPrefix_one]
  cases a with
  | nil => rfl
  | cons x r =>
    rw [strip_cons]
    by_cases hx : x = 32
    · subst hx
      simp only [Option.bind_some, beq_self_eq_true, if_true]
      rw [if_pos (by simp), if_pos (by simp; omega)]
      have e : (B (32 :: r)).extract (((B [32]).size : Int)).toNat (B (32 :: r)).size = B r := by rw [B_size, B_size, Int.toNat_natCast, B_from]; rfl
      rw [e]; rfl
    · have hx' : (x == 32) = false := by rw [beq_eq_false_iff_ne]; exact hx
      simp only [Option.bind_some, hx']
      rw [if_neg hx]; rfl

/-! ### Levels -/
/-- How deep a line is quoted (at most as many as the first number), and what it says. -/
def levL : Nat → List UInt8 → Nat × List UInt8
  | 0, l => (0, l)
  | _ + 1, [] => (0, [])
  | n + 1, c :: r => if c = 62 then ((levL n (strip r)).1 + 1, (levL n (strip r)).2) else (0, c :: r)
theorem levL_cons (n : Nat) (c : UInt8) (r : List UInt8) : levL (n + 1) (c :: r) = if c = 62 then ((levL n (strip r)).1 + 1, (levL n (strip r)).2) else (0, c :: r) := rfl
theorem strip_len (l : List UInt8) : (strip l).length ≤ l.length := by
  cases l with
  | nil => exact Nat.le_refl _
  | cons x r => rw [strip_cons]; split <;> simp
theorem levL_le : ∀ (n : Nat) (l : List UInt8), (levL n l).1 ≤ n ∧ (levL n l).2.length ≤ l.length
  | 0, l => ⟨Nat.le_refl _, Nat.le_refl _⟩
  | n + 1, [] => ⟨Nat.zero_le _, Nat.le_refl _⟩
  | n + 1, c :: r => by
    rw [levL_cons]
    split
    · have := levL_le n (strip r)
      have := strip_len r
      simp only [List.length_cons]
      omega
    · simp
theorem plainLevel_l0 : ∀ (n : Nat) (l : List UInt8) (m : Nat), n + m = 20 → Ev (fun k => plain_Level.l0 k (B l) (m : Int)) (((m + (levL n l).1 : Nat) : Int), B (levL n l).2)
  | 0, l, m, h => by
    refine .succ ?_
    simp only [plain_Level.l0]
    exact .ifn (by omega) (.of (by simp [levL]))
  | n + 1, l, m, h => by
    refine .succ ?_
    simp only [plain_Level.l0]
    refine .ifp (by omega) ?_
    cases l with
    | nil =>
      refine .bindc (cutPrefix_miss 62 [] (by simp)) ?_
      exact .ifn (by simp) (.of (by simp [levL]))
    | cons c r =>
      by_cases hc : c = 62
      · subst hc
        refine .bindc (cutPrefix_hit 62 r) ?_
        refine .ifp rfl ?_
        refine .bindc (trimPrefix_sp r) ?_
        have e : wrap64 ((m : Int) + 1) = ((m + 1 : Nat) : Int) := by rw [w64 (by omega) (by omega)]; omega
        rw [e]
        refine (plainLevel_l0 n (strip r) (m + 1) (by omega)).cast ?_
        show _ = (((m + (levL (n + 1) (62 :: r)).1 : Nat) : Int), B (levL (n + 1) (62 :: r)).2)
        rw [levL_cons, if_pos rfl]
        simp only [Prod.mk.injEq, and_true]
        omega
      · refine .bindc (cutPrefix_miss 62 (c :: r) (by rintro _ ⟨⟩; exact hc rfl)) ?_
        refine .ifn (by simp) (.of ?_)
        show _ = some (((m + (levL (n + 1) (c :: r)).1 : Nat) : Int), B (levL (n + 1) (c :: r)).2)
        rw [levL_cons, if_neg hc]
        simp
theorem plainLevel (l : List UInt8) : Ev (fun k => plain_Level.f k (B l)) (((levL 20 l).1 : Int), B (levL 20 l).2) :=
  (plainLevel_l0 20 l 0 rfl).cast (by simp)
theorem levL_fuel : ∀ (n : Nat) (l : List UInt8), (levL (n + 1) l).1 ≤ n → levL n l = levL (n + 1) l
  | 0, [], _ => rfl
  | 0, c :: r, h => by
    rw [levL_cons] at h ⊢
    by_cases hc : c = 62
    · rw [if_pos hc] at h; simp only at h; omega
    · rw [if_neg hc]; rfl
  | n + 1, [], _ => rfl
  | n + 1, c :: r, h => by
    rw [levL_cons] at h
    rw [levL_cons, levL_cons]
    by_cases hc : c = 62
    · rw [if_pos hc] at h
      simp only at h
      rw [if_pos hc, if_pos hc, levL_fuel n (strip r) (by omega)]
    · rw [if_neg hc, if_neg hc]
theorem levL_cap : ∀ (n : Nat) (l : List UInt8), (levL (n + 1) l).1 = n + 1 → (levL n l).1 = n
  | 0, _, _ => rfl
  | n + 1, [], h => by simp [levL] at h
  | n + 1, c :: r, h => by
    rw [levL_cons] at h
    rw [levL_cons]
    by_cases hc : c = 62
    · rw [if_pos hc] at h
      simp only at h
      rw [if_pos hc]
      have := levL_cap n (strip r) (by omega)
      simp only
      omega
    · rw [if_neg hc] at h; simp at h
/-- A sign more: a level more, unless there were twenty. -/
theorem levL_up (l : List UInt8) : ((levL 20 (strip l)).1 = 20 → (levL 20 (62 :: l)).1 = 20) ∧ ((levL 20 (strip l)).1 ≠ 20 → levL 20 (62 :: l) = ((levL 20 (strip l)).1 + 1, (levL 20 (strip l)).2)) := by
  have e : levL 20 (62 :: l) = ((levL 19 (strip l)).1 + 1, (levL 19 (strip l)).2) := by
    show levL (19 + 1) (62 :: l) = _
    rw [levL_cons, if_pos rfl]
  rw [e]
  constructor
  · intro h
    have := levL_cap 19 (strip l) h
    show (levL 19 (strip l)).1 + 1 = 20
    omega
  · intro h
    have h6 := (levL_le 20 (strip l)).1
    rw [levL_fuel 19 (strip l) (by show (levL 20 (strip l)).1 ≤ 19; omega)]
end Go.Proofs.Ythnbhcmekkadeaa.Pure
