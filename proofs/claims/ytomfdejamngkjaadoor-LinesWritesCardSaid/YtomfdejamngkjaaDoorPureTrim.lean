/- The reference's white, name and Trim. -/
import Derived.Test.YtomfdejamngkjaaDoorPureFew
import Derived.Test.YtomfdejamngkjaaDoorPrx4
set_option linter.unusedVariables false
set_option linter.unusedSimpArgs false
namespace Go.Proofs.YtomfdejamngkjaaDoor.Pure
open Go Go.RowKit Go.Proofs.YtomfdejamngkjaaDoor.Pr Go.Proofs.YtomfdejamngkjaaDoorW.PrintWords Go.Proofs.YtomfdejamngkjaaDoorW.PrintLast Plain Go.Proofs.YtomfdejamngkjaaDoor
theorem white_eq (c : UInt8) : muslinref06_white.f (c.toNat : Int) = some (ws.contains c) := by
  unfold muslinref06_white.f
  by_cases h1 : c = 32
  · subst h1; rfl
  · have h3 : ¬ ((c.toNat : Int) = 32) := fun h => h1 ((u8_int c 32).1 h)
    rw [if_neg h3]
    by_cases h2 : c = 9
    · subst h2; rfl
    · have h4 : ¬ ((c.toNat : Int) = 9) := fun h => h2 ((u8_int c 9).1 h)
      have : ws.contains c = false := by simp [ws, h1, h2]
      rw [this]
      simp [h4]
theorem name_l0 (l : List UInt8) (hl : l.length ≤ 4611686018427387904) : ∀ (d i : Nat), i + d = l.length → Ev (fun k => muslinref06_name.l0 k (B l) (i : Int)) (!(l.drop i).any badB && !l.isEmpty) := by
  intro d
  induction d with
  | zero =>
    intro i hi
    refine .succ ?_
    simp only [muslinref06_name.l0]
    refine .ifn (by rw [B_size]; omega) (.of ?_)
    rw [List.drop_of_length_le (by omega), B_list]
    cases l <;> rfl
  | succ d ih =>
    intro i hi
    refine .succ ?_
    simp only [muslinref06_name.l0]
    have h1 : i < l.length := by omega
    refine .ifp (by rw [B_size]; omega) (.ifp (by omega) ?_)
    have hd := drop_cons_get l i h1
    rw [B_bt, hd, List.any_cons]
    generalize l.getD i 0 = c at *
    have hb : badB c = (decide ((c.toNat : Int) < 33) || decide ((c.toNat : Int) > 126) || decide ((c.toNat : Int) = 58)) := rfl
    by_cases a1 : (c.toNat : Int) < 33
    · refine .ifp a1 (.of ?_)
      rw [hb, decide_eq_true a1]; rfl
    · refine .ifn a1 ?_
      by_cases a2 : (c.toNat : Int) > 126
      · refine .ifp a2 (.of ?_)
        rw [hb, decide_eq_true a2, Bool.or_true]; rfl
      · refine .ifn a2 ?_
        by_cases a3 : (c.toNat : Int) = 58
        · refine .ifp a3 (.of ?_)
          rw [hb, decide_eq_true a3, Bool.or_true]; rfl
        · refine .ifn a3 ?_
          rw [w64 (by omega) (by omega), hb, decide_eq_false a1, decide_eq_false a2, decide_eq_false a3]
          simp only [Bool.false_or, Bool.or_false]
          exact ih (i + 1) (by omega)
theorem name_ev (l : List UInt8) (hl : l.length ≤ 4611686018427387904) : Ev (fun k => muslinref06_name.f k (B l)) (nameB l) := by
  have := name_l0 l hl l.length 0 (by omega)
  refine Ev.cast this ?_
  unfold nameB
  rw [List.drop_zero, Bool.and_comm]
section
variable (p : UInt8 → Bool)
def tl (l : List UInt8) : List UInt8 := l.dropWhile p
def tr (l : List UInt8) : List UInt8 := (l.reverse.dropWhile p).reverse
theorem tr_cons (x : UInt8) (l : List UInt8) : tr p (x :: l) = if tr p l = [] then (if p x then [] else [x]) else x :: tr p l := by
  unfold tr
  rw [List.reverse_cons, List.dropWhile_append]
  by_cases h : l.reverse.dropWhile p = []
  · rw [h]
    simp only [List.isEmpty_nil, if_true, List.reverse_nil]
    cases hp : p x <;> simp [List.dropWhile, hp]
  · have h2 : (l.reverse.dropWhile p).isEmpty = false := by cases hq : l.reverse.dropWhile p with
      | nil => exact absurd hq h
      | cons _ _ => rfl
    rw [h2]
    simp [h]
theorem tl_tr : ∀ l : List UInt8, tl p (tr p l) = tr p (tl p l)
  | [] => rfl
  | x :: l => by
    have ih := tl_tr l
    rw [tr_cons]
    cases hp : p x with
    | true =>
      have e : tl p (x :: l) = tl p l := by unfold tl; rw [List.dropWhile_cons, hp]; rfl
      rw [e, ← ih]
      by_cases h : tr p l = []
      · rw [if_pos h, h]; rfl
      · rw [if_neg h]
        unfold tl
        rw [List.dropWhile_cons, hp]; rfl
    | false =>
      have e : tl p (x :: l) = x :: l := by unfold tl; rw [List.dropWhile_cons, hp]; rfl
      rw [e, tr_cons, hp]
      by_cases h : tr p l = []
      · rw [if_pos h]
        unfold tl
        simp [List.dropWhile_cons, hp]
      · rw [if_neg h]
        unfold tl
        rw [List.dropWhile_cons, hp]; rfl
end
theorem trim_l1 : ∀ (n : Nat) (l : List UInt8), l.length ≤ n → n ≤ 4611686018427387904 → Ev (fun k => muslinref06_Trim.l1 k (B l)) (B (Lib.trimRightS l ws)) := by
  intro n
  induction n with
  | zero =>
    intro l h _
    obtain rfl : l = [] := List.eq_nil_of_length_eq_zero (by omega)
    refine .succ ?_
    simp only [muslinref06_Trim.l1]
    exact .ifn (by simp) (.of rfl)
  | succ n ih =>
    intro l h hn
    refine .succ ?_
    simp only [muslinref06_Trim.l1]
    rcases List.eq_nil_or_concat l with rfl | ⟨a, c, rfl⟩
    · exact .ifn (by simp) (.of rfl)
    · rw [List.concat_eq_append] at *
      have hs : (a ++ [c]).length = a.length + 1 := by simp
      have e1 : wrap64 (((B (a ++ [c])).size : Int) - 1) = (a.length : Int) := by rw [B_size, hs, w64 (by omega) (by omega)]; omega
      rw [e1, B_size, hs]
      refine .ifp (by omega) (.ifp (by omega) (.ifp (by omega) ?_))
      have eb : bt (B (a ++ [c])) (a.length : Int) = (c.toNat : Int) := by rw [B_bt]; simp
      rw [eb]
      refine .bindc (white_eq c) ?_
      have et : Lib.trimRightS (a ++ [c]) ws = if ws.contains c then Lib.trimRightS a ws else a ++ [c] := by
        unfold Lib.trimRightS
        rw [List.reverse_append]
        simp only [List.reverse_cons, List.reverse_nil, List.nil_append, List.singleton_append, List.dropWhile_cons]
        cases ws.contains c <;> simp
      rw [et]
      cases hc : ws.contains c with
      | true =>
        refine .ifp rfl (.ifp (by omega) ?_)
        rw [Int.toNat_natCast, B_extract]
        have : ((a ++ [c]).drop 0).take (a.length - 0) = a := by simp
        rw [this]
        exact ih a (by omega) (by omega)
      | false =>
        exact .ifn (by simp) (.of rfl)
theorem trim_l0 : ∀ (n : Nat) (l : List UInt8), l.length ≤ n → n ≤ 4611686018427387904 → Ev (fun k => muslinref06_Trim.l0 k (B l)) (B (Lib.trimRightS (Lib.trimLeftS l ws) ws)) := by
  intro n
  induction n with
  | zero =>
    intro l h _
    obtain rfl : l = [] := List.eq_nil_of_length_eq_zero (by omega)
    refine .succ ?_
    simp only [muslinref06_Trim.l0]
    refine .ifn (by simp) (.succ ?_)
    simp only [muslinref06_Trim.j1]
    exact trim_l1 0 [] (by simp) (by omega)
  | succ n ih =>
    intro l h hn
    refine .succ ?_
    simp only [muslinref06_Trim.l0]
    cases l with
    | nil =>
      refine .ifn (by simp) (.succ ?_)
      simp only [muslinref06_Trim.j1]
      exact trim_l1 0 [] (by simp) (by omega)
    | cons c a =>
      have hs : (c :: a).length = a.length + 1 := rfl
      rw [B_size, hs]
      refine .ifp (by omega) (.ifp (by omega) ?_)
      have eb : bt (B (c :: a)) 0 = (c.toNat : Int) := B_bt (c :: a) 0
      rw [eb]
      refine .bindc (white_eq c) ?_
      have et : Lib.trimLeftS (c :: a) ws = if ws.contains c then Lib.trimLeftS a ws else c :: a := by
        unfold Lib.trimLeftS
        rw [List.dropWhile_cons]
      rw [et]
      cases hc : ws.contains c with
      | true =>
        refine .ifp rfl (.ifp (by omega) ?_)
        rw [B_extract]
        have : ((c :: a).drop 1).take (a.length + 1 - 1) = a := by simp
        rw [this]
        exact ih a (by omega) (by omega)
      | false =>
        refine .ifn (by simp) (.succ ?_)
        simp only [muslinref06_Trim.j1]
        exact trim_l1 (a.length + 1) (c :: a) (by simp) (by omega)
theorem trim_comm (l : List UInt8) : Lib.trimRightS (Lib.trimLeftS l ws) ws = Lib.trimS l ws := (tl_tr (fun c => ws.contains c) l).symm
theorem trim_ev (l : List UInt8) (hl : l.length ≤ 4611686018427387904) : Ev (fun k => muslinref06_Trim.f k (B l)) (B (Lib.trimS l ws)) := by
  have := trim_l0 l.length l (Nat.le_refl _) hl
  rw [trim_comm] at this
  exact this
end Go.Proofs.YtomfdejamngkjaaDoor.Pure
