/- LinesHeads: the lines of any text; the header and the body of any message; the first field of any name. -/
import Derived.Test.YtomfdejamngkjaaDoorPureFew
import Derived.Test.YtomfdejamngkjaaDoorPrx4
import Derived.Test.YtomfdejamngkjaaDoorPureCutB
import Derived.Test.YtomfdejamngkjaaDoorPureCut
import Derived.Test.YtomfdejamngkjaaDoorPrx6
set_option linter.unusedVariables false
set_option linter.unusedSimpArgs false
namespace Go.Proofs.YtomfdejamngkjaaDoor.Pure
open Go Go.RowKit Go.Proofs.YtomfdejamngkjaaDoor.Pr Go.Proofs.YtomfdejamngkjaaDoorW.PrintWords Go.Proofs.YtomfdejamngkjaaDoorW.PrintLast Plain Go.Proofs.YtomfdejamngkjaaDoor
theorem white_eq (c : UInt8) : muslinref06_white.f (c.toNat : Int) = some (ws.contains c) := by
  unfold muslinref06_white.f
  by_cases h1 : c = 32
  · subst h1; rfl
  · have h3 : ¬ ((c.toNat : Int) = 32) := fun h => h1 ((u8_int c 32).1 h)
    rw [if_neg h3]
    by_cases h2 : c = 9
    · subst h2; rfl
    · have h4 : ¬ ((c.toNat : Int) = 9) := fun h => h2 ((u8_int c 9).1 h)
      have : ws.contains c = false := by simp [ws, h1, h2]
      rw [this]
      simp [h4]
theorem name_l0 (l : List UInt8) (hl : l.length ≤ 4611686018427387904) : ∀ (d i : Nat), i + d = l.length → Ev (fun k => muslinref06_name.l0 k (B l) (i : Int)) (!(l.drop i).any badB && !l.isEmpty) := by
  intro d
  induction d with
  | zero =>
    intro i hi
    refine .succ ?_
    simp only [muslinref06_name.l0]
    refine .ifn (by rw [B_size]; omega) (.of ?_)
    rw [List.drop_of_length_le (by omega), B_list]
    cases l <;> rfl
  | succ d ih =>
    intro i hi
    refine .succ ?_
    simp only [muslinref06_name.l0]
    have h1 : i < l.length := by omega
    refine .ifp (by rw [B_size]; omega) (.ifp (by omega) ?_)
    have hd := drop_cons_get l i h1
    rw [B_bt, hd, List.any_cons]
    generalize l.getD i 0 = c at *
    have hb : badB c = (decide ((c.toNat : Int) < 33) || decide ((c.toNat : Int) > 126) || decide ((c.toNat : Int) = 58)) := rfl
    by_cases a1 : (c.toNat : Int) < 33
    · refine .ifp a1 (.of ?_)
      rw [hb, decide_eq_true a1]; rfl
    · refine .ifn a1 ?_
      by_cases a2 : (c.toNat : Int) > 126
      · refine .ifp a2 (.of ?_)
        rw [hb, decide_eq_true a2, Bool.or_true]; rfl
      · refine .ifn a2 ?_
        by_cases a3 : (c.toNat : Int) = 58
        · refine .ifp a3 (.of ?_)
          rw [hb, decide_eq_true a3, Bool.or_true]; rfl
        · refine .ifn a3 ?_
          rw [w64 (by omega) (by omega), hb, decide_eq_false a1, decide_eq_false a2, decide_eq_false a3]
          simp only [Bool.false_or, Bool.or_false]
          exact ih (i + 1) (by omega)
theorem name_ev (l : List UInt8) (hl : l.length ≤ 4611686018427387904) : Ev (fun k => muslinref06_name.f k (B l)) (nameB l) := by
  have := name_l0 l hl l.length 0 (by omega)
  refine Ev.cast this ?_
  unfold nameB
  rw [List.drop_zero, Bool.and_comm]
section
variable (p : UInt8 → Bool)
def tl (l : List UInt8) : List UInt8 := l.dropWhile p
def tr (l : List UInt8) : List UInt8 := (l.reverse.dropWhile p).reverse
theorem tr_cons (x : UInt8) (l : List UInt8) : tr p (x :: l) = if tr p l = [] then (if p x then [] else [x]) else x :: tr p l := by
  unfold tr
  rw [List.reverse_cons, List.dropWhile_append]
  by_cases h : l.reverse.dropWhile p = []
  · rw [h]
    simp only [List.isEmpty_nil, if_true, List.reverse_nil]
    cases hp : p x <;> simp [List.dropWhile, hp]
  · have h2 : (l.reverse.dropWhile p).isEmpty = false := by cases hq : l.reverse.dropWhile p with
      | nil => exact absurd hq h
      | cons _ _ => rfl
    rw [h2]
    simp [h]
theorem tl_tr : ∀ l : List UInt8, tl p (tr p l) = tr p (tl p l)
  | [] => rfl
  | x :: l => by
    have ih := tl_tr l
    rw [tr_cons]
    cases hp : p x with
    | true =>
      have e : tl p (x :: l) = tl p l := by unfold tl; rw [List.dropWhile_cons, hp]; rfl
      rw [e, ← ih]
      by_cases h : tr p l = []
      · rw [if_pos h, h]; rfl
      · rw [if_neg h]
        unfold tl
        rw [List.dropWhile_cons, hp]; rfl
    | false =>
      have e : tl p (x :: l) = x :: l := by unfold tl; rw [List.dropWhile_cons, hp]; rfl
      rw [e, tr_cons, hp]
      by_cases h : tr p l = []
      · rw [if_pos h]
        unfold tl
        simp [List.dropWhile_cons, hp]
      · rw [if_neg h]
        unfold tl
        rw [List.dropWhile_cons, hp]; rfl
end
theorem trim_l1 : ∀ (n : Nat) (l : List UInt8), l.length ≤ n → n ≤ 4611686018427387904 → Ev (fun k => muslinref06_Trim.l1 k (B l)) (B (Lib.trimRightS l ws)) := by
  intro n
  induction n with
  | zero =>
    intro l h _
    obtain rfl : l = [] := List.eq_nil_of_length_eq_zero (by omega)
    refine .succ ?_
    simp only [muslinref06_Trim.l1]
    exact .ifn (by simp) (.of rfl)
  | succ n ih =>
    intro l h hn
    refine .succ ?_
    simp only [muslinref06_Trim.l1]
    rcases List.eq_nil_or_concat l with rfl | ⟨a, c, rfl⟩
    · exact .ifn (by simp) (.of rfl)
    · rw [List.concat_eq_append] at *
      have hs : (a ++ [c]).length = a.length + 1 := by simp
      have e1 : wrap64 (((B (a ++ [c])).size : Int) - 1) = (a.length : Int) := by rw [B_size, hs, w64 (by omega) (by omega)]; omega
      rw [e1, B_size, hs]
      refine .ifp (by omega) (.ifp (by omega) (.ifp (by omega) ?_))
      have eb : bt (B (a ++ [c])) (a.length : Int) = (c.toNat : Int) := by rw [B_bt]; simp
      rw [eb]
      refine .bindc (white_eq c) ?_
      have et : Lib.trimRightS (a ++ [c]) ws = if ws.contains c then Lib.trimRightS a ws else a ++ [c] := by
        unfold Lib.trimRightS
        rw [List.reverse_append]
        simp only [List.reverse_cons, List.reverse_nil, List.nil_append, List.singleton_append, List.dropWhile_cons]
        cases ws.contains c <;> simp
      rw [et]
      cases hc : ws.contains c with
      | true =>
        refine .ifp rfl (.ifp (by omega) ?_)
        rw [Int.toNat_natCast, B_extract]
        have : ((a ++ [c]).drop 0).take (a.length - 0) = a := by simp
        rw [this]
        exact ih a (by omega) (by omega)
      | false =>
        exact .ifn (by simp) (.of rfl)
theorem trim_l0 : ∀ (n : Nat) (l : List UInt8), l.length ≤ n → n ≤ 4611686018427387904 → Ev (fun k => muslinref06_Trim.l0 k (B l)) (B (Lib.trimRightS (Lib.trimLeftS l ws) ws)) := by
  intro n
  induction n with
  | zero =>
    intro l h _
    obtain rfl : l = [] := List.eq_nil_of_length_eq_zero (by omega)
    refine .succ ?_
    simp only [muslinref06_Trim.l0]
    refine .ifn (by simp) (.succ ?_)
    simp only [muslinref06_Trim.j1]
    exact trim_l1 0 [] (by simp) (by omega)
  | succ n ih =>
    intro l h hn
    refine .succ ?_
    simp only [muslinref06_Trim.l0]
    cases l with
    | nil =>
      refine .ifn (by simp) (.succ ?_)
      simp only [muslinref06_Trim.j1]
      exact trim_l1 0 [] (by simp) (by omega)
    | cons c a =>
      have hs : (c :: a).length = a.length + 1 := rfl
      rw [B_size, hs]
      refine .ifp (by omega) (.ifp (by omega) ?_)
      have eb : bt (B (c :: a)) 0 = (c.toNat : Int) := B_bt (c :: a) 0
      rw [eb]
      refine .bindc (white_eq c) ?_
      have et : Lib.trimLeftS (c :: a) ws = if ws.contains c then Lib.trimLeftS a ws else c :: a := by
        unfold Lib.trimLeftS
        rw [List.dropWhile_cons]
      rw [et]
      cases hc : ws.contains c with
      | true =>
        refine .ifp rfl (.ifp (by omega) ?_)
        rw [B_extract]
        have : ((c :: a).drop 1).take (a.length + 1 - 1) = a := by simp
        rw [this]
        exact ih a (by omega) (by omega)
      | false =>
        refine .ifn (by simp) (.succ ?_)
        simp only [muslinref06_Trim.j1]
        exact trim_l1 (a.length + 1) (c :: a) (by simp) (by omega)
theorem trim_comm (l : List UInt8) : Lib.trimRightS (Lib.trimLeftS l ws) ws = Lib.trimS l ws := (tl_tr (fun c => ws.contains c) l).symm
theorem trim_ev (l : List UInt8) (hl : l.length ≤ 4611686018427387904) : Ev (fun k => muslinref06_Trim.f k (B l)) (B (Lib.trimS l ws)) := by
  have := trim_l0 l.length l (Nat.le_refl _) hl
  rw [trim_comm] at this
  exact this
def trimF (x : S29) : S29 := ⟨x.f0, B (Lib.trimS x.f1.data.toList ws)⟩
/-- The reference keeps each value as it was read, and trims all at the end. -/
structure Rel (st : HdSt) (R : List S29) (b : Bool) : Prop where
  op : b = st.2.isSome
  map : R.map trimF = (shutL st).1
  last : ∀ vs, st.2 = some vs → ∃ R0 y, R = R0 ++ [y] ∧ y.f1 = B vs.flatten
theorem rel_start : Rel ([], none) [] false := ⟨rfl, rfl, fun vs h => by cases h⟩
theorem rel_white {st : HdSt} {R0 : List S29} {y : S29} {vs : List (List UInt8)} (h : Rel st (R0 ++ [y]) true) (hst : st.2 = some vs) (hf : st.1 ≠ []) (t : List UInt8) : Rel (st.1, some (vs ++ [t])) (R0 ++ [⟨y.f0, y.f1 ++ B t⟩]) true := by
  obtain ⟨out, o⟩ := st
  cases hst
  obtain ⟨R1, z, e1, hz⟩ := h.last vs rfl
  obtain ⟨rfl, e2⟩ := List.append_inj' e1 rfl
  cases e2
  obtain ⟨O0, q, rfl⟩ : ∃ O0 q, out = O0 ++ [q] := ⟨out.dropLast, out.getLast hf, (List.dropLast_concat_getLast _).symm⟩
  have hm := h.map
  have e3 : (shutL (O0 ++ [q], some vs)).1 = O0 ++ [⟨q.f0, B (Lib.trimS vs.flatten ws)⟩] := by simp [shutL, setLast, B]
  rw [e3, List.map_append] at hm
  obtain ⟨h1, h2⟩ := List.append_inj' hm rfl
  have h3 : y.f0 = q.f0 := by have := congrArg S29.f0 (List.cons.inj h2).1; exact this
  refine ⟨rfl, ?_, fun us hu => ⟨R0, _, rfl, ?_⟩⟩
  · have e4 : (shutL (O0 ++ [q], some (vs ++ [t]))).1 = O0 ++ [⟨q.f0, B (Lib.trimS (vs ++ [t]).flatten ws)⟩] := by simp [shutL, setLast, B]
    show (R0 ++ [(⟨y.f0, y.f1 ++ B t⟩ : S29)]).map trimF = _
    rw [e4, List.map_append, h1]
    unfold trimF
    simp [hz, h3]
  · cases hu
    show y.f1 ++ B t = _
    rw [hz, B_append]
    simp
theorem rel_new {st : HdSt} {R : List S29} {b : Bool} (h : Rel st R b) (nm vl : List UInt8) : Rel ((shutL st).1 ++ [⟨⟨nm.toArray⟩, ⟨#[]⟩⟩], some [vl]) (R ++ [⟨B nm, B vl⟩]) true := by
  refine ⟨rfl, ?_, fun us hu => ⟨R, _, rfl, by cases hu; simp⟩⟩
  have : (shutL ((shutL st).1 ++ [⟨⟨nm.toArray⟩, ⟨#[]⟩⟩], some [vl])).1 = (shutL st).1 ++ [⟨B nm, B (Lib.trimS vl ws)⟩] := by simp [shutL, setLast, B]
  rw [this, List.map_append, h.map]
  rfl
theorem rel_none {st : HdSt} {R : List S29} {b : Bool} (h : Rel st R b) : Rel ((shutL st).1, none) R false := ⟨rfl, h.map, fun vs h => by cases h⟩
theorem rel_len {st : HdSt} {R : List S29} {b : Bool} (h : Rel st R b) : R.length = (shutL st).1.length := by rw [← h.map, List.length_map]
theorem trimR_snoc (a : List UInt8) (c : UInt8) : Lib.trimRightS (a ++ [c]) ws = if ws.contains c then Lib.trimRightS a ws else a ++ [c] := by
  unfold Lib.trimRightS
  rw [List.reverse_append]
  simp only [List.reverse_cons, List.reverse_nil, List.nil_append, List.singleton_append, List.dropWhile_cons]
  cases ws.contains c <;> simp
theorem field_l1 (l : List UInt8) (p : Nat) (hp : p < l.length) (hl : l.length ≤ 4611686018427387904) : ∀ (n : Nat) (a : List UInt8), a.length ≤ n → n ≤ 4611686018427387904 →
    Ev (fun k => muslinref06_field.l1 k (B l) (p : Int) (B a)) (B (Lib.trimRightS a ws), B (l.drop (p + 1)), nameB (Lib.trimRightS a ws)) := by
  have ew : wrap64 ((p : Int) + 1) = ((p + 1 : Nat) : Int) := by rw [w64 (by omega) (by omega)]; omega
  have hex : (B l).extract (p + 1) l.length = B (l.drop (p + 1)) := B_from l (p + 1)
  intro n
  induction n with
  | zero =>
    intro a h _
    obtain rfl : a = [] := List.eq_nil_of_length_eq_zero (by omega)
    refine .succ ?_
    simp only [muslinref06_field.l1]
    rw [ew, B_size l]
    refine .ifn (by simp) (.ifp (by omega) (.ifp (by omega) (.bind (name_ev [] (by simp)) (.of ?_))))
    rw [Int.toNat_natCast, hex]; rfl
  | succ n ih =>
    intro a h hn
    refine .succ ?_
    simp only [muslinref06_field.l1]
    rcases List.eq_nil_or_concat a with rfl | ⟨a, c, rfl⟩
    · rw [ew, B_size l]
      refine .ifn (by simp) (.ifp (by omega) (.ifp (by omega) (.bind (name_ev [] (by simp)) (.of ?_))))
      rw [Int.toNat_natCast, hex]; rfl
    · rw [List.concat_eq_append] at *
      have hs : (a ++ [c]).length = a.length + 1 := by simp
      have e1 : wrap64 (((B (a ++ [c])).size : Int) - 1) = (a.length : Int) := by rw [B_size, hs, w64 (by omega) (by omega)]; omega
      rw [e1, ew, B_size, hs, B_size]
      refine .ifp (by omega) (.ifp (by omega) (.ifp (by omega) ?_))
      have eb : bt (B (a ++ [c])) (a.length : Int) = (c.toNat : Int) := by rw [B_bt]; simp
      rw [eb]
      refine .bindc (white_eq c) ?_
      rw [trimR_snoc]
      cases hc : ws.contains c with
      | true =>
        refine .ifp rfl (.ifp (by omega) ?_)
        rw [Int.toNat_natCast, B_extract]
        have : ((a ++ [c]).drop 0).take (a.length - 0) = a := by simp
        rw [this]
        exact ih a (by omega) (by omega)
      | false =>
        refine .ifn (by simp) (.ifp (by omega) (.ifp (by omega) (.bind (name_ev (a ++ [c]) (by omega)) (.of ?_))))
        rw [Int.toNat_natCast, hex]; rfl
def fieldV (l : List UInt8) : ByteArray × ByteArray × Bool :=
  if (brk1 58 l).2.2 then (B (Lib.trimRightS (brk1 58 l).1 ws), B (brk1 58 l).2.1, nameB (Lib.trimRightS (brk1 58 l).1 ws)) else (B [], B [], false)
theorem field_l0 (l : List UInt8) (hl : l.length ≤ 4611686018427387904) : ∀ (d j : Nat), j + d = (brk1 58 l).1.length → Ev (fun k => muslinref06_field.l0 k (B l) (j : Int)) (fieldV l) := by
  intro d
  induction d with
  | zero =>
    intro j hj
    refine .succ ?_
    simp only [muslinref06_field.l0]
    unfold fieldV
    cases hf : (brk1 58 l).2.2 with
    | false =>
      have hn := (brk_none l 58 hf).1
      rw [hn] at hj
      exact .ifn (by rw [B_size]; omega) (.of rfl)
    | true =>
      obtain ⟨h1, h2, h3, h4⟩ := brk_at l 58 hf
      obtain rfl : j = (brk1 58 l).1.length := by omega
      refine .ifp (by rw [B_size]; omega) (.ifp (by omega) (.ifp ?_ (.ifp (by rw [B_size]; omega) ?_)))
      · rw [B_bt, h2]; rfl
      · rw [Int.toNat_natCast, B_upto, h3]
        have := field_l1 l _ h1 hl (brk1 58 l).1.length (brk1 58 l).1 (Nat.le_refl _) (by omega)
        rw [h4] at this
        exact this
  | succ d ih =>
    intro j hj
    have hlt : j < (brk1 58 l).1.length := by omega
    have hle : (brk1 58 l).1.length ≤ l.length := by
      cases hf : (brk1 58 l).2.2 with
      | false => rw [(brk_none l 58 hf).1]; exact Nat.le_refl _
      | true => exact Nat.le_of_lt (brk_at l 58 hf).1
    refine .succ ?_
    simp only [muslinref06_field.l0]
    refine .ifp (by rw [B_size]; omega) (.ifp (by omega) (.ifn ?_ ?_))
    · rw [B_bt]
      exact fun h => brk_get l 58 j hlt ((u8_int _ 58).1 h)
    · rw [w64 (by omega) (by omega)]
      exact ih (j + 1) (by omega)
theorem field_ev (l : List UInt8) (hl : l.length ≤ 4611686018427387904) : Ev (fun k => muslinref06_field.f k (B l)) (fieldV l) := field_l0 l hl (brk1 58 l).1.length 0 (by omega)
theorem fieldV_of (x : Ln) : fieldV x.1 = if (Lib.cut x.1 [58]).2.2 then (B (nameOf x), B (valOf x), nameB (nameOf x)) else (B [], B [], false) := by
  unfold fieldV nameOf valOf
  rw [brk1_cut]
/-- The answer of the reference's Next at a place. -/
def nextV (l : List UInt8) (at_ : Nat) : Int × ByteArray × Bool :=
  if (brk1 10 (l.drop at_)).2.2 then (((at_ + (brk1 10 (l.drop at_)).1.length + 1 : Nat) : Int), B (chop (brk1 10 (l.drop at_)).1), true) else ((l.length : Int), B (l.drop at_), false)
theorem next_j1 (l : List UInt8) (hl : l.length ≤ 4611686018427387904) (at_ : Nat) (ha : at_ ≤ l.length) :
    Ev (fun k => muslinref06_Next.j1 k (B l) (at_ : Int) ((at_ + (brk1 10 (l.drop at_)).1.length : Nat) : Int)) (nextV l at_) := by
  refine .succ ?_
  simp only [muslinref06_Next.j1]
  unfold nextV
  cases hf : (brk1 10 (l.drop at_)).2.2 with
  | false =>
    have hn := (brk_none _ 10 hf).1
    have hlen : at_ + (brk1 10 (l.drop at_)).1.length = l.length := by rw [hn]; simp; omega
    rw [hlen]
    refine .ifp (by simp) (.ifp (by omega) (.ifp (by simp; omega) (.of ?_)))
    rw [B_size, Int.toNat_natCast, B_from]; rfl
  | true =>
    obtain ⟨h1, h2, h3, h4⟩ := brk_at _ 10 hf
    have hnil := brk_get (l.drop at_) 10
    generalize (brk1 10 (l.drop at_)).1 = a at *
    simp only [List.length_drop] at h1
    have e1 : wrap64 (((at_ + a.length : Nat) : Int) + 1) = ((at_ + a.length + 1 : Nat) : Int) := by rw [w64 (by omega) (by omega)]; omega
    have ex1 : ((l.drop at_).take (at_ + a.length - at_)) = a := by rw [Nat.add_sub_cancel_left]; exact h3
    rw [if_pos rfl, chop_eq]
    refine .ifn (by simp; omega) ?_
    by_cases h0 : a = []
    · subst h0
      refine .ifn (by simp) (.ifp (by omega) (.ifp (by simp) (.ifp (by simp; omega) (.of ?_))))
      rw [e1, Int.toNat_natCast, Int.toNat_natCast, B_extract, ex1]
      simp
    · have hp : 0 < a.length := List.length_pos_iff.2 h0
      have e2 : wrap64 (((at_ + a.length : Nat) : Int) - 1) = ((at_ + a.length - 1 : Nat) : Int) := by rw [w64 (by omega) (by omega)]; omega
      rw [e1, e2]
      have hb : l.getD (at_ + a.length - 1) 0 = a.getD (a.length - 1) 0 := by
        have : at_ + a.length - 1 = at_ + (a.length - 1) := by omega
        rw [this, ← getD_drop, ← h3]
        rw [List.getD_eq_getElem?_getD, List.getD_eq_getElem?_getD, List.getElem?_take]
        rw [List.length_take, if_pos (by rw [Nat.min_eq_left (by simp; omega)]; omega), Nat.min_eq_left (by simp; omega)]
      refine .ifp (by omega) (.ifp (by omega) (.ifp (by simp; omega) ?_))
      rw [B_bt, hb]
      by_cases hc : a.getD (a.length - 1) 0 = 13
      · refine .ifp ((u8_int _ 13).2 hc) (.ifp (by omega) (.ifp (by omega) (.ifp (by simp; omega) (.of ?_))))
        rw [if_pos ⟨h0, hc⟩, Int.toNat_natCast, Int.toNat_natCast, B_extract]
        have : (l.drop at_).take (at_ + a.length - 1 - at_) = a.take (a.length - 1) := by
          rw [← h3, List.take_take]
          congr 1
          rw [List.length_take, Nat.min_eq_left (by simp; omega)]; omega
        rw [this]
      · refine .ifn (fun hh => hc ((u8_int _ 13).1 hh)) (.ifp (by omega) (.ifp (by omega) (.ifp (by simp; omega) (.of ?_))))
        rw [if_neg (fun hh => hc hh.2), Int.toNat_natCast, Int.toNat_natCast, B_extract, ex1]
theorem next_l0 (l : List UInt8) (hl : l.length ≤ 4611686018427387904) (at_ : Nat) (ha : at_ ≤ l.length) : ∀ (d j : Nat), j + d = (brk1 10 (l.drop at_)).1.length →
    Ev (fun k => muslinref06_Next.l0 k (B l) (at_ : Int) ((at_ + j : Nat) : Int)) (nextV l at_) := by
  intro d
  induction d with
  | zero =>
    intro j hj
    have hJ := next_j1 l hl at_ ha
    rw [Nat.add_zero] at hj
    refine .succ ?_
    simp only [muslinref06_Next.l0]
    by_cases hlt : at_ + j < l.length
    · refine .ifp (by simp; omega) (.ifp (by omega) ?_)
      rw [← hj] at hJ
      cases hf : (brk1 10 (l.drop at_)).2.2 with
      | false =>
        have hn := (brk_none _ 10 hf).1
        rw [hn] at hj; simp at hj; omega
      | true =>
        have h2 := (brk_at _ 10 hf).2.1
        rw [← hj, getD_drop] at h2
        rw [B_bt, h2]
        exact .ifp rfl hJ
    · rw [← hj] at hJ
      exact .ifn (by simp; omega) hJ
  | succ d ih =>
    intro j hj
    have hs : (brk1 10 (l.drop at_)).1.length ≤ (l.drop at_).length := by
      cases hf : (brk1 10 (l.drop at_)).2.2 with
      | false => rw [(brk_none _ 10 hf).1]; exact Nat.le_refl _
      | true => have := (brk_at _ 10 hf).1; omega
    simp only [List.length_drop] at hs
    have hg := brk_get (l.drop at_) 10 j (by omega)
    rw [getD_drop] at hg
    refine .succ ?_
    simp only [muslinref06_Next.l0]
    refine .ifp (by simp; omega) (.ifp (by omega) ?_)
    rw [B_bt]
    refine .ifn (fun hh => hg ((u8_int _ 10).1 hh)) ?_
    have e1 : wrap64 (((at_ + j : Nat) : Int) + 1) = ((at_ + (j + 1) : Nat) : Int) := by rw [w64 (by omega) (by omega)]; omega
    rw [e1]
    exact ih (j + 1) (by omega)
theorem refNext (l : List UInt8) (hl : l.length ≤ 4611686018427387904) (at_ : Nat) (ha : at_ ≤ l.length) : Ev (fun k => muslinref06_Next.f k (B l) (at_ : Int)) (nextV l at_) :=
  next_l0 l hl at_ ha _ 0 (Nat.zero_add _)
theorem refCut_l0 (l : List UInt8) (hl : l.length ≤ 4398046511104) : ∀ (d at_ : Nat) (out : List ByteArray), l.length - at_ ≤ d → at_ ≤ l.length → out.length ≤ at_ →
    Ev (fun k => muslinref06_Cut.l0 k (B l) out (at_ : Int)) (out ++ Pr.bytesOf (cutL (l.drop at_))) := by
  intro d
  induction d with
  | zero =>
    intro at_ out hd ha ho
    refine .succ ?_
    simp only [muslinref06_Cut.l0]
    refine .ifn (by simp; omega) (.of ?_)
    rw [List.drop_eq_nil_of_le (by omega), cutL_nil]; simp [Pr.bytesOf]
  | succ d ih =>
    intro at_ out hd ha ho
    refine .succ ?_
    simp only [muslinref06_Cut.l0]
    by_cases hlt : at_ < l.length
    · refine .ifp (by simp; omega) (.bind (refNext l (by omega) at_ ha) (.ifp (by omega) ?_))
      have hne : l.drop at_ ≠ [] := by intro h; have := drop_nil_le _ _ h; omega
      rw [cutL_cons hne]
      unfold nextV
      cases hf : (brk1 10 (l.drop at_)).2.2 with
      | true =>
        obtain ⟨h1, h2, h3, h4⟩ := brk_at _ 10 hf
        simp only [List.length_drop] at h1
        rw [if_pos rfl, if_pos rfl]
        rw [List.drop_drop] at h4
        refine (ih (at_ + (brk1 10 (l.drop at_)).1.length + 1) (out ++ [B (chop (brk1 10 (l.drop at_)).1)]) (by omega) (by omega) (by simp; omega)).cast ?_
        rw [← h4, bytesOf_cons, List.append_assoc, Nat.add_assoc]; rfl
      | false =>
        obtain ⟨h1, h2⟩ := brk_none _ 10 hf
        rw [if_neg (by simp), if_neg (by simp), h1, h2]
        refine (ih l.length (out ++ [B (l.drop at_)]) (by omega) (by omega) (by simp; omega)).cast ?_
        rw [List.drop_length, bytesOf_cons, List.append_assoc]; rfl
    · refine .ifn (by simp; omega) (.of ?_)
      rw [List.drop_eq_nil_of_le (by omega), cutL_nil]; simp [Pr.bytesOf]
theorem refCut (l : List UInt8) (hl : l.length ≤ 4398046511104) : Ev (fun k => muslinref06_Cut.f k (B l)) (Pr.bytesOf (cutL l)) :=
  (refCut_l0 l hl _ 0 [] (Nat.le_refl _) (Nat.zero_le _) (Nat.le_refl _)).cast (by simp)
theorem chop_le' (a : List UInt8) : (chop a).length ≤ a.length := by
  rw [chop_eq]
  split
  · rw [List.length_take]; omega
  · exact Nat.le_refl _
theorem head_l1 (R : List S29) (bd : ByteArray) (hl : R.length ≤ 500) (hx : ∀ x ∈ R, x.f1.size ≤ 4611686018427387904) : ∀ (d i : Nat), i + d = R.length →
    Ev (fun k => muslinref06_Head.l1 k ((R.take i).map trimF ++ R.drop i) bd (i : Int)) (R.map trimF, bd) := by
  intro d
  induction d with
  | zero =>
    intro i hi
    refine .succ ?_
    simp only [muslinref06_Head.l1]
    have e : (R.take i).map trimF ++ R.drop i = R.map trimF := by
      rw [List.take_of_length_le (by omega), List.drop_of_length_le (by omega), List.append_nil]
    rw [e]
    exact .ifn (by simp; omega) (.pure _)
  | succ d ih =>
    intro i hi
    have hi1 : i < R.length := by omega
    have hlen : ((R.take i).map trimF).length = i := by simp; omega
    have hd : R.drop i = R[i] :: R.drop (i + 1) := List.drop_eq_getElem_cons hi1
    have hget : rd_T29 ((R.take i).map trimF ++ R.drop i) (i : Int) = R[i] := by
      rw [rd29 _ i (by simp; omega)]
      rw [List.getElem_append_right (by omega)]
      simp only [hlen, Nat.sub_self, List.getElem_drop, Nat.add_zero]
    refine .succ ?_
    simp only [muslinref06_Head.l1]
    refine .ifp (by simp; omega) (.ifp (by omega) ?_)
    rw [hget]
    have ht := trim_ev R[i].f1.data.toList (by rw [show R[i].f1.data.toList.length = R[i].f1.size by simp]; exact hx _ (List.getElem_mem hi1))
    rw [(B_of R[i].f1).symm] at ht
    refine .bind ht ?_
    rw [Int.toNat_natCast, w64 (by omega) (by omega)]
    have e : ((R.take i).map trimF ++ R.drop i).set i ⟨R[i].f0, B (Lib.trimS R[i].f1.data.toList ws)⟩ = (R.take (i + 1)).map trimF ++ R.drop (i + 1) := by
      rw [List.set_append_right _ _ (by omega), hlen, Nat.sub_self, hd, List.take_add_one, List.getElem?_eq_getElem hi1]
      simp only [List.set_cons_zero, List.map_append, Option.toList_some, List.map_cons, List.map_nil, List.append_assoc, List.singleton_append, trimF]
    rw [e]
    exact ih (i + 1) (by omega)
theorem head_j3 (R : List S29) (bd : ByteArray) (hl : R.length ≤ 500) (hx : ∀ x ∈ R, x.f1.size ≤ 4611686018427387904) : Ev (fun k => muslinref06_Head.j3 k R bd) (R.map trimF, bd) := by
  refine .succ ?_
  simp only [muslinref06_Head.j3]
  have := head_l1 R bd hl hx R.length 0 (by omega)
  simpa using this
theorem next_x (l : List UInt8) (at_ : Nat) (h : at_ < l.length) : ∃ pos : Nat, nextV l at_ = ((pos : Int), B (lineOf (l.drop at_)).1, (lineOf (l.drop at_)).2.2) ∧ (lineOf (l.drop at_)).2.1 = l.drop pos ∧ pos ≤ l.length ∧ at_ < pos ∧ at_ + (lineOf (l.drop at_)).1.length ≤ pos := by
  rw [lineOf_brk]
  unfold nextV
  cases hf : (brk1 10 (l.drop at_)).2.2 with
  | false =>
    obtain ⟨h1, h2⟩ := brk_none _ 10 hf
    refine ⟨l.length, by simp [h1], ?_, Nat.le_refl _, h, ?_⟩
    · show (brk1 10 (l.drop at_)).2.1 = _
      rw [h2, List.drop_length]
    · simp [h1]; omega
  | true =>
    obtain ⟨h1, h2, h3, h4⟩ := brk_at _ 10 hf
    simp only [List.length_drop] at h1
    refine ⟨at_ + (brk1 10 (l.drop at_)).1.length + 1, by simp, ?_, by omega, by omega, ?_⟩
    · show (brk1 10 (l.drop at_)).2.1 = _
      rw [← h4, List.drop_drop]
      congr 1
    · have := chop_le' (brk1 10 (l.drop at_)).1
      simp only [if_true]
      omega
def headR (l : List UInt8) (st : HdSt) (at_ : Nat) : List S29 × ByteArray := ((shutL (hdRun (linesL (l.drop at_)) st).1).1, B (hdRun (linesL (l.drop at_)) st).2)
theorem rel_sizes {st : HdSt} {R : List S29} {b : Bool} (h : Rel st R b) (hs : ∀ x ∈ R, x.f1.size ≤ 1000000) : R.map trimF = (shutL st).1 := h.map
theorem small_up {st : HdSt} {k b k' b' : Nat} (h : HdSmall st k b) (h1 : k ≤ k') (h2 : b ≤ b') : HdSmall st k' b' := ⟨h.out, fun vs hv => by have := h.vals vs hv; omega, h.fit⟩
theorem head_l0 (l : List UInt8) (hl : l.length ≤ 1000000) : ∀ (d at_ : Nat) (st : HdSt) (R : List S29) (b : Bool), l.length - at_ ≤ d → at_ ≤ l.length → Rel st R b → HdSmall st at_ at_ → (∀ x ∈ R, x.f1.size ≤ at_) →
    Ev (fun k => muslinref06_Head.l0 k (B l) R (B []) b (at_ : Int)) (headR l st at_) := by
  intro d
  induction d with
  | zero =>
    intro at_ st R b hd ha hR hS hx
    refine .succ ?_
    simp only [muslinref06_Head.l0]
    have e : headR l st at_ = (R.map trimF, B []) := by
      unfold headR
      rw [List.drop_of_length_le (by omega), linesL_nil, hR.map]; rfl
    rw [e]
    refine .ifn (by rw [B_size]; omega) (head_j3 R (B []) (by rw [rel_len hR, shutL_len]; exact hS.out) (fun x hm => by have := hx x hm; omega))
  | succ d ih =>
    intro at_ st R b hd ha hR hS hx
    have hRl : R.length ≤ 500 := by rw [rel_len hR, shutL_len]; exact hS.out
    refine .succ ?_
    simp only [muslinref06_Head.l0]
    by_cases hlt : at_ < l.length
    · obtain ⟨pos, e1, e2, e3, e4, e5⟩ := next_x l at_ hlt
      refine .ifp (by rw [B_size]; omega) (.bind (refNext l (by omega) at_ (by omega)) ?_)
      have hlines : linesL (l.drop at_) = lineOf (l.drop at_) :: linesL (l.drop pos) := by
        rw [linesL_cons (by intro h; have := congrArg List.length h; simp at this; omega), e2]
      have hres : headR l st at_ = if stops (lineOf (l.drop at_)) then ((shutL st).1, B (l.drop pos)) else headR l (hdLine st (lineOf (l.drop at_))) pos := by
        unfold headR
        rw [hlines, hdRun, e2]
        split <;> rfl
      rw [e1, hres]
      generalize lineOf (l.drop at_) = x at *
      have hJ : Ev (fun k => muslinref06_Head.j1 k (B l) R (B []) b (pos : Int) (B x.1) (stops x)) (if stops x then ((shutL st).1, B (l.drop pos)) else headR l (hdLine st x) pos) := by
        have hSm := hdLine_small hS x
        have hS' : HdSmall (hdLine st x) pos pos := small_up hSm (by omega) (by omega)
        have hJ2 : Ev (fun k => muslinref06_Head.j2 k (B l) R (B []) b (pos : Int) (B x.1) (whiteHead x.1)) (headR l (hdLine st x) pos) := by
          refine .succ ?_
          simp only [muslinref06_Head.j2]
          cases hw : whiteHead x.1 with
          | true =>
            refine .ifp (by rfl) ?_
            have hop := hR.op
            have hline := hdLine_white (st := st) hw
            rw [hline] at hS' ⊢
            cases hst : st.2 with
            | none =>
              rw [hst] at hop hS'
              subst hop
              refine .ifn (by simp) ?_
              refine ih pos _ R false (by omega) e3 ?_ hS' (fun y hy => by have := hx y hy; omega)
              have := hR
              obtain ⟨o1, o2⟩ := st
              cases hst
              exact this
            | some vs =>
              rw [hst] at hop hS'
              subst hop
              refine .ifp (by rfl) ?_
              obtain ⟨R0, y, rfl, hy⟩ := hR.last vs hst
              have hyx := hx y (by simp)
              have hlen : (R0 ++ [y]).length = R0.length + 1 := by simp
              have ew : wrap64 (((R0 ++ [y]).length : Int) - 1) = (R0.length : Int) := by rw [w64 (by omega) (by omega)]; omega
              have eg : rd_T29 (R0 ++ [y]) (R0.length : Int) = y := by rw [rd29 _ _ (by simp)]; simp
              rw [ew, eg]
              refine .ifp (by omega) (.ifp (by omega) (.ifp (by rw [B_size]; omega) ?_))
              have es : (R0 ++ [y]).set R0.length ⟨y.f0, y.f1 ++ B x.1⟩ = R0 ++ [⟨y.f0, y.f1 ++ B x.1⟩] := by
                rw [List.set_append_right _ _ (Nat.le_refl _), Nat.sub_self]; rfl
              rw [Int.toNat_natCast, es]
              refine ih pos _ _ true (by omega) e3 (rel_white hR hst (hS.fit (by rw [hst]; simp)) x.1) hS' (fun z hz => ?_)
              rcases List.mem_append.1 hz with hz | hz
              · have := hx z (by simp [hz]); omega
              · rw [List.mem_singleton.1 hz]
                show (y.f1 ++ B x.1).size ≤ _
                rw [ByteArray.size_append, B_size]; omega
          | false =>
            refine .ifn (by simp) (.bind (field_ev x.1 (by omega)) ?_)
            rw [fieldV_of]
            have hfi : fieldIs x = ((Lib.cut x.1 [58]).2.2 && nameB (nameOf x)) := rfl
            have hvl : (valOf x).length ≤ x.1.length := (cut_len x.1 58).2.1
            have hRn : R.length = (shutL st).1.length := rel_len hR
            have hno : fieldIs x = false → Ev (fun k => muslinref06_Head.l0 k (B l) R (B []) false (pos : Int)) (headR l (hdLine st x) pos) := fun hf => by
              have e := hdLine_no (st := st) hw (.inl hf)
              rw [e] at hS' ⊢
              exact ih pos _ R false (by omega) e3 (rel_none hR) hS' (fun y hy => by have := hx y hy; omega)
            cases hc : (Lib.cut x.1 [58]).2.2 with
            | false => exact .ifn (by simp) (hno (by rw [hfi, hc]; rfl))
            | true =>
              cases hn : nameB (nameOf x) with
              | false => exact .ifn (by simp) (hno (by rw [hfi, hc, hn]; rfl))
              | true =>
                refine .ifp (by simp) ?_
                by_cases h5 : R.length < 500
                · refine .ifp (by omega) (.ifp (by omega) ?_)
                  have e := hdLine_new (st := st) hw (by rw [hfi, hc, hn]; rfl) (by omega)
                  rw [e] at hS' ⊢
                  rw [show decide ((R.length : Int) < 500) = true from decide_eq_true (by omega)]
                  refine ih pos _ _ true (by omega) e3 (rel_new hR (nameOf x) (valOf x)) hS' (fun z hz => ?_)
                  rcases List.mem_append.1 hz with hz | hz
                  · have := hx z hz; omega
                  · rw [List.mem_singleton.1 hz]
                    show (B (valOf x)).size ≤ _
                    rw [B_size]; omega
                · refine .ifn (by omega) ?_
                  have e := hdLine_no (st := st) hw (.inr (by omega))
                  rw [e] at hS' ⊢
                  rw [show decide ((R.length : Int) < 500) = false from decide_eq_false (by omega)]
                  exact ih pos _ R false (by omega) e3 (rel_none hR) hS' (fun y hy => by have := hx y hy; omega)
        refine .succ ?_
        simp only [muslinref06_Head.j1]
        cases hstop : stops x with
        | true =>
          refine .ifp (by rfl) (.ifp (by omega) (.ifp (by rw [B_size]; omega) ?_))
          rw [Int.toNat_natCast, B_size, B_from]
          have := head_j3 R (B (l.drop pos)) hRl (fun x hm => by have := hx x hm; omega)
          rw [hR.map] at this
          exact this
        | false =>
          refine .ifn (by simp) ?_
          rw [if_neg (by simp)]
          cases hq : x.1 with
          | nil =>
            rw [hq] at hJ2
            exact .ifp (B_list []) hJ2
          | cons c t =>
            rw [hq] at hJ2
            refine .ifn (by rw [B_list]; simp) (.ifp (by rw [B_size]; simp) ?_)
            rw [show bt (B (c :: t)) 0 = (c.toNat : Int) from B_bt (c :: t) 0]
            exact .bindc (white_eq c) hJ2
      by_cases h0 : x.1 = []
      · have : stops x = x.2.2 := by unfold stops; rw [h0]; rfl
        rw [this] at hJ
        rw [this]
        exact .ifp (by rw [B_list]; exact h0) hJ
      · have : stops x = false := by unfold stops; cases hq : x.1 with
          | nil => exact absurd hq h0
          | cons _ _ => rfl
        rw [this] at hJ
        rw [this]
        exact .ifn (by rw [B_list]; exact h0) hJ
    · have e : headR l st at_ = (R.map trimF, B []) := by
        unfold headR
        rw [List.drop_of_length_le (by omega), linesL_nil, hR.map]; rfl
      rw [e]
      exact .ifn (by rw [B_size]; omega) (head_j3 R (B []) hRl (fun x hm => by have := hx x hm; omega))
theorem same_l0 (a : List S29) (hl : a.length ≤ 4611686018427387904) : ∀ (d i : Nat), i + d = a.length → Ev (fun k => muslinref06_Same.l0 k a a (i : Int)) true := by
  intro d
  induction d with
  | zero =>
    intro i hi
    refine .succ ?_
    simp only [muslinref06_Same.l0]
    exact .ifn (by omega) (.pure _)
  | succ d ih =>
    intro i hi
    refine .succ ?_
    simp only [muslinref06_Same.l0]
    refine .ifp (by omega) (.ifp (by omega) (.ifp (by omega) (.ifn (by simp) ?_)))
    rw [w64 (by omega) (by omega)]
    exact ih (i + 1) (by omega)
theorem same_refl (a : List S29) (hl : a.length ≤ 4611686018427387904) : Ev (fun k => muslinref06_Same.f k a a) true := by
  unfold muslinref06_Same.f
  exact .ifp rfl (same_l0 a hl a.length 0 (by omega))
theorem head_ev (l : List UInt8) (hl : l.length ≤ 1000000) : Ev (fun k => muslinref06_Head.f k (B l)) ((headL l).1, B (headL l).2) := by
  have := head_l0 l hl l.length 0 ([], none) [] false (by omega) (by omega) rel_start ⟨by simp, fun vs hv => (by cases hv), fun hv => absurd rfl hv⟩ (fun x hx => by cases hx)
  exact this
/-- Names no longer than so much. -/
def NmLe (n : Nat) (l : List S29) : Prop := l.length ≤ 500 ∧ ∀ x ∈ l, x.f0.size ≤ n
theorem nm_setLast {n : Nat} {out : List S29} (h : NmLe n out) (v : List UInt8) : NmLe n (setLast out v) := by
  refine ⟨by rw [setLast_len]; exact h.1, fun x hx => ?_⟩
  rcases List.eq_nil_or_concat out with rfl | ⟨i, y, rfl⟩
  · cases hx
  · rw [List.concat_eq_append] at *
    have e : setLast (i ++ [y]) v = i ++ [⟨y.f0, ⟨v.toArray⟩⟩] := by simp [setLast]
    rw [e] at hx
    rcases List.mem_append.1 hx with hx | hx
    · exact h.2 x (by simp [hx])
    · rw [List.mem_singleton.1 hx]
      exact h.2 y (by simp)
theorem nm_shut {n : Nat} {st : HdSt} (h : NmLe n st.1) : NmLe n (shutL st).1 := by
  obtain ⟨out, o⟩ := st
  cases o with
  | none => exact h
  | some vs => exact nm_setLast h _
theorem trimR_le : ∀ (n : Nat) (l : List UInt8), l.length ≤ n → (Lib.trimRightS l ws).length ≤ l.length := by
  intro n
  induction n with
  | zero =>
    intro l h
    obtain rfl : l = [] := List.eq_nil_of_length_eq_zero (by omega)
    exact Nat.le_refl _
  | succ n ih =>
    intro l h
    rcases List.eq_nil_or_concat l with rfl | ⟨a, c, rfl⟩
    · exact Nat.le_refl _
    · rw [List.concat_eq_append] at *
      rw [trimR_snoc]
      split
      · have := ih a (by simp at h; omega)
        simp; omega
      · exact Nat.le_refl _
theorem nameOf_le (x : Ln) : (nameOf x).length ≤ x.1.length := Nat.le_trans (trimR_le _ _ (Nat.le_refl _)) (cut_len x.1 58).1
theorem nm_line {n : Nat} {st : HdSt} (h : NmLe n st.1) (x : Ln) (hx : x.1.length ≤ n) : NmLe n (hdLine st x).1 := by
  unfold hdLine
  split
  · exact h
  · unfold hdNew
    have hs := nm_shut h
    split
    · rename_i hc
      rw [Bool.and_eq_true, decide_eq_true_eq] at hc
      refine ⟨by simp; omega, fun y hy => ?_⟩
      rcases List.mem_append.1 hy with hy | hy
      · exact hs.2 y hy
      · rw [List.mem_singleton.1 hy]
        have := nameOf_le x
        show (B (nameOf x)).size ≤ n
        rw [B_size]; omega
    · exact hs
theorem nm_run {n : Nat} : ∀ (ls : List Ln) (st : HdSt), NmLe n st.1 → (∀ x ∈ ls, x.1.length ≤ n) → NmLe n (hdRun ls st).1.1
  | [], st, h, _ => h
  | x :: r, st, h, hx => by
    rw [hdRun]
    split
    · exact h
    · exact nm_run r _ (nm_line h x (hx x (by simp))) (fun y hy => hx y (by simp [hy]))
theorem mem_flat {α : Type} {l : List (List α)} {a : List α} (h : a ∈ l) : a.length ≤ l.flatten.length := by
  induction l with
  | nil => cases h
  | cons b l ih =>
    rw [List.flatten_cons, List.length_append]
    rcases List.mem_cons.1 h with rfl | h
    · omega
    · have := ih h; omega
theorem headL_nm (l : List UInt8) : NmLe l.length (headL l).1 := by
  refine nm_shut (nm_run _ _ ⟨by simp, fun x hx => by cases hx⟩ (fun x hx => ?_))
  exact Nat.le_trans (mem_flat (List.mem_map_of_mem hx)) (linesL_sum _ l (Nat.le_refl _))
theorem small_ok (s : ByteArray) (h : s.size ≤ 1000000) : muslinref03_Small.f s = some ⟨(small s.data.toList).toArray⟩ := by
  unfold muslinref03_Small.f
  rw [if_pos (by omega)]
theorem refGet_l0 (l : List S29) (nm : ByteArray) (hl : l.length ≤ 500) (hx : ∀ x ∈ l, x.f0.size ≤ 1000000) (hn : nm.size ≤ 1000000) : ∀ (d i : Nat), i + d = l.length → Ev (fun k => muslinref06_Get.l0 k l nm (i : Int)) (getL (l.drop i) nm) := by
  intro d
  induction d with
  | zero =>
    intro i hi
    refine .succ ?_
    simp only [muslinref06_Get.l0]
    rw [List.drop_of_length_le (by omega)]
    exact .ifn (by omega) (.of rfl)
  | succ d ih =>
    intro i hi
    have hi1 : i < l.length := by omega
    refine .succ ?_
    simp only [muslinref06_Get.l0]
    refine .ifp (by omega) (.ifp (by omega) ?_)
    rw [rd29 l i hi1, List.drop_eq_getElem_cons hi1]
    refine .bindc (small_ok _ (hx _ (List.getElem_mem hi1))) (.bindc (small_ok nm hn) ?_)
    have e1 : ∀ z : List UInt8, (⟨z.toArray⟩ : ByteArray).toList = z := fun z => B_list z
    rw [e1, e1]
    by_cases hs : small l[i].f0.data.toList = small nm.data.toList
    · have : nameIs nm l[i] = true := beq_iff_eq.2 hs
      rw [getL_hit _ _ _ this]
      exact .ifp hs (.pure _)
    · have : nameIs nm l[i] = false := beq_eq_false_iff_ne.2 hs
      rw [getL_miss _ _ _ this, w64 (by omega) (by omega)]
      exact .ifn hs (ih (i + 1) (by omega))
theorem refGet (l : List S29) (nm : ByteArray) (hl : l.length ≤ 500) (hx : ∀ x ∈ l, x.f0.size ≤ 1000000) (hn : nm.size ≤ 1000000) : Ev (fun k => muslinref06_Get.f k l nm) (getL l nm) := by
  have := refGet_l0 l nm hl hx hn l.length 0 (by omega)
  exact this
theorem hd_j0_true (a b : ByteArray) : Ev (fun k => muslinlaw06_LinesHeads.j0 k a b true) true := by
  refine .succ ?_
  simp only [muslinlaw06_LinesHeads.j0]
  exact .ifp (by simp) (.bind live_ev (.pure _))
theorem hd_j0 (l : List UInt8) (nm : ByteArray) (hl : l.length ≤ 5000) (hn : nm.size ≤ 5000) : Ev (fun k => muslinlaw06_LinesHeads.j0 k (B l) nm false) true := by
  refine .succ ?_
  simp only [muslinlaw06_LinesHeads.j0]
  obtain ⟨hn1, hn2⟩ := headL_nm l
  have hh : lines_Head.f (B l) = some ((headL l).1, B (headL l).2) := by
    unfold lines_Head.f
    rw [if_pos (by rw [B_size]; omega), B_data]; rfl
  have g1 := get_ok (headL l).1 nm (Nat.le_trans hn1 (by decide)) hn (fun x hx => Nat.le_trans (hn2 x hx) (by omega))
  have g2 := refGet (headL l).1 nm hn1 (fun x hx => Nat.le_trans (hn2 x hx) (by omega)) (by omega)
  have g3 := same_refl (headL l).1 (Nat.le_trans hn1 (by decide))
  refine .ifn (by simp) (.bindc hh (.bind (head_ev l (by omega)) (.bindc g1 (.bind g2 (.bind g3 ?_)))))
  refine .ifp rfl (.ifp rfl (.ifp rfl (.ifp (by simp) (.bindc (linesCut l (by omega)) (.bind (refCut l (by omega)) (.bind (a := true) ?_ (.ifp rfl (.bind live_ev (.pure _)))))))))
  have := texts_ev (cutL l) (cutL l) (by have := cutL_len l; omega)
  simpa using this
theorem LinesHeads : muslinlaw06_LinesHeads.Pure := by
  intro a0 a1 _ _
  refine Ev.ex ?_
  unfold muslinlaw06_LinesHeads.f muslinlaw06_short.f
  rw [B_of a0]
  generalize a0.data.toList = l
  refine .bindc rfl ?_
  by_cases h : l.length ≤ 5000
  · refine .ifp (by rw [B_size]; exact decide_eq_true (by omega)) (.bindc rfl ?_)
    by_cases h2 : a1.size ≤ 5000
    · rw [show decide ((a1.size : Int) ≤ 5000) = true from decide_eq_true (by omega)]
      exact hd_j0 l a1 h h2
    · rw [show decide ((a1.size : Int) ≤ 5000) = false from decide_eq_false (by omega)]
      exact hd_j0_true _ _
  · refine .ifn (by rw [B_size]; simp; omega) (hd_j0_true _ _)
end Go.Proofs.YtomfdejamngkjaaDoor.Pure
