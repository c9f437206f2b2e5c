/- LinesAgain: the fields of any message may be written, and are read to the same; its body is at its end. -/
import Derived.Test.YtomfdejamngkjaaDoorPureFew
import Derived.Test.YtomfdejamngkjaaDoorPrx4
import Derived.Test.YtomfdejamngkjaaDoorPrx6
import Derived.Test.YtomfdejamngkjaaDoorPureCutB
import Derived.Test.YtomfdejamngkjaaDoorPrx8
set_option linter.unusedVariables false
set_option linter.unusedSimpArgs false
set_option linter.unusedSectionVars false
namespace Go.Proofs.YtomfdejamngkjaaDoor.Pure
open Go Go.RowKit Go.Proofs.YtomfdejamngkjaaDoor.Pr Go.Proofs.YtomfdejamngkjaaDoorW.PrintWords Go.Proofs.YtomfdejamngkjaaDoorW.PrintLast Plain Go.Proofs.YtomfdejamngkjaaDoor
theorem white_eq (c : UInt8) : muslinref06_white.f (c.toNat : Int) = some (ws.contains c) := by
  unfold muslinref06_white.f
  by_cases h1 : c = 32
  · subst h1; rfl
  · have h3 : ¬ ((c.toNat : Int) = 32) := fun h => h1 ((u8_int c 32).1 h)
    rw [if_neg h3]
    by_cases h2 : c = 9
    · subst h2; rfl
    · have h4 : ¬ ((c.toNat : Int) = 9) := fun h => h2 ((u8_int c 9).1 h)
      have : ws.contains c = false := by simp [ws, h1, h2]
      rw [this]
      simp [h4]
theorem name_l0 (l : List UInt8) (hl : l.length ≤ 4611686018427387904) : ∀ (d i : Nat), i + d = l.length → Ev (fun k => muslinref06_name.l0 k (B l) (i : Int)) (!(l.drop i).any badB && !l.isEmpty) := by
  intro d
  induction d with
  | zero =>
    intro i hi
    refine .succ ?_
    simp only [muslinref06_name.l0]
    refine .ifn (by rw [B_size]; omega) (.of ?_)
    rw [List.drop_of_length_le (by omega), B_list]
    cases l <;> rfl
  | succ d ih =>
    intro i hi
    refine .succ ?_
    simp only [muslinref06_name.l0]
    have h1 : i < l.length := by omega
    refine .ifp (by rw [B_size]; omega) (.ifp (by omega) ?_)
    have hd := drop_cons_get l i h1
    rw [B_bt, hd, List.any_cons]
    generalize l.getD i 0 = c at *
    have hb : badB c = (decide ((c.toNat : Int) < 33) || decide ((c.toNat : Int) > 126) || decide ((c.toNat : Int) = 58)) := rfl
    by_cases a1 : (c.toNat : Int) < 33
    · refine .ifp a1 (.of ?_)
      rw [hb, decide_eq_true a1]; rfl
    · refine .ifn a1 ?_
      by_cases a2 : (c.toNat : Int) > 126
      · refine .ifp a2 (.of ?_)
        rw [hb, decide_eq_true a2, Bool.or_true]; rfl
      · refine .ifn a2 ?_
        by_cases a3 : (c.toNat : Int) = 58
        · refine .ifp a3 (.of ?_)
          rw [hb, decide_eq_true a3, Bool.or_true]; rfl
        · refine .ifn a3 ?_
          rw [w64 (by omega) (by omega), hb, decide_eq_false a1, decide_eq_false a2, decide_eq_false a3]
          simp only [Bool.false_or, Bool.or_false]
          exact ih (i + 1) (by omega)
theorem name_ev (l : List UInt8) (hl : l.length ≤ 4611686018427387904) : Ev (fun k => muslinref06_name.f k (B l)) (nameB l) := by
  have := name_l0 l hl l.length 0 (by omega)
  refine Ev.cast this ?_
  unfold nameB
  rw [List.drop_zero, Bool.and_comm]
section
variable (p : UInt8 → Bool)
def tl (l : List UInt8) : List UInt8 := l.dropWhile p
def tr (l : List UInt8) : List UInt8 := (l.reverse.dropWhile p).reverse
theorem tr_cons (x : UInt8) (l : List UInt8) : tr p (x :: l) = if tr p l = [] then (if p x then [] else [x]) else x :: tr p l := by
  unfold tr
  rw [List.reverse_cons, List.dropWhile_append]
  by_cases h : l.reverse.dropWhile p = []
  · rw [h]
    simp only [List.isEmpty_nil, if_true, List.reverse_nil]
    cases hp : p x <;> simp [List.dropWhile, hp]
  · have h2 : (l.reverse.dropWhile p).isEmpty = false := by cases hq : l.reverse.dropWhile p with
      | nil => exact absurd hq h
      | cons _ _ => rfl
    rw [h2]
    simp [h]
theorem tl_tr : ∀ l : List UInt8, tl p (tr p l) = tr p (tl p l)
  | [] => rfl
  | x :: l => by
    have ih := tl_tr l
    rw [tr_cons]
    cases hp : p x with
    | true =>
      have e : tl p (x :: l) = tl p l := by unfold tl; rw [List.dropWhile_cons, hp]; rfl
      rw [e, ← ih]
      by_cases h : tr p l = []
      · rw [if_pos h, h]; rfl
      · rw [if_neg h]
        unfold tl
        rw [List.dropWhile_cons, hp]; rfl
    | false =>
      have e : tl p (x :: l) = x :: l := by unfold tl; rw [List.dropWhile_cons, hp]; rfl
      rw [e, tr_cons, hp]
      by_cases h : tr p l = []
      · rw [if_pos h]
        unfold tl
        simp [List.dropWhile_cons, hp]
      · rw [if_neg h]
        unfold tl
        rw [List.dropWhile_cons, hp]; rfl
end
theorem trim_l1 : ∀ (n : Nat) (l : List UInt8), l.length ≤ n → n ≤ 4611686018427387904 → Ev (fun k => muslinref06_Trim.l1 k (B l)) (B (Lib.trimRightS l ws)) := by
  intro n
  induction n with
  | zero =>
    intro l h _
    obtain rfl : l = [] := List.eq_nil_of_length_eq_zero (by omega)
    refine .succ ?_
    simp only [muslinref06_Trim.l1]
    exact .ifn (by simp) (.of rfl)
  | succ n ih =>
    intro l h hn
    refine .succ ?_
    simp only [muslinref06_Trim.l1]
    rcases List.eq_nil_or_concat l with rfl | ⟨a, c, rfl⟩
    · exact .ifn (by simp) (.of rfl)
    · rw [List.concat_eq_append] at *
      have hs : (a ++ [c]).length = a.length + 1 := by simp
      have e1 : wrap64 (((B (a ++ [c])).size : Int) - 1) = (a.length : Int) := by rw [B_size, hs, w64 (by omega) (by omega)]; omega
      rw [e1, B_size, hs]
      refine .ifp (by omega) (.ifp (by omega) (.ifp (by omega) ?_))
      have eb : bt (B (a ++ [c])) (a.length : Int) = (c.toNat : Int) := by rw [B_bt]; simp
      rw [eb]
      refine .bindc (white_eq c) ?_
      have et : Lib.trimRightS (a ++ [c]) ws = if ws.contains c then Lib.trimRightS a ws else a ++ [c] := by
        unfold Lib.trimRightS
        rw [List.reverse_append]
        simp only [List.reverse_cons, List.reverse_nil, List.nil_append, List.singleton_append, List.dropWhile_cons]
        cases ws.contains c <;> simp
      rw [et]
      cases hc : ws.contains c with
      | true =>
        refine .ifp rfl (.ifp (by omega) ?_)
        rw [Int.toNat_natCast, B_extract]
        have : ((a ++ [c]).drop 0).take (a.length - 0) = a := by simp
        rw [this]
        exact ih a (by omega) (by omega)
      | false =>
        exact .ifn (by simp) (.of rfl)
theorem trim_l0 : ∀ (n : Nat) (l : List UInt8), l.length ≤ n → n ≤ 4611686018427387904 → Ev (fun k => muslinref06_Trim.l0 k (B l)) (B (Lib.trimRightS (Lib.trimLeftS l ws) ws)) := by
  intro n
  induction n with
  | zero =>
    intro l h _
    obtain rfl : l = [] := List.eq_nil_of_length_eq_zero (by omega)
    refine .succ ?_
    simp only [muslinref06_Trim.l0]
    refine .ifn (by simp) (.succ ?_)
    simp only [muslinref06_Trim.j1]
    exact trim_l1 0 [] (by simp) (by omega)
  | succ n ih =>
    intro l h hn
    refine .succ ?_
    simp only [muslinref06_Trim.l0]
    cases l with
    | nil =>
      refine .ifn (by simp) (.succ ?_)
      simp only [muslinref06_Trim.j1]
      exact trim_l1 0 [] (by simp) (by omega)
    | cons c a =>
      have hs : (c :: a).length = a.length + 1 := rfl
      rw [B_size, hs]
      refine .ifp (by omega) (.ifp (by omega) ?_)
      have eb : bt (B (c :: a)) 0 = (c.toNat : Int) := B_bt (c :: a) 0
      rw [eb]
      refine .bindc (white_eq c) ?_
      have et : Lib.trimLeftS (c :: a) ws = if ws.contains c then Lib.trimLeftS a ws else c :: a := by
        unfold Lib.trimLeftS
        rw [List.dropWhile_cons]
      rw [et]
      cases hc : ws.contains c with
      | true =>
        refine .ifp rfl (.ifp (by omega) ?_)
        rw [B_extract]
        have : ((c :: a).drop 1).take (a.length + 1 - 1) = a := by simp
        rw [this]
        exact ih a (by omega) (by omega)
      | false =>
        refine .ifn (by simp) (.succ ?_)
        simp only [muslinref06_Trim.j1]
        exact trim_l1 (a.length + 1) (c :: a) (by simp) (by omega)
theorem trim_comm (l : List UInt8) : Lib.trimRightS (Lib.trimLeftS l ws) ws = Lib.trimS l ws := (tl_tr (fun c => ws.contains c) l).symm
theorem trim_ev (l : List UInt8) (hl : l.length ≤ 4611686018427387904) : Ev (fun k => muslinref06_Trim.f k (B l)) (B (Lib.trimS l ws)) := by
  have := trim_l0 l.length l (Nat.le_refl _) hl
  rw [trim_comm] at this
  exact this
theorem nameB_spec {l : List UInt8} (h : nameB l = true) : l ≠ [] ∧ ∀ c ∈ l, badB c = false := by
  unfold nameB at h
  rw [Bool.and_eq_true, Bool.not_eq_true', Bool.not_eq_true'] at h
  exact ⟨by rintro rfl; simp at h, fun c hc => by
    cases hb : badB c with
    | false => rfl
    | true => rw [List.any_eq_true.2 ⟨c, hc, hb⟩] at h; simp at h⟩
theorem nameB_not {l : List UInt8} (h : nameB l = true) (c : UInt8) (hc : badB c = true) : c ∉ l := fun hm => by
  rw [(nameB_spec h).2 c hm] at hc; cases hc
theorem trimRight_id (l : List UInt8) (h : ∀ c ∈ l, ws.contains c = false) : Lib.trimRightS l ws = l := by
  unfold Lib.trimRightS
  have : l.reverse.dropWhile (ws.contains ·) = l.reverse := by
    cases hr : l.reverse with
    | nil => rfl
    | cons c r =>
      rw [List.dropWhile_cons, h c (by rw [← List.mem_reverse, hr]; simp)]
      rfl
  rw [this, List.reverse_reverse]
theorem ws_bad (c : UInt8) (h : badB c = false) : ws.contains c = false := by
  cases hc : ws.contains c with
  | false => rfl
  | true =>
    have : c = 32 ∨ c = 9 := by simpa [ws] using hc
    rcases this with rfl | rfl <;> exact absurd h (by decide)
theorem trim_white (v : List UInt8) (h : Lib.trimS v ws = v) : Lib.trimS (32 :: v) ws = v := by
  rw [← trim_comm]
  have : Lib.trimLeftS (32 :: v) ws = Lib.trimLeftS v ws := by
    unfold Lib.trimLeftS
    rw [List.dropWhile_cons]
    rfl
  rw [this, trim_comm, h]
theorem lineOf_end (t r : List UInt8) (h : (10 : UInt8) ∉ t) : lineOf (t ++ 13 :: 10 :: r) = (t, r, true) := by
  have e : t ++ 13 :: 10 :: r = (t ++ [13]) ++ 10 :: r := by simp
  rw [lineOf_brk, e, brk1_hit 10 (t ++ [13]) r (by simp [h])]
  simp only [if_true]
  rw [chop_snoc, if_pos rfl]
def textOf (x : S29) : List UInt8 := x.f0.data.toList ++ 58 :: 32 :: x.f1.data.toList
theorem okF_spec {x : S29} (h : okF x = true) : nameB x.f0.data.toList = true ∧ (∀ c ∈ x.f1.data.toList, endsB c = false) ∧ Lib.trimS x.f1.data.toList ws = x.f1.data.toList := by
  unfold okF at h
  rw [Bool.and_eq_true, Bool.and_eq_true, Bool.not_eq_true'] at h
  refine ⟨h.1, fun c hc => ?_, beq_iff_eq.1 h.2.2⟩
  cases hb : endsB c with
  | false => rfl
  | true => rw [List.any_eq_true.2 ⟨c, hc, hb⟩] at h; simp at h
theorem text_no10 {x : S29} (h : okF x = true) : (10 : UInt8) ∉ textOf x := by
  obtain ⟨h1, h2, _⟩ := okF_spec h
  intro hm
  unfold textOf at hm
  rcases List.mem_append.1 hm with hm | hm
  · exact nameB_not h1 10 (by decide) hm
  · rcases List.mem_cons.1 hm with hm | hm
    · exact absurd hm (by decide)
    · rcases List.mem_cons.1 hm with hm | hm
      · exact absurd hm (by decide)
      · have := h2 10 hm; exact absurd this (by decide)
theorem hdLine_field {x : S29} (h : okF x = true) (st : HdSt) (hl : (shutL st).1.length < 500) (r : List UInt8) : hdLine st (textOf x, r, true) = ((shutL st).1 ++ [⟨x.f0, ⟨#[]⟩⟩], some [32 :: x.f1.data.toList]) := by
  obtain ⟨h1, h2, h3⟩ := okF_spec h
  obtain ⟨hne, hok⟩ := nameB_spec h1
  have hcut : Lib.cut (textOf x) [58] = (x.f0.data.toList, 32 :: x.f1.data.toList, true) := by
    rw [brk1_cut]
    exact brk1_hit 58 _ _ (nameB_not h1 58 (by decide))
  have hnm : nameOf (textOf x, r, true) = x.f0.data.toList := by
    unfold nameOf
    simp only [hcut]
    exact trimRight_id _ (fun c hc => ws_bad c (hok c hc))
  have hfi : fieldIs (textOf x, r, true) = true := by
    unfold fieldIs
    rw [hnm, h1]
    simp only [hcut]
    rfl
  have hv : valOf (textOf x, r, true) = 32 :: x.f1.data.toList := by
    unfold valOf
    simp only [hcut]
  have hw : whiteHead (textOf x) = false := by
    cases hq : x.f0.data.toList with
    | nil => exact absurd hq hne
    | cons c t =>
      unfold textOf
      rw [hq]
      exact ws_bad c (hok c (by rw [hq]; simp))
  rw [hdLine_new hw hfi hl, hnm, hv]
theorem shut_field (out : List S29) (x : S29) (h : okF x = true) : (shutL (out ++ [⟨x.f0, ⟨#[]⟩⟩], some [32 :: x.f1.data.toList])).1 = out ++ [x] := by
  obtain ⟨_, _, h3⟩ := okF_spec h
  show setLast (out ++ [⟨x.f0, ⟨#[]⟩⟩]) (Lib.trimS ([32 :: x.f1.data.toList] : List (List UInt8)).flatten ws) = _
  have e : ([32 :: x.f1.data.toList] : List (List UInt8)).flatten = 32 :: x.f1.data.toList := by simp
  rw [e, trim_white _ h3]
  simp [setLast]
theorem run_back (body : List UInt8) : ∀ (l : List S29) (st : HdSt), (∀ x ∈ l, okF x = true) → (shutL st).1.length + l.length ≤ 500 → ∃ st', hdRun (linesL (fieldsL l ++ 13 :: 10 :: body)) st = (st', body) ∧ (shutL st').1 = (shutL st).1 ++ l := by
  intro l
  induction l with
  | nil =>
    intro st _ _
    refine ⟨st, ?_, by simp⟩
    show hdRun (linesL (13 :: 10 :: body)) st = _
    rw [linesL_cons (by simp), show lineOf (13 :: 10 :: body) = ([], body, true) from lineOf_end [] body (by simp)]
    rfl
  | cons x l ih =>
    intro st hok hlen
    have hx := hok x (by simp)
    simp only [List.length_cons] at hlen
    have e : fieldsL (x :: l) ++ 13 :: 10 :: body = textOf x ++ 13 :: 10 :: (fieldsL l ++ 13 :: 10 :: body) := by
      simp [fieldsL, fieldL, textOf]
    have hne : textOf x ++ 13 :: 10 :: (fieldsL l ++ 13 :: 10 :: body) ≠ [] := by simp
    obtain ⟨st', h1, h2⟩ := ih ((shutL st).1 ++ [⟨x.f0, ⟨#[]⟩⟩], some [32 :: x.f1.data.toList]) (fun y hy => hok y (by simp [hy])) (by rw [shut_field _ _ hx]; simp; omega)
    refine ⟨st', ?_, ?_⟩
    · rw [e, linesL_cons hne, lineOf_end _ _ (text_no10 hx)]
      have hs : stops (textOf x, fieldsL l ++ 13 :: 10 :: body, true) = false := by
        unfold stops textOf
        cases x.f0.data.toList <;> rfl
      show hdRun ((textOf x, fieldsL l ++ 13 :: 10 :: body, true) :: linesL (fieldsL l ++ 13 :: 10 :: body)) st = _
      rw [hdRun, hs, hdLine_field hx st (by omega)]
      exact h1
    · rw [h2, shut_field _ _ hx]; simp
theorem head_back (l : List S29) (body : List UInt8) (hok : ∀ x ∈ l, okF x = true) (hlen : l.length ≤ 500) : headL (fieldsL l ++ 13 :: 10 :: body) = (l, body) := by
  obtain ⟨st', h1, h2⟩ := run_back body l ([], none) hok (by show 0 + _ ≤ _; omega)
  unfold headL
  rw [h1]
  exact Prod.ext (by simpa [shutL] using h2) rfl
theorem same_l0 (a : List S29) (hl : a.length ≤ 4611686018427387904) : ∀ (d i : Nat), i + d = a.length → Ev (fun k => muslinref06_Same.l0 k a a (i : Int)) true := by
  intro d
  induction d with
  | zero =>
    intro i hi
    refine .succ ?_
    simp only [muslinref06_Same.l0]
    exact .ifn (by omega) (.pure _)
  | succ d ih =>
    intro i hi
    refine .succ ?_
    simp only [muslinref06_Same.l0]
    refine .ifp (by omega) (.ifp (by omega) (.ifp (by omega) (.ifn (by simp) ?_)))
    rw [w64 (by omega) (by omega)]
    exact ih (i + 1) (by omega)
theorem same_refl (a : List S29) (hl : a.length ≤ 4611686018427387904) : Ev (fun k => muslinref06_Same.f k a a) true := by
  unfold muslinref06_Same.f
  exact .ifp rfl (same_l0 a hl a.length 0 (by omega))
section
variable (p : UInt8 → Bool)
theorem tl_idem : ∀ l : List UInt8, tl p (tl p l) = tl p l
  | [] => rfl
  | x :: l => by
    cases hp : p x with
    | true =>
      have e : tl p (x :: l) = tl p l := by unfold tl; rw [List.dropWhile_cons, hp]; rfl
      rw [e, tl_idem l]
    | false =>
      have e : tl p (x :: l) = x :: l := by unfold tl; rw [List.dropWhile_cons, hp]; rfl
      rw [e, e]
theorem tr_idem (l : List UInt8) : tr p (tr p l) = tr p l := by
  have := tl_idem p l.reverse
  unfold tl at this
  unfold tr
  rw [List.reverse_reverse, this]
end
theorem trimS_idem (l : List UInt8) : Lib.trimS (Lib.trimS l ws) ws = Lib.trimS l ws := by
  show tl (fun c => ws.contains c) (tr (fun c => ws.contains c) (tl (fun c => ws.contains c) (tr (fun c => ws.contains c) l))) = tl (fun c => ws.contains c) (tr (fun c => ws.contains c) l)
  rw [tl_tr _ l, tr_idem, ← tl_tr, tl_idem]
theorem trimS_sub (l : List UInt8) : (Lib.trimS l ws).Sublist l := by
  have h1 : (Lib.trimRightS l ws).Sublist l := by
    have := (List.dropWhile_sublist (l := l.reverse) (fun c => ws.contains c)).reverse
    rw [List.reverse_reverse] at this
    exact this
  exact (List.dropWhile_sublist (l := Lib.trimRightS l ws) (fun c => ws.contains c)).trans h1
theorem trimR_sub (l : List UInt8) : (Lib.trimRightS l ws).Sublist l := by
  have := (List.dropWhile_sublist (l := l.reverse) (fun c => ws.contains c)).reverse
  rw [List.reverse_reverse] at this
  exact this
def wt (l : List S29) : Nat := (l.map fun x => x.f0.size + x.f1.size).sum
theorem wt_append (a b : List S29) : wt (a ++ b) = wt a + wt b := by simp [wt]
theorem wt_one (x : S29) : wt [x] = x.f0.size + x.f1.size := by simp [wt]
def openLen : Option (List (List UInt8)) → Nat
  | none => 0
  | some vs => vs.flatten.length
def Fine (x : S29) : Prop := nameB x.f0.data.toList = true ∧ (10 : UInt8) ∉ x.f1.data.toList ∧ Lib.trimS x.f1.data.toList ws = x.f1.data.toList
structure Good (st : HdSt) (n : Nat) : Prop where
  len : st.1.length ≤ 500
  fine : ∀ x ∈ st.1, Fine x
  op : ∀ vs, st.2 = some vs → (10 : UInt8) ∉ vs.flatten
  fit : wt st.1 + openLen st.2 ≤ n
theorem good_shut {st : HdSt} {n : Nat} (h : Good st n) : Good (shutL st) n := by
  obtain ⟨out, o⟩ := st
  cases o with
  | none => exact h
  | some vs =>
    have hf := h.fit
    have hop := h.op vs rfl
    simp only [openLen] at hf
    rcases List.eq_nil_or_concat out with rfl | ⟨i, y, rfl⟩
    · exact ⟨by simp [shutL, setLast], fun x hx => by simp [shutL, setLast] at hx, fun us hu => by simp [shutL] at hu, by simp [shutL, setLast, wt, openLen]⟩
    · rw [List.concat_eq_append] at *
      have e : shutL (i ++ [y], some vs) = (i ++ [⟨y.f0, B (Lib.trimS vs.flatten ws)⟩], none) := by simp [shutL, setLast, B]
      rw [e]
      have hl := (trimS_sub vs.flatten).length_le
      refine ⟨by have := h.len; simpa using this, fun x hx => ?_, fun us hu => by simp at hu, ?_⟩
      · rcases List.mem_append.1 hx with hx | hx
        · exact h.fine x (by simp [hx])
        · rw [List.mem_singleton.1 hx]
          exact ⟨(h.fine y (by simp)).1, fun hm => hop ((trimS_sub _).subset hm), trimS_idem _⟩
      · simp only [openLen, wt_append, wt_one, B_size] at hf ⊢
        omega
theorem cut58_sum (l : List UInt8) : (Lib.cut l [58]).1.length + (Lib.cut l [58]).2.1.length ≤ l.length := by
  unfold Lib.cut
  split
  · simp only [List.length_take, List.length_drop]; omega
  · simp
theorem cut58_mem (l : List UInt8) (c : UInt8) (h : c ∈ (Lib.cut l [58]).2.1) : c ∈ l := by
  unfold Lib.cut at h
  split at h
  · exact List.mem_of_mem_drop h
  · simp at h
theorem good_line {st : HdSt} {n : Nat} (h : Good st n) (x : Ln) (hx : (10 : UInt8) ∉ x.1) : Good (hdLine st x) (n + x.1.length) := by
  unfold hdLine
  split
  · refine ⟨h.len, h.fine, fun vs hv => ?_, ?_⟩
    · obtain ⟨us, hu, rfl⟩ := Option.map_eq_some_iff.1 hv
      have := h.op us hu
      simp [hx]
      simpa using this
    · have hf := h.fit
      show wt st.1 + openLen (st.2.map _) ≤ _
      cases hs : st.2 with
      | none => rw [hs] at hf; simp only [openLen, Option.map_none] at hf ⊢; omega
      | some vs => rw [hs] at hf; simp only [openLen, Option.map_some, List.flatten_append, List.length_append, List.flatten_cons, List.flatten_nil, List.append_nil] at hf ⊢; omega
  · have hs := good_shut h
    have h2 : openLen (shutL st).2 = 0 := by rw [shutL_snd]; rfl
    have hf := hs.fit
    rw [h2] at hf
    unfold hdNew
    split
    · rename_i hc
      rw [Bool.and_eq_true, decide_eq_true_eq] at hc
      unfold fieldIs at hc
      rw [Bool.and_eq_true] at hc
      have hn := (trimR_sub (Lib.cut x.1 [58]).1).length_le
      have hcs := cut58_sum x.1
      refine ⟨by simp; omega, fun y hy => ?_, fun vs hv => ?_, ?_⟩
      · rcases List.mem_append.1 hy with hy | hy
        · exact hs.fine y hy
        · rw [List.mem_singleton.1 hy]
          exact ⟨hc.1.2, by simp, rfl⟩
      · cases hv
        intro hm
        apply hx
        refine cut58_mem _ _ ?_
        simpa [valOf] using hm
      · show wt (_ ++ [(⟨B (nameOf x), B []⟩ : S29)]) + openLen (some [valOf x]) ≤ _
        have e1 : (nameOf x).length ≤ (Lib.cut x.1 [58]).1.length := hn
        have e2 : (valOf x).length = (Lib.cut x.1 [58]).2.1.length := rfl
        simp only [openLen, wt_append, wt_one, B_size, List.flatten_cons, List.flatten_nil, List.append_nil, List.length_nil]
        omega
    · exact ⟨hs.len, hs.fine, fun vs hv => (by cases hv), by simp only [openLen]; omega⟩
theorem good_run : ∀ (ls : List Ln) (st : HdSt) (n : Nat), Good st n → (∀ x ∈ ls, (10 : UInt8) ∉ x.1) → Good (hdRun ls st).1 (n + (ls.map (·.1)).flatten.length)
  | [], st, n, h, _ => by simpa [hdRun] using h
  | x :: r, st, n, h, hx => by
    rw [hdRun, List.map_cons, List.flatten_cons, List.length_append]
    split
    · exact ⟨h.len, h.fine, h.op, Nat.le_trans h.fit (by omega)⟩
    · have := good_run r _ _ (good_line h x (hx x (by simp))) (fun y hy => hx y (by simp [hy]))
      rw [Nat.add_assoc] at this
      exact this
theorem rest_suf (l : List UInt8) : ∃ pre, l = pre ++ (lineOf l).2.1 := by
  rw [lineOf_brk]
  cases hf : (brk1 10 l).2.2 with
  | false => exact ⟨l, by rw [(brk_none l 10 hf).2, List.append_nil]⟩
  | true => exact ⟨l.take ((brk1 10 l).1.length + 1), by rw [← (brk_at l 10 hf).2.2.2, List.take_append_drop]⟩
theorem run_suf : ∀ (n : Nat) (l : List UInt8) (st : HdSt), l.length ≤ n → ∃ pre, l = pre ++ (hdRun (linesL l) st).2 := by
  intro n
  induction n with
  | zero =>
    intro l st h
    obtain rfl : l = [] := List.eq_nil_of_length_eq_zero (by omega)
    exact ⟨[], by rw [linesL_nil]; rfl⟩
  | succ n ih =>
    intro l st h
    by_cases h0 : l = []
    · subst h0
      exact ⟨[], by rw [linesL_nil]; rfl⟩
    · have h1 := (lineOf_len l).2.2 h0
      rw [linesL_cons h0, hdRun]
      obtain ⟨p, hp⟩ := rest_suf l
      split
      · exact ⟨p, hp⟩
      · obtain ⟨q, hq⟩ := ih (lineOf l).2.1 (hdLine st (lineOf l)) (by omega)
        refine ⟨p ++ q, ?_⟩
        rw [List.append_assoc, ← hq]
        exact hp
theorem lines_no10 : ∀ (n : Nat) (l : List UInt8), l.length ≤ n → ∀ x ∈ linesL l, (10 : UInt8) ∉ x.1 := by
  intro n
  induction n with
  | zero =>
    intro l h x hx
    obtain rfl : l = [] := List.eq_nil_of_length_eq_zero (by omega)
    rw [linesL_nil] at hx; cases hx
  | succ n ih =>
    intro l h x hx
    by_cases h0 : l = []
    · subst h0; rw [linesL_nil] at hx; cases hx
    · have h1 := (lineOf_len l).2.2 h0
      rw [linesL_cons h0] at hx
      rcases List.mem_cons.1 hx with rfl | hx
      · rw [lineOf_brk]
        have hs := (brk1_spec 10 l).1
        intro hm
        apply hs
        simp only at hm
        split at hm
        · rw [chop_eq] at hm
          split at hm
          · exact List.mem_of_mem_take hm
          · exact hm
        · exact hm
      · exact ih _ (by omega) x hx
theorem head_good (l : List UInt8) : Good (shutL (hdRun (linesL l) ([], none)).1) l.length := by
  have h0 : Good (([], none) : HdSt) 0 := ⟨by simp, fun x hx => (by cases hx), fun vs hv => (by cases hv), by simp [wt, openLen]⟩
  have h1 := good_shut (good_run (linesL l) _ _ h0 (lines_no10 _ l (Nat.le_refl _)))
  have h2 := linesL_sum _ l (Nat.le_refl _)
  exact ⟨h1.len, h1.fine, h1.op, by have := h1.fit; omega⟩
theorem fieldsL_len : ∀ l : List S29, (fieldsL l).length = wt l + 4 * l.length
  | [] => by simp [fieldsL, wt]
  | x :: l => by
    have ih := fieldsL_len l
    have e : fieldsL (x :: l) = fieldL x ++ fieldsL l := by simp [fieldsL]
    have e1 : x.f0.data.toList.length = x.f0.size := by simp
    have e2 : x.f1.data.toList.length = x.f1.size := by simp
    have e3 : wt (x :: l) = x.f0.size + x.f1.size + wt l := by simp [wt]
    rw [e, List.length_append, List.length_cons, e3, ih]
    unfold fieldL
    simp only [List.length_append, List.length_cons, List.length_nil]
    omega
theorem wt_mem {l : List S29} {x : S29} (h : x ∈ l) : x.f0.size + x.f1.size ≤ wt l := by
  induction l with
  | nil => cases h
  | cons y l ih =>
    have e3 : wt (y :: l) = y.f0.size + y.f1.size + wt l := by simp [wt]
    rcases List.mem_cons.1 h with rfl | h
    · omega
    · have := ih h; omega
section
variable (L : List S29) (bd : List UInt8) (hlen : L.length ≤ 500) (hfine : ∀ x ∈ L, Fine x) (hwt : wt L ≤ 5000) (hb : bd.length ≤ 5000)
include hlen hfine hwt hb
theorem ag_end (h13 : ∀ x ∈ L, (13 : UInt8) ∉ x.f1.data.toList) : Ev (fun k => muslinlaw06_LinesAgain.l0 k L (B bd) (L.length : Int)) true := by
  refine .succ ?_
  simp only [muslinlaw06_LinesAgain.l0]
  have hok : ∀ x ∈ L, okF x = true := by
    intro x hx
    obtain ⟨h1, h2, h3⟩ := hfine x hx
    unfold okF
    rw [h1, h3, beq_self_eq_true, Bool.and_true, Bool.true_and, Bool.not_eq_true']
    rw [Bool.eq_false_iff]
    intro ha
    obtain ⟨c, hc, hcb⟩ := List.any_eq_true.1 ha
    have hc' : c = 13 ∨ c = 10 := by
      unfold endsB at hcb
      simpa [or_comm] using hcb
    rcases hc' with rfl | rfl
    · exact h13 x hx hc
    · exact h2 hc
  have hall : L.all okF = true := List.all_eq_true.2 hok
  have e : writeL L (B bd) = (B (fieldsL L ++ 13 :: 10 :: bd), 0) := by
    unfold writeL
    rw [hall, if_pos rfl, if_pos (show L.length ≤ 500 by omega)]
    simp [B]
  have hw : lines_Write.f L (B bd) = some (B (fieldsL L ++ 13 :: 10 :: bd), 0) := by
    unfold lines_Write.f
    rw [if_pos, e]
    unfold wrOk
    rw [Bool.and_eq_true, decide_eq_true_eq, List.all_eq_true]
    refine ⟨⟨by omega, by rw [B_size]; omega⟩, fun x hm => ?_⟩
    have := wt_mem hm
    exact decide_eq_true (by omega)
  have hsz : (fieldsL L ++ 13 :: 10 :: bd).length ≤ 1000000 := by
    simp only [List.length_append, List.length_cons, fieldsL_len]
    omega
  have hh : lines_Head.f (B (fieldsL L ++ 13 :: 10 :: bd)) = some (L, B bd) := by
    unfold lines_Head.f
    rw [if_pos (by rw [B_size]; exact hsz), B_data, head_back L _ hok (by omega)]; rfl
  refine .ifn (by omega) (.bindc hw (.bindc hh (.ifp rfl (.bind (same_refl L (by omega)) (.ifp rfl (.ifp rfl (.bind live_ev (.pure _))))))))
theorem ag_l1 (i : Nat) (hi : i < L.length) (hnext : (13 : UInt8) ∉ L[i].f1.data.toList → Ev (fun k => muslinlaw06_LinesAgain.l0 k L (B bd) ((i + 1 : Nat) : Int)) true) :
    ∀ (d j : Nat), j + d = L[i].f1.data.toList.length → (13 : UInt8) ∉ L[i].f1.data.toList.take j → Ev (fun k => muslinlaw06_LinesAgain.l1 k L (B bd) (i : Int) (j : Int)) true := by
  have hm := wt_mem (List.getElem_mem hi)
  have hz : L[i].f1.data.toList.length = L[i].f1.size := by simp
  intro d
  induction d with
  | zero =>
    intro j hj ht
    refine .succ ?_
    simp only [muslinlaw06_LinesAgain.l1]
    refine .ifp (by omega) (.ifp (by omega) ?_)
    rw [rd29 L i hi]
    refine .ifn (by omega) ?_
    rw [w64 (by omega) (by omega)]
    rw [List.take_of_length_le (by omega)] at ht
    exact hnext ht
  | succ d ih =>
    intro j hj ht
    refine .succ ?_
    simp only [muslinlaw06_LinesAgain.l1]
    refine .ifp (by omega) (.ifp (by omega) ?_)
    rw [rd29 L i hi]
    refine .ifp (by omega) (.ifp (by omega) ?_)
    by_cases hc : L[i].f1.data.toList.getD j 0 = 13
    · refine .ifp ?_ (.bind live_ev (.pure _))
      rw [B_of L[i].f1, B_bt, hc]; rfl
    · refine .ifn ?_ ?_
      · rw [B_of L[i].f1, B_bt]
        exact fun h => hc ((u8_int _ 13).1 h)
      · rw [w64 (by omega) (by omega)]
        refine ih (j + 1) (by omega) ?_
        rw [List.take_add_one, List.getElem?_eq_getElem (by omega)]
        intro h
        rcases List.mem_append.1 h with h | h
        · exact ht h
        · apply hc
          rw [List.getD_eq_getElem?_getD, List.getElem?_eq_getElem (by omega)]
          rw [Option.toList_some, List.mem_singleton] at h
          exact h.symm
theorem ag_l0 : ∀ (d i : Nat), i + d = L.length → (∀ x ∈ L.take i, (13 : UInt8) ∉ x.f1.data.toList) → Ev (fun k => muslinlaw06_LinesAgain.l0 k L (B bd) (i : Int)) true := by
  intro d
  induction d with
  | zero =>
    intro i hi ht
    obtain rfl : i = L.length := by omega
    rw [List.take_length] at ht
    exact ag_end L bd hlen hfine hwt hb ht
  | succ d ih =>
    intro i hi ht
    have hi1 : i < L.length := by omega
    refine .succ ?_
    simp only [muslinlaw06_LinesAgain.l0]
    refine .ifp (by omega) ?_
    refine ag_l1 L bd hlen hfine hwt hb i hi1 (fun h => ih (i + 1) (by omega) (fun x hx => ?_)) _ 0 (Nat.zero_add _) (by simp)
    rw [List.take_add_one, List.getElem?_eq_getElem hi1] at hx
    rcases List.mem_append.1 hx with hx | hx
    · exact ht x hx
    · rw [show x = L[i] by simpa using hx]
      exact h
end
theorem LinesAgain : muslinlaw06_LinesAgain.Pure := by
  intro a0 _
  refine Ev.ex ?_
  unfold muslinlaw06_LinesAgain.f muslinlaw06_short.f
  rw [B_of a0]
  generalize a0.data.toList = l
  refine .bindc rfl ?_
  by_cases h : l.length ≤ 5000
  · have hh : lines_Head.f (B l) = some ((headL l).1, B (headL l).2) := by
      unfold lines_Head.f
      rw [if_pos (by rw [B_size]; omega), B_data]; rfl
    have hg := head_good l
    obtain ⟨pre, hp⟩ := run_suf _ l ([], none) (Nat.le_refl _)
    have hp2 : l = pre ++ (headL l).2 := hp
    have hgl := hg.len
    have hgf := hg.fine
    have hgw := hg.fit
    have hfin := ag_l0 (headL l).1 (headL l).2 hgl hgf (by show wt (shutL _).1 ≤ _; omega) (by have := congrArg List.length hp2; rw [List.length_append] at this; omega) _ 0 (Nat.zero_add _) (fun x hx => by simp at hx)
    generalize (headL l).1 = L at *
    generalize (headL l).2 = bd at *
    have hlen : l.length = pre.length + bd.length := by rw [hp2, List.length_append]
    have ew : wrap64 (((B l).size : Int) - ((B bd).size : Int)) = (pre.length : Int) := by
      rw [B_size, B_size, w64 (by omega) (by omega)]; omega
    have ex : (B l).extract pre.length (B l).size = B bd := by
      rw [B_size, B_from, hp2]; simp
    refine .ifp (by rw [B_size]; exact decide_eq_true (by omega)) (.bindc hh (.ifn (by simp only [B_size]; omega) ?_))
    rw [ew]
    refine .ifp (by omega) (.ifp (by rw [B_size]; omega) ?_)
    rw [Int.toNat_natCast, ex]
    have eb : ((B bd).toList != (B bd).toList) = false := by simp
    rw [eb]
    refine .succ ?_
    simp only [muslinlaw06_LinesAgain.j0]
    exact .ifn (by simp) hfin
  · exact .ifn (by rw [B_size]; simp; omega) (.bind live_ev (.pure _))
end Go.Proofs.YtomfdejamngkjaaDoor.Pure
