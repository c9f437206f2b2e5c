/- LinesBack: what is written is read. -/
import Derived.Test.YtomfdejamngkjaaDoorPureBase
import Derived.Test.YtomfdejamngkjaaDoorGiven
import Derived.Test.YtomfdejamngkjaaDoorPrx2
import Derived.Test.YtomfdejamngkjaaDoorPrx4
import Derived.Test.YtomfdejamngkjaaDoorPrx6
import Derived.Test.YtomfdejamngkjaaDoorPrx7
set_option linter.unusedVariables false
set_option linter.unusedSimpArgs false
set_option linter.unusedSectionVars false
namespace Go.Proofs.YtomfdejamngkjaaDoor.Pure
open Go Go.RowKit Go.Proofs.YtomfdejamngkjaaDoor.Pr Go.Proofs.YtomfdejamngkjaaDoorW.PrintWords Go.Proofs.YtomfdejamngkjaaDoorW.PrintLast Plain Go.Proofs.YtomfdejamngkjaaDoor

def chop (a : List UInt8) : List UInt8 := Lib.trimSuffix a [13]
theorem chop_snoc (a : List UInt8) (c : UInt8) : chop (a ++ [c]) = if c = 13 then a else a ++ [c] := by
  have e : Lib.hasSuffix (a ++ [c]) [13] = decide (c = 13) := by
    unfold Lib.hasSuffix
    rw [Bool.eq_iff_iff, List.isSuffixOf_iff_suffix, decide_eq_true_eq]
    constructor
    · rintro ⟨t, ht⟩
      have := List.append_inj' ht (by simp)
      simpa using this.2.symm
    · rintro rfl; exact ⟨a, rfl⟩
  unfold chop Lib.trimSuffix
  rw [e]
  by_cases h : c = 13
  · rw [decide_eq_true h, if_pos rfl, if_pos h]; simp
  · rw [decide_eq_false h, if_neg h]; rfl
theorem chop_nil : chop [] = [] := by unfold chop Lib.trimSuffix; split <;> rfl
theorem lineOf_brk (l : List UInt8) : lineOf l = (if (brk1 10 l).2.2 then chop (brk1 10 l).1 else (brk1 10 l).1, (brk1 10 l).2.1, (brk1 10 l).2.2) := by
  unfold lineOf chop
  rw [brk1_cut]


theorem bytesOf_len (a : List (List UInt8)) : (Pr.bytesOf a).length = a.length := by simp [Pr.bytesOf]
theorem rd_bytes (a : List (List UInt8)) (i : Nat) (h : i < a.length) : rdOf ByteArray.empty (Pr.bytesOf a) (i : Int) = B a[i] := by
  unfold rdOf Pr.bytesOf
  rw [Int.toNat_natCast, List.getD_eq_getElem?_getD, List.getElem?_map, List.getElem?_eq_getElem h]
  rfl
theorem texts_l0 (a b : List (List UInt8)) (hl : a.length ≤ 4611686018427387904) (he : a.length = b.length) : ∀ (d i : Nat), i + d = a.length → Ev (fun k => muslinref06_Texts.l0 k (Pr.bytesOf a) (Pr.bytesOf b) (i : Int)) (decide (a.drop i = b.drop i)) := by
  intro d
  induction d with
  | zero =>
    intro i hi
    refine .succ ?_
    simp only [muslinref06_Texts.l0]
    refine .ifn (by rw [bytesOf_len]; omega) (.of ?_)
    rw [List.drop_of_length_le (by omega), List.drop_of_length_le (by omega)]
    simp
  | succ d ih =>
    intro i hi
    refine .succ ?_
    simp only [muslinref06_Texts.l0]
    have h1 : i < a.length := by omega
    have h2 : i < b.length := by omega
    refine .ifp (by rw [bytesOf_len]; omega) (.ifp (by omega) (.ifp (by rw [bytesOf_len]; omega) ?_))
    rw [rd_bytes a i h1, rd_bytes b i h2, B_list, B_list]
    rw [List.drop_eq_getElem_cons h1, List.drop_eq_getElem_cons h2]
    by_cases hab : a[i] = b[i]
    · refine .ifp hab ?_
      rw [w64 (by omega) (by omega)]
      have := ih (i + 1) (by omega)
      refine Ev.cast (v := decide (a.drop (i + 1) = b.drop (i + 1))) ?_ ?_
      · exact_mod_cast this
      · rw [hab]
        simp only [List.cons.injEq, true_and]
    · refine .ifn hab (.of ?_)
      simp only [List.cons.injEq, hab, false_and, decide_false]
theorem texts_ev (a b : List (List UInt8)) (hl : a.length ≤ 4611686018427387904) : Ev (fun k => muslinref06_Texts.f k (Pr.bytesOf a) (Pr.bytesOf b)) (decide (a = b)) := by
  unfold muslinref06_Texts.f
  by_cases he : a.length = b.length
  · refine .ifp (by rw [bytesOf_len, bytesOf_len, he]) ?_
    have := texts_l0 a b hl he a.length 0 (by omega)
    simpa using this
  · refine .ifn (by rw [bytesOf_len, bytesOf_len]; omega) (.of ?_)
    have : ¬ a = b := fun h => he (by rw [h])
    rw [decide_eq_false this]
def linesF : Nat → List UInt8 → List Ln
  | 0, _ => []
  | _ + 1, [] => []
  | n + 1, c :: r => (if (brk1 10 (c :: r)).2.2 then chop (brk1 10 (c :: r)).1 else (brk1 10 (c :: r)).1, (brk1 10 (c :: r)).2.1, (brk1 10 (c :: r)).2.2) :: linesF n (brk1 10 (c :: r)).2.1
theorem linesF_eq : ∀ (n : Nat) (l : List UInt8), l.length ≤ n → linesL l = linesF n l := by
  intro n
  induction n with
  | zero =>
    intro l h
    obtain rfl : l = [] := List.eq_nil_of_length_eq_zero (by omega)
    rw [linesL_nil]; rfl
  | succ n ih =>
    intro l h
    cases l with
    | nil => rw [linesL_nil]; rfl
    | cons c r =>
      have hl := (lineOf_len (c :: r)).2.2 (by simp)
      rw [lineOf_brk] at hl
      rw [linesL_cons (by simp), lineOf_brk, ih _ (by show (brk1 10 (c :: r)).2.1.length ≤ n; simp only at hl; omega)]
      rfl
def smp : List UInt8 := [65, 32, 58, 32, 98, 13, 10, 9, 99, 32, 10, 98, 97, 100, 10, 32, 100, 10, 88, 58, 10, 10, 98, 111, 100, 121, 10]
theorem head_smp : headL smp = ([⟨B [65], B [98, 9, 99]⟩, ⟨B [88], B []⟩], [98, 111, 100, 121, 10]) := by
  unfold headL
  rw [linesF_eq 27 smp (by decide)]
  rfl
theorem live_f1 : lines_Head.f (B smp) = some ([⟨B [65], B [98, 9, 99]⟩, ⟨B [88], B []⟩], B [98, 111, 100, 121, 10]) := by
  unfold lines_Head.f
  rw [if_pos (by rw [B_size]; decide), B_data, head_smp]
  rfl
theorem live_f2 : lines_Get.f [⟨B [65], B [98, 9, 99]⟩, ⟨B [88], B []⟩] (B [97]) = some (B [98, 9, 99], true) := by rfl
theorem live_f3 : lines_Write.f [⟨B [65], B [98]⟩] (B [99]) = some (B [65, 58, 32, 98, 13, 10, 13, 10, 99], 0) := by rfl
theorem live_f4 : lines_Write.f [⟨B [65], B [98, 32]⟩] (B []) = some (B [], 1) := by rfl
theorem live_f5 : lines_Cut.f (B [97, 13, 10, 10, 98]) = some (Pr.bytesOf [[97], [], [98]]) := by
  unfold lines_Cut.f
  rw [if_pos (by rw [B_size]; decide), B_data]
  unfold cutL
  rw [linesF_eq 5 _ (by decide)]
  rfl
theorem live_ev : Ev (fun k => muslinlaw06_live.f k) true := by
  unfold muslinlaw06_live.f
  refine .bindc live_f1 (.bindc live_f2 (.bindc live_f3 (.bindc live_f4 ?_)))
  refine .ifp (by rfl) (.ifp (by simp) (.ifp (by simp) (.ifp (by rfl) (.ifp (by simp) (.ifp (by rfl) (.ifp (by rfl) ?_))))))
  refine .bindc live_f5 ?_
  refine .bind (a := true) ?_ (.pure _)
  exact texts_ev [[97], [], [98]] [[97], [], [98]] (by decide)
theorem rd29 (l : List S29) (i : Nat) (h : i < l.length) : rd_T29 l (i : Int) = l[i] := by
  unfold rd_T29
  rw [Int.toNat_natCast, List.getD_eq_getElem?_getD, List.getElem?_eq_getElem h]
  rfl
def okSz (x : S29) : Bool := decide (x.f0.size ≤ 500 ∧ x.f1.size ≤ 500)
theorem few_l0 (l : List S29) (hl : l.length ≤ 60) : ∀ (d i : Nat), i + d = l.length → Ev (fun k => muslinlaw06_few.l0 k l (i : Int)) ((l.drop i).all okSz) := by
  intro d
  induction d with
  | zero =>
    intro i hi
    refine .succ ?_
    simp only [muslinlaw06_few.l0]
    refine .ifn (by omega) (.of ?_)
    rw [List.drop_of_length_le (by omega)]
    rfl
  | succ d ih =>
    intro i hi
    refine .succ ?_
    simp only [muslinlaw06_few.l0]
    have h1 : i < l.length := by omega
    refine .ifp (by omega) (.ifp (by omega) ?_)
    rw [rd29 l i h1]
    have e : (l.drop i).all okSz = (okSz l[i] && (l.drop (i + 1)).all okSz) := by rw [List.drop_eq_getElem_cons h1]; rfl
    rw [e]
    by_cases h0 : l[i].f0.size ≤ 500
    · by_cases h2 : l[i].f1.size ≤ 500
      · refine .ifn (by omega) (.ifn (by omega) ?_)
        rw [w64 (by omega) (by omega), show okSz l[i] = true from decide_eq_true ⟨h0, h2⟩, Bool.true_and]
        exact ih (i + 1) (by omega)
      · refine .ifn (by omega) (.ifp (by omega) (.of ?_))
        rw [show okSz l[i] = false from decide_eq_false (fun h => h2 h.2)]; rfl
    · refine .ifp (by omega) (.of ?_)
      rw [show okSz l[i] = false from decide_eq_false (fun h => h0 h.1)]; rfl
def fewB (l : List S29) : Bool := decide (l.length ≤ 60) && l.all okSz
theorem few_ev (l : List S29) : Ev (fun k => muslinlaw06_few.f k l) (fewB l) := by
  unfold muslinlaw06_few.f fewB
  by_cases h : l.length ≤ 60
  · refine .ifn (by omega) ?_
    have := few_l0 l h l.length 0 (by omega)
    rw [decide_eq_true h, Bool.true_and]
    exact this
  · refine .ifp (by omega) (.of ?_)
    rw [decide_eq_false h]; rfl
theorem fewB_len {l : List S29} (h : fewB l = true) : l.length ≤ 60 := by
  unfold fewB at h
  rw [Bool.and_eq_true, decide_eq_true_eq] at h
  exact h.1
theorem fewB_mem {l : List S29} (h : fewB l = true) {x : S29} (hx : x ∈ l) : x.f0.size ≤ 500 ∧ x.f1.size ≤ 500 := by
  unfold fewB at h
  rw [Bool.and_eq_true, List.all_eq_true] at h
  exact of_decide_eq_true (h.2 x hx)
theorem white_eq (c : UInt8) : muslinref06_white.f (c.toNat : Int) = some (ws.contains c) := by
  unfold muslinref06_white.f
  by_cases h1 : c = 32
  · subst h1; rfl
  · have h3 : ¬ ((c.toNat : Int) = 32) := fun h => h1 ((u8_int c 32).1 h)
    rw [if_neg h3]
    by_cases h2 : c = 9
    · subst h2; rfl
    · have h4 : ¬ ((c.toNat : Int) = 9) := fun h => h2 ((u8_int c 9).1 h)
      have : ws.contains c = false := by simp [ws, h1, h2]
      rw [this]
      simp [h4]
theorem name_l0 (l : List UInt8) (hl : l.length ≤ 4611686018427387904) : ∀ (d i : Nat), i + d = l.length → Ev (fun k => muslinref06_name.l0 k (B l) (i : Int)) (!(l.drop i).any badB && !l.isEmpty) := by
  intro d
  induction d with
  | zero =>
    intro i hi
    refine .succ ?_
    simp only [muslinref06_name.l0]
    refine .ifn (by rw [B_size]; omega) (.of ?_)
    rw [List.drop_of_length_le (by omega), B_list]
    cases l <;> rfl
  | succ d ih =>
    intro i hi
    refine .succ ?_
    simp only [muslinref06_name.l0]
    have h1 : i < l.length := by omega
    refine .ifp (by rw [B_size]; omega) (.ifp (by omega) ?_)
    have hd := drop_cons_get l i h1
    rw [B_bt, hd, List.any_cons]
    generalize l.getD i 0 = c at *
    have hb : badB c = (decide ((c.toNat : Int) < 33) || decide ((c.toNat : Int) > 126) || decide ((c.toNat : Int) = 58)) := rfl
    by_cases a1 : (c.toNat : Int) < 33
    · refine .ifp a1 (.of ?_)
      rw [hb, decide_eq_true a1]; rfl
    · refine .ifn a1 ?_
      by_cases a2 : (c.toNat : Int) > 126
      · refine .ifp a2 (.of ?_)
        rw [hb, decide_eq_true a2, Bool.or_true]; rfl
      · refine .ifn a2 ?_
        by_cases a3 : (c.toNat : Int) = 58
        · refine .ifp a3 (.of ?_)
          rw [hb, decide_eq_true a3, Bool.or_true]; rfl
        · refine .ifn a3 ?_
          rw [w64 (by omega) (by omega), hb, decide_eq_false a1, decide_eq_false a2, decide_eq_false a3]
          simp only [Bool.false_or, Bool.or_false]
          exact ih (i + 1) (by omega)
theorem name_ev (l : List UInt8) (hl : l.length ≤ 4611686018427387904) : Ev (fun k => muslinref06_name.f k (B l)) (nameB l) := by
  have := name_l0 l hl l.length 0 (by omega)
  refine Ev.cast this ?_
  unfold nameB
  rw [List.drop_zero, Bool.and_comm]
section
variable (p : UInt8 → Bool)
def tl (l : List UInt8) : List UInt8 := l.dropWhile p
def tr (l : List UInt8) : List UInt8 := (l.reverse.dropWhile p).reverse
theorem tr_cons (x : UInt8) (l : List UInt8) : tr p (x :: l) = if tr p l = [] then (if p x then [] else [x]) else x :: tr p l := by
  unfold tr
  rw [List.reverse_cons, List.dropWhile_append]
  by_cases h : l.reverse.dropWhile p = []
  · rw [h]
    simp only [List.isEmpty_nil, if_true, List.reverse_nil]
    cases hp : p x <;> simp [List.dropWhile, hp]
  · have h2 : (l.reverse.dropWhile p).isEmpty = false := by cases hq : l.reverse.dropWhile p with
      | nil => exact absurd hq h
      | cons _ _ => rfl
    rw [h2]
    simp [h]
theorem tl_tr : ∀ l : List UInt8, tl p (tr p l) = tr p (tl p l)
  | [] => rfl
  | x :: l => by
    have ih := tl_tr l
    rw [tr_cons]
    cases hp : p x with
    | true =>
      have e : tl p (x :: l) = tl p l := by unfold tl; rw [List.dropWhile_cons, hp]; rfl
      rw [e, ← ih]
      by_cases h : tr p l = []
      · rw [if_pos h, h]; rfl
      · rw [if_neg h]
        unfold tl
        rw [List.dropWhile_cons, hp]; rfl
    | false =>
      have e : tl p (x :: l) = x :: l := by unfold tl; rw [List.dropWhile_cons, hp]; rfl
      rw [e, tr_cons, hp]
      by_cases h : tr p l = []
      · rw [if_pos h]
        unfold tl
        simp [List.dropWhile_cons, hp]
      · rw [if_neg h]
        unfold tl
        rw [List.dropWhile_cons, hp]; rfl
end
theorem trim_l1 : ∀ (n : Nat) (l : List UInt8), l.length ≤ n → n ≤ 4611686018427387904 → Ev (fun k => muslinref06_Trim.l1 k (B l)) (B (Lib.trimRightS l ws)) := by
  intro n
  induction n with
  | zero =>
    intro l h _
    obtain rfl : l = [] := List.eq_nil_of_length_eq_zero (by omega)
    refine .succ ?_
    simp only [muslinref06_Trim.l1]
    exact .ifn (by simp) (.of rfl)
  | succ n ih =>
    intro l h hn
    refine .succ ?_
    simp only [muslinref06_Trim.l1]
    rcases List.eq_nil_or_concat l with rfl | ⟨a, c, rfl⟩
    · exact .ifn (by simp) (.of rfl)
    · rw [List.concat_eq_append] at *
      have hs : (a ++ [c]).length = a.length + 1 := by simp
      have e1 : wrap64 (((B (a ++ [c])).size : Int) - 1) = (a.length : Int) := by rw [B_size, hs, w64 (by omega) (by omega)]; omega
      rw [e1, B_size, hs]
      refine .ifp (by omega) (.ifp (by omega) (.ifp (by omega) ?_))
      have eb : bt (B (a ++ [c])) (a.length : Int) = (c.toNat : Int) := by rw [B_bt]; simp
      rw [eb]
      refine .bindc (white_eq c) ?_
      have et : Lib.trimRightS (a ++ [c]) ws = if ws.contains c then Lib.trimRightS a ws else a ++ [c] := by
        unfold Lib.trimRightS
        rw [List.reverse_append]
        simp only [List.reverse_cons, List.reverse_nil, List.nil_append, List.singleton_append, List.dropWhile_cons]
        cases ws.contains c <;> simp
      rw [et]
      cases hc : ws.contains c with
      | true =>
        refine .ifp rfl (.ifp (by omega) ?_)
        rw [Int.toNat_natCast, B_extract]
        have : ((a ++ [c]).drop 0).take (a.length - 0) = a := by simp
        rw [this]
        exact ih a (by omega) (by omega)
      | false =>
        exact .ifn (by simp) (.of rfl)
theorem trim_l0 : ∀ (n : Nat) (l : List UInt8), l.length ≤ n → n ≤ 4611686018427387904 → Ev (fun k => muslinref06_Trim.l0 k (B l)) (B (Lib.trimRightS (Lib.trimLeftS l ws) ws)) := by
  intro n
  induction n with
  | zero =>
    intro l h _
    obtain rfl : l = [] := List.eq_nil_of_length_eq_zero (by omega)
    refine .succ ?_
    simp only [muslinref06_Trim.l0]
    refine .ifn (by simp) (.succ ?_)
    simp only [muslinref06_Trim.j1]
    exact trim_l1 0 [] (by simp) (by omega)
  | succ n ih =>
    intro l h hn
    refine .succ ?_
    simp only [muslinref06_Trim.l0]
    cases l with
    | nil =>
      refine .ifn (by simp) (.succ ?_)
      simp only [muslinref06_Trim.j1]
      exact trim_l1 0 [] (by simp) (by omega)
    | cons c a =>
      have hs : (c :: a).length = a.length + 1 := rfl
      rw [B_size, hs]
      refine .ifp (by omega) (.ifp (by omega) ?_)
      have eb : bt (B (c :: a)) 0 = (c.toNat : Int) := B_bt (c :: a) 0
      rw [eb]
      refine .bindc (white_eq c) ?_
      have et : Lib.trimLeftS (c :: a) ws = if ws.contains c then Lib.trimLeftS a ws else c :: a := by
        unfold Lib.trimLeftS
        rw [List.dropWhile_cons]
      rw [et]
      cases hc : ws.contains c with
      | true =>
        refine .ifp rfl (.ifp (by omega) ?_)
        rw [B_extract]
        have : ((c :: a).drop 1).take (a.length + 1 - 1) = a := by simp
        rw [this]
        exact ih a (by omega) (by omega)
      | false =>
        refine .ifn (by simp) (.succ ?_)
        simp only [muslinref06_Trim.j1]
        exact trim_l1 (a.length + 1) (c :: a) (by simp) (by omega)
theorem trim_comm (l : List UInt8) : Lib.trimRightS (Lib.trimLeftS l ws) ws = Lib.trimS l ws := (tl_tr (fun c => ws.contains c) l).symm
theorem trim_ev (l : List UInt8) (hl : l.length ≤ 4611686018427387904) : Ev (fun k => muslinref06_Trim.f k (B l)) (B (Lib.trimS l ws)) := by
  have := trim_l0 l.length l (Nat.le_refl _) hl
  rw [trim_comm] at this
  exact this
theorem B_self (s : ByteArray) : B s.data.toList = s := (B_of s).symm
theorem fieldsL_append (a b : List S29) : fieldsL (a ++ b) = fieldsL a ++ fieldsL b := by simp [fieldsL]
theorem fieldsL_le (l : List S29) (h : ∀ x ∈ l, x.f0.size ≤ 500 ∧ x.f1.size ≤ 500) : (fieldsL l).length ≤ l.length * 1004 := by
  induction l with
  | nil => simp [fieldsL]
  | cons x l ih =>
    have h1 := h x (by simp)
    have h2 := ih (fun y hy => h y (by simp [hy]))
    have e : fieldsL (x :: l) = fieldL x ++ fieldsL l := by simp [fieldsL]
    have e1 : x.f0.data.toList.length = x.f0.size := by simp
    have e2 : x.f1.data.toList.length = x.f1.size := by simp
    rw [e, List.length_append, List.length_cons]
    unfold fieldL
    simp only [List.length_append, List.length_cons, List.length_nil]
    omega
def wrEnd (l : List S29) (body : ByteArray) (ok : Bool) : ByteArray × Int :=
  if ok then (⟨(fieldsL l ++ [13, 10] ++ body.data.toList).toArray⟩, 0) else (⟨#[]⟩, 1)
section
variable (l : List S29) (body : ByteArray) (hl : l.length ≤ 60) (hx : ∀ x ∈ l, x.f0.size ≤ 500 ∧ x.f1.size ≤ 500) (hb : body.size ≤ 5000)
include hl hx hb
theorem take_le (i : Nat) : (fieldsL (l.take i)).length ≤ 60240 := by
  have h1 := fieldsL_le (l.take i) (fun x hm => hx x (List.mem_of_mem_take hm))
  have h2 : (l.take i).length ≤ l.length := by rw [List.length_take]; omega
  omega
theorem wr_l1 (i : Nat) (hi : i < l.length) (hn : Ev (fun k => muslinref06_Write.l0 k l body (B (fieldsL (l.take (i + 1)))) ((i + 1 : Nat) : Int)) (wrEnd l body ((l.drop (i + 1)).all okF))) :
    ∀ (d j : Nat), j + d = l[i].f1.size → Ev (fun k => muslinref06_Write.l1 k l body (B (fieldsL (l.take i))) (i : Int) (j : Int)) (wrEnd l body (!(l[i].f1.data.toList.drop j).any endsB && (l.drop (i + 1)).all okF)) := by
  have ht := take_le l body hl hx hb i
  have hz := hx l[i] (List.getElem_mem hi)
  intro d
  induction d with
  | zero =>
    intro j hj
    refine .succ ?_
    simp only [muslinref06_Write.l1]
    rw [rd29 l i hi]
    have hs0 : (B (fieldsL (l.take i))).size ≤ 60240 := by rw [B_size]; exact ht
    refine .ifp (by omega) (.ifp (by omega) (.ifn (by omega) ?_))
    refine .ifp (by omega) (.ifp (by rw [ByteArray.size_append]; omega) (.ifp ?_ (.ifp ?_ ?_)))
    · rw [ByteArray.size_append, ByteArray.size_append, show (⟨#[58, 32]⟩ : ByteArray).size = 2 from rfl]; omega
    · rw [ByteArray.size_append, ByteArray.size_append, ByteArray.size_append, show (⟨#[58, 32]⟩ : ByteArray).size = 2 from rfl]; omega
    · have e : (((B (fieldsL (l.take i)) ++ l[i].f0) ++ (⟨#[58, 32]⟩ : ByteArray)) ++ l[i].f1) ++ (⟨#[13, 10]⟩ : ByteArray) = B (fieldsL (l.take (i + 1))) := by
        rw [List.take_add_one, List.getElem?_eq_getElem hi, fieldsL_append]
        rw [show (⟨#[58, 32]⟩ : ByteArray) = B [58, 32] from rfl, show (⟨#[13, 10]⟩ : ByteArray) = B [13, 10] from rfl]
        conv => lhs; rw [← B_self l[i].f0, ← B_self l[i].f1]
        rw [B_append, B_append, B_append, B_append]
        simp [fieldsL, fieldL]
      rw [e, w64 (by omega) (by omega)]
      have hd : l[i].f1.data.toList.drop j = [] := List.drop_of_length_le (by simp; omega)
      rw [hd]
      exact hn
  | succ d ih =>
    intro j hj
    refine .succ ?_
    simp only [muslinref06_Write.l1]
    rw [rd29 l i hi]
    have hjl : j < l[i].f1.data.toList.length := by simp; omega
    have hd := drop_cons_get l[i].f1.data.toList j hjl
    have hbt : bt l[i].f1 (j : Int) = ((l[i].f1.data.toList.getD j 0).toNat : Int) := by
      conv => lhs; rw [← B_self l[i].f1]
      exact B_bt _ _
    refine .ifp (by omega) (.ifp (by omega) (.ifp (by omega) (.ifp (by omega) ?_)))
    rw [hbt, hd, List.any_cons]
    have ih' := ih (j + 1) (by omega)
    generalize l[i].f1.data.toList.getD j 0 = c at *
    by_cases h1 : c = 10
    · refine .ifp ((u8_int c 10).2 h1) (.of ?_)
      subst h1; rfl
    · refine .ifn (fun h => h1 ((u8_int c 10).1 h)) ?_
      by_cases h2 : c = 13
      · refine .ifp ((u8_int c 13).2 h2) (.of ?_)
        subst h2; rfl
      · refine .ifn (fun h => h2 ((u8_int c 13).1 h)) ?_
        have he : endsB c = false := by simp [endsB, h1, h2]
        rw [he, Bool.false_or, w64 (by omega) (by omega)]
        exact ih'
theorem wr_l0 : ∀ (d i : Nat), i + d = l.length → Ev (fun k => muslinref06_Write.l0 k l body (B (fieldsL (l.take i))) (i : Int)) (wrEnd l body ((l.drop i).all okF)) := by
  intro d
  induction d with
  | zero =>
    intro i hi
    have ht := take_le l body hl hx hb i
    have hs0 : (B (fieldsL (l.take i))).size ≤ 60240 := by rw [B_size]; exact ht
    refine .succ ?_
    simp only [muslinref06_Write.l0]
    refine .ifn (by omega) (.ifn (by omega) (.ifp (by omega) (.ifp ?_ (.of ?_))))
    · rw [ByteArray.size_append, show (⟨#[13, 10]⟩ : ByteArray).size = 2 from rfl]; omega
    · rw [List.drop_of_length_le (by omega), List.take_of_length_le (by omega)]
      rw [show (⟨#[13, 10]⟩ : ByteArray) = B [13, 10] from rfl]
      conv => lhs; rw [← B_self body]
      rw [B_append, B_append]
      rfl
  | succ d ih =>
    intro i hi
    have h1 : i < l.length := by omega
    have hz := hx l[i] (List.getElem_mem h1)
    refine .succ ?_
    simp only [muslinref06_Write.l0]
    rw [rd29 l i h1]
    refine .ifp (by omega) (.ifp (by omega) ?_)
    have e : (l.drop i).all okF = (okF l[i] && (l.drop (i + 1)).all okF) := by rw [List.drop_eq_getElem_cons h1]; rfl
    rw [e]
    unfold okF
    have hne := name_ev l[i].f0.data.toList (by simp; omega)
    rw [B_self] at hne
    refine .bind hne ?_
    cases hnm : nameB l[i].f0.data.toList with
    | false =>
      refine .ifn (by simp) (.succ ?_)
      simp only [muslinref06_Write.j1]
      exact .ifp (by simp) (.of rfl)
    | true =>
      refine .ifp rfl ?_
      have htr := trim_ev l[i].f1.data.toList (by simp; omega)
      rw [B_self] at htr
      refine .bind htr ?_
      rw [B_list, Lib.toList_data]
      refine .succ ?_
      simp only [muslinref06_Write.j1]
      have hl1 := wr_l1 l body hl hx hb i h1 (ih (i + 1) (by omega)) l[i].f1.size 0 (by omega)
      by_cases hq : Lib.trimS l[i].f1.data.toList ws = l[i].f1.data.toList
      · refine .ifn (by simp [hq]) ?_
        have e2 : (Lib.trimS l[i].f1.data.toList ws == l[i].f1.data.toList) = true := beq_iff_eq.2 hq
        rw [e2, Bool.and_true, Bool.true_and]
        exact hl1
      · refine .ifp (by simp [hq]) (.of ?_)
        have e2 : (Lib.trimS l[i].f1.data.toList ws == l[i].f1.data.toList) = false := beq_eq_false_iff_ne.2 hq
        rw [e2, Bool.and_false]; rfl
end
theorem write_ev (l : List S29) (body : ByteArray) (hf : fewB l = true) (hb : body.size ≤ 5000) : Ev (fun k => muslinref06_Write.f k l body) (writeL l body) := by
  have hl := fewB_len hf
  have := wr_l0 l body hl (fun x hm => fewB_mem hf hm) hb l.length 0 (by omega)
  refine Ev.cast this ?_
  unfold wrEnd writeL
  rw [List.drop_zero, if_pos (show l.length ≤ 500 by omega)]
theorem writeF (l : List S29) (body : ByteArray) (hf : fewB l = true) (hb : body.size ≤ 5000) : lines_Write.f l body = some (writeL l body) := by
  unfold lines_Write.f
  rw [if_pos]
  unfold wrOk
  rw [Bool.and_eq_true, decide_eq_true_eq, List.all_eq_true]
  refine ⟨⟨by have := fewB_len hf; omega, by omega⟩, fun x hm => ?_⟩
  have := fewB_mem hf hm
  exact decide_eq_true (by omega)
theorem nameB_spec {l : List UInt8} (h : nameB l = true) : l ≠ [] ∧ ∀ c ∈ l, badB c = false := by
  unfold nameB at h
  rw [Bool.and_eq_true, Bool.not_eq_true', Bool.not_eq_true'] at h
  exact ⟨by rintro rfl; simp at h, fun c hc => by
    cases hb : badB c with
    | false => rfl
    | true => rw [List.any_eq_true.2 ⟨c, hc, hb⟩] at h; simp at h⟩
theorem nameB_not {l : List UInt8} (h : nameB l = true) (c : UInt8) (hc : badB c = true) : c ∉ l := fun hm => by
  rw [(nameB_spec h).2 c hm] at hc; cases hc
theorem trimRight_id (l : List UInt8) (h : ∀ c ∈ l, ws.contains c = false) : Lib.trimRightS l ws = l := by
  unfold Lib.trimRightS
  have : l.reverse.dropWhile (ws.contains ·) = l.reverse := by
    cases hr : l.reverse with
    | nil => rfl
    | cons c r =>
      rw [List.dropWhile_cons, h c (by rw [← List.mem_reverse, hr]; simp)]
      rfl
  rw [this, List.reverse_reverse]
theorem ws_bad (c : UInt8) (h : badB c = false) : ws.contains c = false := by
  cases hc : ws.contains c with
  | false => rfl
  | true =>
    have : c = 32 ∨ c = 9 := by simpa [ws] using hc
    rcases this with rfl | rfl <;> exact absurd h (by decide)
theorem trim_white (v : List UInt8) (h : Lib.trimS v ws = v) : Lib.trimS (32 :: v) ws = v := by
  rw [← trim_comm]
  have : Lib.trimLeftS (32 :: v) ws = Lib.trimLeftS v ws := by
    unfold Lib.trimLeftS
    rw [List.dropWhile_cons]
    rfl
  rw [this, trim_comm, h]
theorem lineOf_end (t r : List UInt8) (h : (10 : UInt8) ∉ t) : lineOf (t ++ 13 :: 10 :: r) = (t, r, true) := by
  have e : t ++ 13 :: 10 :: r = (t ++ [13]) ++ 10 :: r := by simp
  rw [lineOf_brk, e, brk1_hit 10 (t ++ [13]) r (by simp [h])]
  simp only [if_true]
  rw [chop_snoc, if_pos rfl]
def textOf (x : S29) : List UInt8 := x.f0.data.toList ++ 58 :: 32 :: x.f1.data.toList
theorem okF_spec {x : S29} (h : okF x = true) : nameB x.f0.data.toList = true ∧ (∀ c ∈ x.f1.data.toList, endsB c = false) ∧ Lib.trimS x.f1.data.toList ws = x.f1.data.toList := by
  unfold okF at h
  rw [Bool.and_eq_true, Bool.and_eq_true, Bool.not_eq_true'] at h
  refine ⟨h.1, fun c hc => ?_, beq_iff_eq.1 h.2.2⟩
  cases hb : endsB c with
  | false => rfl
  | true => rw [List.any_eq_true.2 ⟨c, hc, hb⟩] at h; simp at h
theorem text_no10 {x : S29} (h : okF x = true) : (10 : UInt8) ∉ textOf x := by
  obtain ⟨h1, h2, _⟩ := okF_spec h
  intro hm
  unfold textOf at hm
  rcases List.mem_append.1 hm with hm | hm
  · exact nameB_not h1 10 (by decide) hm
  · rcases List.mem_cons.1 hm with hm | hm
    · exact absurd hm (by decide)
    · rcases List.mem_cons.1 hm with hm | hm
      · exact absurd hm (by decide)
      · have := h2 10 hm; exact absurd this (by decide)
theorem hdLine_field {x : S29} (h : okF x = true) (st : HdSt) (hl : (shutL st).1.length < 500) (r : List UInt8) : hdLine st (textOf x, r, true) = ((shutL st).1 ++ [⟨x.f0, ⟨#[]⟩⟩], some [32 :: x.f1.data.toList]) := by
  obtain ⟨h1, h2, h3⟩ := okF_spec h
  obtain ⟨hne, hok⟩ := nameB_spec h1
  have hcut : Lib.cut (textOf x) [58] = (x.f0.data.toList, 32 :: x.f1.data.toList, true) := by
    rw [brk1_cut]
    exact brk1_hit 58 _ _ (nameB_not h1 58 (by decide))
  have hnm : nameOf (textOf x, r, true) = x.f0.data.toList := by
    unfold nameOf
    simp only [hcut]
    exact trimRight_id _ (fun c hc => ws_bad c (hok c hc))
  have hfi : fieldIs (textOf x, r, true) = true := by
    unfold fieldIs
    rw [hnm, h1]
    simp only [hcut]
    rfl
  have hv : valOf (textOf x, r, true) = 32 :: x.f1.data.toList := by
    unfold valOf
    simp only [hcut]
  have hw : whiteHead (textOf x) = false := by
    cases hq : x.f0.data.toList with
    | nil => exact absurd hq hne
    | cons c t =>
      unfold textOf
      rw [hq]
      exact ws_bad c (hok c (by rw [hq]; simp))
  rw [hdLine_new hw hfi hl, hnm, hv]
theorem shut_field (out : List S29) (x : S29) (h : okF x = true) : (shutL (out ++ [⟨x.f0, ⟨#[]⟩⟩], some [32 :: x.f1.data.toList])).1 = out ++ [x] := by
  obtain ⟨_, _, h3⟩ := okF_spec h
  show setLast (out ++ [⟨x.f0, ⟨#[]⟩⟩]) (Lib.trimS ([32 :: x.f1.data.toList] : List (List UInt8)).flatten ws) = _
  have e : ([32 :: x.f1.data.toList] : List (List UInt8)).flatten = 32 :: x.f1.data.toList := by simp
  rw [e, trim_white _ h3]
  simp [setLast]
theorem run_back (body : List UInt8) : ∀ (l : List S29) (st : HdSt), (∀ x ∈ l, okF x = true) → (shutL st).1.length + l.length ≤ 500 → ∃ st', hdRun (linesL (fieldsL l ++ 13 :: 10 :: body)) st = (st', body) ∧ (shutL st').1 = (shutL st).1 ++ l := by
  intro l
  induction l with
  | nil =>
    intro st _ _
    refine ⟨st, ?_, by simp⟩
    show hdRun (linesL (13 :: 10 :: body)) st = _
    rw [linesL_cons (by simp), show lineOf (13 :: 10 :: body) = ([], body, true) from lineOf_end [] body (by simp)]
    rfl
  | cons x l ih =>
    intro st hok hlen
    have hx := hok x (by simp)
    simp only [List.length_cons] at hlen
    have e : fieldsL (x :: l) ++ 13 :: 10 :: body = textOf x ++ 13 :: 10 :: (fieldsL l ++ 13 :: 10 :: body) := by
      simp [fieldsL, fieldL, textOf]
    have hne : textOf x ++ 13 :: 10 :: (fieldsL l ++ 13 :: 10 :: body) ≠ [] := by simp
    obtain ⟨st', h1, h2⟩ := ih ((shutL st).1 ++ [⟨x.f0, ⟨#[]⟩⟩], some [32 :: x.f1.data.toList]) (fun y hy => hok y (by simp [hy])) (by rw [shut_field _ _ hx]; simp; omega)
    refine ⟨st', ?_, ?_⟩
    · rw [e, linesL_cons hne, lineOf_end _ _ (text_no10 hx)]
      have hs : stops (textOf x, fieldsL l ++ 13 :: 10 :: body, true) = false := by
        unfold stops textOf
        cases x.f0.data.toList <;> rfl
      show hdRun ((textOf x, fieldsL l ++ 13 :: 10 :: body, true) :: linesL (fieldsL l ++ 13 :: 10 :: body)) st = _
      rw [hdRun, hs, hdLine_field hx st (by omega)]
      exact h1
    · rw [h2, shut_field _ _ hx]; simp
theorem head_back (l : List S29) (body : List UInt8) (hok : ∀ x ∈ l, okF x = true) (hlen : l.length ≤ 500) : headL (fieldsL l ++ 13 :: 10 :: body) = (l, body) := by
  obtain ⟨st', h1, h2⟩ := run_back body l ([], none) hok (by show 0 + _ ≤ _; omega)
  unfold headL
  rw [h1]
  exact Prod.ext (by simpa [shutL] using h2) rfl
theorem same_l0 (a : List S29) (hl : a.length ≤ 4611686018427387904) : ∀ (d i : Nat), i + d = a.length → Ev (fun k => muslinref06_Same.l0 k a a (i : Int)) true := by
  intro d
  induction d with
  | zero =>
    intro i hi
    refine .succ ?_
    simp only [muslinref06_Same.l0]
    exact .ifn (by omega) (.pure _)
  | succ d ih =>
    intro i hi
    refine .succ ?_
    simp only [muslinref06_Same.l0]
    refine .ifp (by omega) (.ifp (by omega) (.ifp (by omega) (.ifn (by simp) ?_)))
    rw [w64 (by omega) (by omega)]
    exact ih (i + 1) (by omega)
theorem same_refl (a : List S29) (hl : a.length ≤ 4611686018427387904) : Ev (fun k => muslinref06_Same.f k a a) true := by
  unfold muslinref06_Same.f
  exact .ifp rfl (same_l0 a hl a.length 0 (by omega))
theorem bk_j0_true (l : List S29) (body : ByteArray) : Ev (fun k => muslinlaw06_LinesBack.j0 k l body true) true := by
  refine .succ ?_
  simp only [muslinlaw06_LinesBack.j0]
  exact .ifp (by simp) (.bind live_ev (.pure _))
theorem bk_j0 (l : List S29) (body : ByteArray) (hf : fewB l = true) (hb : body.size ≤ 5000) : Ev (fun k => muslinlaw06_LinesBack.j0 k l body false) true := by
  refine .succ ?_
  simp only [muslinlaw06_LinesBack.j0]
  refine .ifn (by simp) (.bindc (writeF l body hf hb) ?_)
  have hl := fewB_len hf
  cases hok : l.all okF with
  | false =>
    have e : writeL l body = (⟨#[]⟩, 1) := by unfold writeL; rw [hok]; rfl
    rw [e]
    exact .ifn (by decide) (.ifp (B_list []) (.bind live_ev (.pure _)))
  | true =>
    have e : writeL l body = (B (fieldsL l ++ 13 :: 10 :: body.data.toList), 0) := by
      unfold writeL
      rw [hok, if_pos rfl, if_pos (show l.length ≤ 500 by omega)]
      simp [B]
    rw [e]
    have hsz : (fieldsL l ++ 13 :: 10 :: body.data.toList).length ≤ 1000000 := by
      have h1 := fieldsL_le l (fun x hm => fewB_mem hf hm)
      have e2 : body.data.toList.length = body.size := by simp
      simp only [List.length_append, List.length_cons]
      omega
    have hh : lines_Head.f (B (fieldsL l ++ 13 :: 10 :: body.data.toList)) = some (l, body) := by
      unfold lines_Head.f
      rw [if_pos (by rw [B_size]; exact hsz), B_data, head_back l _ (List.all_eq_true.1 hok) (by omega)]
    exact .ifp rfl (.bindc hh (.bind (same_refl l (by omega)) (.ifp rfl (.ifp rfl (.bind live_ev (.pure _))))))
theorem LinesBack (l : List S29) (a1 : ByteArray) (_ : a1.size ≤ 140737488351232) : ∃ k, muslinlaw06_LinesBack.f k l a1 = some true := by
  refine Ev.ex ?_
  unfold muslinlaw06_LinesBack.f muslinlaw06_short.f
  refine .bind (few_ev l) ?_
  cases hf : fewB l with
  | false => exact .ifn (by simp) (bk_j0_true _ _)
  | true =>
    refine .ifp rfl (.bindc rfl ?_)
    by_cases h2 : a1.size ≤ 5000
    · rw [show decide ((a1.size : Int) ≤ 5000) = true from decide_eq_true (by omega)]
      exact bk_j0 l a1 hf h2
    · rw [show decide ((a1.size : Int) ≤ 5000) = false from decide_eq_false (by omega)]
      exact bk_j0_true _ _
end Go.Proofs.YtomfdejamngkjaaDoor.Pure
