/- The reference's Write answers as lines.Write does. -/
import Derived.Test.YtomfdejamngkjaaDoorPureTrim
import Derived.Test.YtomfdejamngkjaaDoorPrx7
set_option linter.unusedVariables false
set_option linter.unusedSimpArgs false
set_option linter.unusedSectionVars false
namespace Go.Proofs.YtomfdejamngkjaaDoor.Pure
open Go Go.RowKit Go.Proofs.YtomfdejamngkjaaDoor.Pr Go.Proofs.YtomfdejamngkjaaDoorW.PrintWords Go.Proofs.YtomfdejamngkjaaDoorW.PrintLast Plain Go.Proofs.YtomfdejamngkjaaDoor
theorem B_self (s : ByteArray) : B s.data.toList = s := (B_of s).symm
theorem fieldsL_append (a b : List S29) : fieldsL (a ++ b) = fieldsL a ++ fieldsL b := by simp [fieldsL]
theorem fieldsL_le (l : List S29) (h : ∀ x ∈ l, x.f0.size ≤ 500 ∧ x.f1.size ≤ 500) : (fieldsL l).length ≤ l.length * 1004 := by
  induction l with
  | nil => simp [fieldsL]
  | cons x l ih =>
    have h1 := h x (by simp)
    have h2 := ih (fun y hy => h y (by simp [hy]))
    have e : fieldsL (x :: l) = fieldL x ++ fieldsL l := by simp [fieldsL]
    have e1 : x.f0.data.toList.length = x.f0.size := by simp
    have e2 : x.f1.data.toList.length = x.f1.size := by simp
    rw [e, List.length_append, List.length_cons]
    unfold fieldL
    simp only [List.length_append, List.length_cons, List.length_nil]
    omega
def wrEnd (l : List S29) (body : ByteArray) (ok : Bool) : ByteArray × Int :=
  if ok then (⟨(fieldsL l ++ [13, 10] ++ body.data.toList).toArray⟩, 0) else (⟨#[]⟩, 1)
section
variable (l : List S29) (body : ByteArray) (hl : l.length ≤ 60) (hx : ∀ x ∈ l, x.f0.size ≤ 500 ∧ x.f1.size ≤ 500) (hb : body.size ≤ 5000)
include hl hx hb
theorem take_le (i : Nat) : (fieldsL (l.take i)).length ≤ 60240 := by
  have h1 := fieldsL_le (l.take i) (fun x hm => hx x (List.mem_of_mem_take hm))
  have h2 : (l.take i).length ≤ l.length := by rw [List.length_take]; omega
  omega
theorem wr_l1 (i : Nat) (hi : i < l.length) (hn : Ev (fun k => muslinref06_Write.l0 k l body (B (fieldsL (l.take (i + 1)))) ((i + 1 : Nat) : Int)) (wrEnd l body ((l.drop (i + 1)).all okF))) :
    ∀ (d j : Nat), j + d = l[i].f1.size → Ev (fun k => muslinref06_Write.l1 k l body (B (fieldsL (l.take i))) (i : Int) (j : Int)) (wrEnd l body (!(l[i].f1.data.toList.drop j).any endsB && (l.drop (i + 1)).all okF)) := by
  have ht := take_le l body hl hx hb i
  have hz := hx l[i] (List.getElem_mem hi)
  intro d
  induction d with
  | zero =>
    intro j hj
    refine .succ ?_
    simp only [muslinref06_Write.l1]
    rw [rd29 l i hi]
    have hs0 : (B (fieldsL (l.take i))).size ≤ 60240 := by rw [B_size]; exact ht
    refine .ifp (by omega) (.ifp (by omega) (.ifn (by omega) ?_))
    refine .ifp (by omega) (.ifp (by rw [ByteArray.size_append]; omega) (.ifp ?_ (.ifp ?_ ?_)))
    · rw [ByteArray.size_append, ByteArray.size_append, show (⟨#[58, 32]⟩ : ByteArray).size = 2 from rfl]; omega
    · rw [ByteArray.size_append, ByteArray.size_append, ByteArray.size_append, show (⟨#[58, 32]⟩ : ByteArray).size = 2 from rfl]; omega
    · have e : (((B (fieldsL (l.take i)) ++ l[i].f0) ++ (⟨#[58, 32]⟩ : ByteArray)) ++ l[i].f1) ++ (⟨#[13, 10]⟩ : ByteArray) = B (fieldsL (l.take (i + 1))) := by
        rw [List.take_add_one, List.getElem?_eq_getElem hi, fieldsL_append]
        rw [show (⟨#[58, 32]⟩ : ByteArray) = B [58, 32] from rfl, show (⟨#[13, 10]⟩ : ByteArray) = B [13, 10] from rfl]
        conv => lhs; rw [← B_self l[i].f0, ← B_self l[i].f1]
        rw [B_append, B_append, B_append, B_append]
        simp [fieldsL, fieldL]
      rw [e, w64 (by omega) (by omega)]
      have hd : l[i].f1.data.toList.drop j = [] := List.drop_of_length_le (by simp; omega)
      rw [hd]
      exact hn
  | succ d ih =>
    intro j hj
    refine .succ ?_
    simp only [muslinref06_Write.l1]
    rw [rd29 l i hi]
    have hjl : j < l[i].f1.data.toList.length := by simp; omega
    have hd := drop_cons_get l[i].f1.data.toList j hjl
    have hbt : bt l[i].f1 (j : Int) = ((l[i].f1.data.toList.getD j 0).toNat : Int) := by
      conv => lhs; rw [← B_self l[i].f1]
      exact B_bt _ _
    refine .ifp (by omega) (.ifp (by omega) (.ifp (by omega) (.ifp (by omega) ?_)))
    rw [hbt, hd, List.any_cons]
    have ih' := ih (j + 1) (by omega)
    generalize l[i].f1.data.toList.getD j 0 = c at *
    by_cases h1 : c = 10
    · refine .ifp ((u8_int c 10).2 h1) (.of ?_)
      subst h1; rfl
    · refine .ifn (fun h => h1 ((u8_int c 10).1 h)) ?_
      by_cases h2 : c = 13
      · refine .ifp ((u8_int c 13).2 h2) (.of ?_)
        subst h2; rfl
      · refine .ifn (fun h => h2 ((u8_int c 13).1 h)) ?_
        have he : endsB c = false := by simp [endsB, h1, h2]
        rw [he, Bool.false_or, w64 (by omega) (by omega)]
        exact ih'
theorem wr_l0 : ∀ (d i : Nat), i + d = l.length → Ev (fun k => muslinref06_Write.l0 k l body (B (fieldsL (l.take i))) (i : Int)) (wrEnd l body ((l.drop i).all okF)) := by
  intro d
  induction d with
  | zero =>
    intro i hi
    have ht := take_le l body hl hx hb i
    have hs0 : (B (fieldsL (l.take i))).size ≤ 60240 := by rw [B_size]; exact ht
    refine .succ ?_
    simp only [muslinref06_Write.l0]
    refine .ifn (by omega) (.ifn (by omega) (.ifp (by omega) (.ifp ?_ (.of ?_))))
    · rw [ByteArray.size_append, show (⟨#[13, 10]⟩ : ByteArray).size = 2 from rfl]; omega
    · rw [List.drop_of_length_le (by omega), List.take_of_length_le (by omega)]
      rw [show (⟨#[13, 10]⟩ : ByteArray) = B [13, 10] from rfl]
      conv => lhs; rw [← B_self body]
      rw [B_append, B_append]
      rfl
  | succ d ih =>
    intro i hi
    have h1 : i < l.length := by omega
    have hz := hx l[i] (List.getElem_mem h1)
    refine .succ ?_
    simp only [muslinref06_Write.l0]
    rw [rd29 l i h1]
    refine .ifp (by omega) (.ifp (by omega) ?_)
    have e : (l.drop i).all okF = (okF l[i] && (l.drop (i + 1)).all okF) := by rw [List.drop_eq_getElem_cons h1]; rfl
    rw [e]
    unfold okF
    have hne := name_ev l[i].f0.data.toList (by simp; omega)
    rw [B_self] at hne
    refine .bind hne ?_
    cases hnm : nameB l[i].f0.data.toList with
    | false =>
      refine .ifn (by simp) (.succ ?_)
      simp only [muslinref06_Write.j1]
      exact .ifp (by simp) (.of rfl)
    | true =>
      refine .ifp rfl ?_
      have htr := trim_ev l[i].f1.data.toList (by simp; omega)
      rw [B_self] at htr
      refine .bind htr ?_
      rw [B_list, Lib.toList_data]
      refine .succ ?_
      simp only [muslinref06_Write.j1]
      have hl1 := wr_l1 l body hl hx hb i h1 (ih (i + 1) (by omega)) l[i].f1.size 0 (by omega)
      by_cases hq : Lib.trimS l[i].f1.data.toList ws = l[i].f1.data.toList
      · refine .ifn (by simp [hq]) ?_
        have e2 : (Lib.trimS l[i].f1.data.toList ws == l[i].f1.data.toList) = true := beq_iff_eq.2 hq
        rw [e2, Bool.and_true, Bool.true_and]
        exact hl1
      · refine .ifp (by simp [hq]) (.of ?_)
        have e2 : (Lib.trimS l[i].f1.data.toList ws == l[i].f1.data.toList) = false := beq_eq_false_iff_ne.2 hq
        rw [e2, Bool.and_false]; rfl
end
theorem write_ev (l : List S29) (body : ByteArray) (hf : fewB l = true) (hb : body.size ≤ 5000) : Ev (fun k => muslinref06_Write.f k l body) (writeL l body) := by
  have hl := fewB_len hf
  have := wr_l0 l body hl (fun x hm => fewB_mem hf hm) hb l.length 0 (by omega)
  refine Ev.cast this ?_
  unfold wrEnd writeL
  rw [List.drop_zero, if_pos (show l.length ≤ 500 by omega)]
theorem writeF (l : List S29) (body : ByteArray) (hf : fewB l = true) (hb : body.size ≤ 5000) : lines_Write.f l body = some (writeL l body) := by
  unfold lines_Write.f
  rw [if_pos]
  unfold wrOk
  rw [Bool.and_eq_true, decide_eq_true_eq, List.all_eq_true]
  refine ⟨⟨by have := fewB_len hf; omega, by omega⟩, fun x hm => ?_⟩
  have := fewB_mem hf hm
  exact decide_eq_true (by omega)
end Go.Proofs.YtomfdejamngkjaaDoor.Pure
