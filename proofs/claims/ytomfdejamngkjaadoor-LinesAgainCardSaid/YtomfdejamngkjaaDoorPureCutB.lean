/- More of the lines of a text. -/
import Derived.Test.YtomfdejamngkjaaDoorPureCut
import Derived.Test.YtomfdejamngkjaaDoorGiven
set_option linter.unusedVariables false
set_option linter.unusedSimpArgs false
namespace Go.Proofs.YtomfdejamngkjaaDoor.Pure
open Go Go.RowKit Go.Proofs.YtomfdejamngkjaaDoor.Pr Go.Proofs.YtomfdejamngkjaaDoorW.PrintWords Go.Proofs.YtomfdejamngkjaaDoorW.PrintLast Plain Go.Proofs.YtomfdejamngkjaaDoor
theorem B_from (l : List UInt8) (i : Nat) : (B l).extract i l.length = B (l.drop i) := by
  rw [B_extract, List.take_of_length_le (by simp)]
theorem B_upto (l : List UInt8) (i : Nat) : (B l).extract 0 i = B (l.take i) := by rw [B_extract]; rfl
theorem B_inj {a b : List UInt8} (h : B a = B b) : a = b := by have := congrArg (fun s : ByteArray => s.data.toList) h; exact this
theorem lit (l : List UInt8) : (⟨l.toArray⟩ : ByteArray) = B l := rfl
theorem get_drop (l : List UInt8) (j : Nat) (c : UInt8) (r : List UInt8) (h : l.drop j = c :: r) : j < l.length ∧ l.getD j 0 = c ∧ l.drop (j + 1) = r := by
  have hj : j < l.length := by
    rcases Nat.lt_or_ge j l.length with h1 | h1
    · exact h1
    · rw [List.drop_eq_nil_of_le h1] at h; cases h
  rw [drop_cons_get l j hj] at h
  injection h with h1 h2
  exact ⟨hj, h1, h2⟩
theorem drop_nil_le (l : List UInt8) (j : Nat) (h : l.drop j = []) : l.length ≤ j := by simpa using h
theorem u8_all {p : UInt8 → Prop} (h : ∀ n : Fin 256, p (UInt8.ofFin n)) (c : UInt8) : p c := h c.toFin
theorem brk1_no (c : UInt8) : ∀ l : List UInt8, c ∉ l → brk1 c l = (l, [], false)
  | [], _ => rfl
  | x :: r, h => by
    have h1 : x ≠ c := fun e => h (by simp [e])
    have h2 : c ∉ r := fun e => h (List.mem_cons_of_mem _ e)
    unfold brk1
    rw [if_neg h1, brk1_no c r h2]
theorem chop_eq (a : List UInt8) : chop a = if a ≠ [] ∧ a.getD (a.length - 1) 0 = 13 then a.take (a.length - 1) else a := by
  rcases List.eq_nil_or_concat a with rfl | ⟨b, c, rfl⟩
  · rw [chop_nil]; simp
  · rw [List.concat_eq_append, chop_snoc]
    have h1 : (b ++ [c]).getD ((b ++ [c]).length - 1) 0 = c := by simp
    have h2 : (b ++ [c]).take ((b ++ [c]).length - 1) = b := by simp
    rw [h1, h2]
    simp
theorem cutL_nil : cutL [] = [] := by unfold cutL; rw [linesL_nil]; rfl
theorem cutL_cons {l : List UInt8} (h : l ≠ []) : cutL l = (if (brk1 10 l).2.2 then chop (brk1 10 l).1 else (brk1 10 l).1) :: cutL (brk1 10 l).2.1 := by
  unfold cutL
  rw [linesL_cons h, List.map_cons, lineOf_brk]
theorem cutL_len (l : List UInt8) : (cutL l).length ≤ l.length := by unfold cutL; rw [List.length_map]; exact linesL_len _ l (Nat.le_refl _)
theorem linesCut (l : List UInt8) (h : l.length ≤ 8796093022207) : lines_Cut.f (B l) = some (Pr.bytesOf (cutL l)) := by
  unfold lines_Cut.f
  rw [if_pos (by simpa using h), B_data]
theorem brk_get (l : List UInt8) (c : UInt8) (j : Nat) (h : j < (brk1 c l).1.length) : l.getD j 0 ≠ c := by
  have hs := brk1_spec c l
  have e : l.getD j 0 = (brk1 c l).1.getD j 0 := by
    cases hf : (brk1 c l).2.2 with
    | true =>
      conv => lhs; rw [hs.2.1 hf]
      rw [List.getD_eq_getElem?_getD, List.getElem?_append_left h, List.getD_eq_getElem?_getD]
    | false => conv => lhs; rw [(hs.2.2 hf).1]
  rw [e, List.getD_eq_getElem?_getD, List.getElem?_eq_getElem h]
  intro h2
  have hm := List.getElem_mem h
  rw [show (brk1 c l).1[j] = c from h2] at hm
  exact hs.1 hm
theorem brk_at (l : List UInt8) (c : UInt8) (h : (brk1 c l).2.2 = true) : (brk1 c l).1.length < l.length ∧ l.getD (brk1 c l).1.length 0 = c ∧ l.take (brk1 c l).1.length = (brk1 c l).1 ∧ l.drop ((brk1 c l).1.length + 1) = (brk1 c l).2.1 := by
  have hs := (brk1_spec c l).2.1 h
  generalize hq : brk1 c l = q at *
  rw [hs]
  refine ⟨by simp, by simp, by simp, ?_⟩
  rw [← List.drop_drop]; simp
theorem brk_none (l : List UInt8) (c : UInt8) (h : (brk1 c l).2.2 = false) : (brk1 c l).1 = l ∧ (brk1 c l).2.1 = [] := ⟨((brk1_spec c l).2.2 h).1.symm, ((brk1_spec c l).2.2 h).2⟩
theorem getD_drop (l : List UInt8) (i j : Nat) : (l.drop i).getD j 0 = l.getD (i + j) 0 := by simp [List.getD_eq_getElem?_getD]
theorem bytesOf_append (a b : List (List UInt8)) : Pr.bytesOf (a ++ b) = Pr.bytesOf a ++ Pr.bytesOf b := by simp [Pr.bytesOf]
theorem bytesOf_cons (a : List UInt8) (b : List (List UInt8)) : Pr.bytesOf (a :: b) = B a :: Pr.bytesOf b := rfl
theorem chop_id (a : List UInt8) (h : 13 ∉ a) : chop a = a := by
  rcases List.eq_nil_or_concat a with rfl | ⟨b, c, rfl⟩
  · exact chop_nil
  · rw [List.concat_eq_append] at h ⊢
    rw [chop_snoc, if_neg]
    rintro rfl
    exact h (by simp)
theorem get_ok (l : List S29) (nm : ByteArray) (h1 : l.length ≤ 1000) (h2 : nm.size ≤ 5000) (h3 : ∀ x ∈ l, x.f0.size ≤ 5000000) : lines_Get.f l nm = some (getL l nm) := by
  unfold lines_Get.f
  rw [if_pos]
  unfold getOk
  rw [Bool.and_eq_true, decide_eq_true_eq, List.all_eq_true]
  exact ⟨⟨by omega, by omega⟩, fun x hx => decide_eq_true (by have := h3 x hx; omega)⟩
theorem getL_hit (f : S29) (l : List S29) (nm : ByteArray) (h : nameIs nm f = true) : getL (f :: l) nm = (f.f1, true) := by
  unfold getL
  rw [List.findIdx?_cons, h]
  rfl
theorem getL_miss (f : S29) (l : List S29) (nm : ByteArray) (h : nameIs nm f = false) : getL (f :: l) nm = getL l nm := by
  unfold getL
  rw [List.findIdx?_cons, h]
  cases l.findIdx? (nameIs nm) <;> rfl
end Go.Proofs.YtomfdejamngkjaaDoor.Pure
