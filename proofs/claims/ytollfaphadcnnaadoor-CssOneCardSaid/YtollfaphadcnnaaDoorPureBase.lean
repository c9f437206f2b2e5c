/- Words for the plain laws: an answer from some number of rounds on; byte strings as lists of bytes; a cut at one byte. -/
import Derived.Test.YtollfaphadcnnaaDoorPrx0
import Derived.Lib.CutLaws
import Derived.Lib.IndexBytes
import Derived.Lib.Strings
set_option linter.unusedVariables false
set_option linter.unusedSimpArgs false
namespace Go.Proofs.YtollfaphadcnnaaDoor.Pure
open Go Go.RowKit Go.Proofs.YtollfaphadcnnaaDoor.Pr Go.Proofs.YtollfaphadcnnaaDoorW.PrintWords Go.Proofs.YtollfaphadcnnaaDoorW.PrintLast

/-! ### An answer from some number of rounds on -/
def Ev {α : Type} (f : Nat → Option α) (v : α) : Prop := ∃ n, ∀ k, n ≤ k → f k = some v
section
variable {α β : Type} {f g : Nat → Option α} {v : α} {p : Prop} [Decidable p]
theorem Ev.pure (v : α) : Ev (fun _ => some v) v := ⟨0, fun _ _ => rfl⟩
theorem Ev.of {o : Option α} (h : o = some v) : Ev (fun _ => o) v := ⟨0, fun _ _ => h⟩
theorem Ev.succ (h : Ev (fun k => f (k + 1)) v) : Ev f v := by
  obtain ⟨n, hn⟩ := h
  refine ⟨n + 1, fun k hk => ?_⟩
  obtain ⟨k, rfl⟩ : ∃ m, k = m + 1 := ⟨k - 1, by omega⟩
  exact hn k (by omega)
theorem Ev.bind {F : Nat → Option β} {G : Nat → β → Option α} {a : β} (h : Ev F a) (h2 : Ev (fun k => G k a) v) : Ev (fun k => (F k).bind fun x => G k x) v := by
  obtain ⟨n, hn⟩ := h
  obtain ⟨m, hm⟩ := h2
  exact ⟨n + m, fun k hk => by show (F k).bind _ = _; rw [hn k (by omega)]; exact hm k (by omega)⟩
theorem Ev.bindc {o : Option β} {G : Nat → β → Option α} {a : β} (h : o = some a) (h2 : Ev (fun k => G k a) v) : Ev (fun k => o.bind fun x => G k x) v := Ev.bind (Ev.of h) h2
theorem Ev.ifp (h : p) (h2 : Ev f v) : Ev (fun k => if p then f k else g k) v := by
  obtain ⟨n, hn⟩ := h2
  exact ⟨n, fun k hk => by show (if p then f k else g k) = _; rw [if_pos h]; exact hn k hk⟩
theorem Ev.ifn (h : ¬ p) (h2 : Ev g v) : Ev (fun k => if p then f k else g k) v := by
  obtain ⟨n, hn⟩ := h2
  exact ⟨n, fun k hk => by show (if p then f k else g k) = _; rw [if_neg h]; exact hn k hk⟩
theorem Ev.ex (h : Ev f v) : ∃ k, f k = some v := by
  obtain ⟨n, hn⟩ := h
  exact ⟨n, hn n (Nat.le_refl _)⟩
theorem Ev.cast {v' : α} (h : Ev f v) (e : v = v') : Ev f v' := e ▸ h
end
theorem w64 {i : Int} (h0 : -9223372036854775808 ≤ i) (h1 : i ≤ 9223372036854775807) : wrap64 i = i := by unfold wrap64; omega

/-! ### Byte strings as lists -/
/-- The string of bytes. -/
def B (l : List UInt8) : ByteArray := ⟨l.toArray⟩
theorem B_of (s : ByteArray) : s = B s.data.toList := (Lib.mk_data s).symm
@[simp] theorem B_size (l : List UInt8) : (B l).size = l.length := by rw [Lib.size_eq]; rfl
@[simp] theorem B_data (l : List UInt8) : (B l).data.toList = l := rfl
@[simp] theorem B_list (l : List UInt8) : (B l).toList = l := by rw [Lib.toList_data]; rfl
@[simp] theorem B_append (a b : List UInt8) : B a ++ B b = B (a ++ b) := by
  have : (B a ++ B b).data.toList = a ++ b := by simp
  rw [B_of (B a ++ B b), this]
@[simp] theorem B_extract (l : List UInt8) (i j : Nat) : (B l).extract i j = B ((l.drop i).take (j - i)) := by
  rw [B_of ((B l).extract i j), Lib.extract_data, B_data]
theorem B_from (l : List UInt8) (i : Nat) : (B l).extract i l.length = B (l.drop i) := by
  rw [B_extract, List.take_of_length_le (by simp)]
theorem B_upto (l : List UInt8) (i : Nat) : (B l).extract 0 i = B (l.take i) := by rw [B_extract]; rfl
theorem B_inj {a b : List UInt8} (h : B a = B b) : a = b := by have := congrArg (fun s : ByteArray => s.data.toList) h; exact this
theorem lit (l : List UInt8) : (⟨l.toArray⟩ : ByteArray) = B l := rfl
theorem B_bt (l : List UInt8) (j : Nat) : bt (B l) (j : Int) = ((l.getD j 0).toNat : Int) := by
  unfold bt
  rw [Int.toNat_natCast]
  split
  · rename_i h
    rw [List.getD_eq_getElem?_getD, List.getElem?_eq_getElem (by simpa using h)]
    rfl
  · rename_i h
    rw [List.getD_eq_getElem?_getD, List.getElem?_eq_none (by simpa using h)]
    rfl
theorem drop_cons_get (l : List UInt8) (j : Nat) (h : j < l.length) : l.drop j = l.getD j 0 :: l.drop (j + 1) := by
  rw [List.drop_eq_getElem_cons h, List.getD_eq_getElem?_getD, List.getElem?_eq_getElem h]
  rfl
theorem get_drop (l : List UInt8) (j : Nat) (c : UInt8) (r : List UInt8) (h : l.drop j = c :: r) : j < l.length ∧ l.getD j 0 = c ∧ l.drop (j + 1) = r := by
  have hj : j < l.length := by
    rcases Nat.lt_or_ge j l.length with h1 | h1
    · exact h1
    · rw [List.drop_eq_nil_of_le h1] at h; cases h
  rw [drop_cons_get l j hj] at h
  injection h with h1 h2
  exact ⟨hj, h1, h2⟩
theorem drop_nil_le (l : List UInt8) (j : Nat) (h : l.drop j = []) : l.length ≤ j := by simpa using h
theorem u8_int (c : UInt8) (n : UInt8) : ((c.toNat : Int) = (n.toNat : Int)) ↔ c = n := by
  constructor
  · intro h; exact UInt8.toNat_inj.1 (by omega)
  · rintro rfl; rfl
theorem u8_all {p : UInt8 → Prop} (h : ∀ n : Fin 256, p (UInt8.ofFin n)) (c : UInt8) : p c := h c.toFin

/-! ### A cut at one byte -/
def brk1 (c : UInt8) : List UInt8 → List UInt8 × List UInt8 × Bool
  | [] => ([], [], false)
  | x :: r => if x = c then ([], r, true) else (x :: (brk1 c r).1, (brk1 c r).2.1, (brk1 c r).2.2)
theorem brk1_cut (c : UInt8) : ∀ l : List UInt8, Lib.cut l [c] = brk1 c l
  | [] => by
    have h : Lib.index [] [c] = -1 := by unfold Lib.index; rfl
    unfold Lib.cut
    rw [h]; rfl
  | x :: r => by
    have ih := brk1_cut c r
    by_cases hx : x = c
    · have h : Lib.index (x :: r) [c] = 0 := by unfold Lib.index; rw [if_pos (by simp [hx])]
      unfold Lib.cut brk1
      rw [h, if_pos hx]; simp
    · have hp : [c].isPrefixOf (x :: r) = false := by
        rw [Bool.eq_false_iff]; intro h; simp at h; exact hx h.symm
      have h : Lib.index (x :: r) [c] = if Lib.index r [c] == -1 then -1 else Lib.index r [c] + 1 := by
        conv => lhs; unfold Lib.index
        rw [hp]; rfl
      have hg := Lib.index_ge r [c]
      unfold brk1
      rw [if_neg hx, ← ih]
      unfold Lib.cut
      rw [h]
      by_cases h0 : Lib.index r [c] = -1
      · rw [h0]; rfl
      · have h1 : (Lib.index r [c] == -1) = false := by rw [beq_eq_false_iff_ne]; exact h0
        rw [h1]
        obtain ⟨i, hi⟩ : ∃ i : Nat, Lib.index r [c] = (i : Int) := ⟨(Lib.index r [c]).toNat, by omega⟩
        rw [hi]
        have e1 : (0 : Int) ≤ (i : Int) + 1 := by omega
        have e2 : ((i : Int) + 1).toNat = i + 1 := by omega
        simp [e1, e2]
theorem brk1_no (c : UInt8) : ∀ l : List UInt8, c ∉ l → brk1 c l = (l, [], false)
  | [], _ => rfl
  | x :: r, h => by
    have h1 : x ≠ c := fun e => h (by simp [e])
    have h2 : c ∉ r := fun e => h (List.mem_cons_of_mem _ e)
    unfold brk1
    rw [if_neg h1, brk1_no c r h2]
theorem brk1_hit (c : UInt8) : ∀ a b : List UInt8, c ∉ a → brk1 c (a ++ c :: b) = (a, b, true)
  | [], b, _ => by show brk1 c (c :: b) = _; unfold brk1; rw [if_pos rfl]
  | x :: a, b, h => by
    have h1 : x ≠ c := fun e => h (by simp [e])
    have h2 : c ∉ a := fun e => h (List.mem_cons_of_mem _ e)
    show brk1 c (x :: (a ++ c :: b)) = _
    unfold brk1
    rw [if_neg h1, brk1_hit c a b h2]
theorem brk1_spec (c : UInt8) : ∀ l : List UInt8, c ∉ (brk1 c l).1 ∧ ((brk1 c l).2.2 = true → l = (brk1 c l).1 ++ c :: (brk1 c l).2.1) ∧ ((brk1 c l).2.2 = false → l = (brk1 c l).1 ∧ (brk1 c l).2.1 = [])
  | [] => ⟨by simp [brk1], fun h => by simp [brk1] at h, fun _ => ⟨rfl, rfl⟩⟩
  | x :: r => by
    have ih := brk1_spec c r
    unfold brk1
    by_cases hx : x = c
    · rw [if_pos hx]
      exact ⟨by simp, fun _ => by simp [hx], fun h => by simp at h⟩
    · rw [if_neg hx]
      refine ⟨?_, fun h => ?_, fun h => ?_⟩
      · simp only [List.mem_cons, not_or]
        exact ⟨fun e => hx e.symm, ih.1⟩
      · have := ih.2.1 h
        simp only [List.cons_append, List.cons.injEq, true_and]
        exact this
      · have := ih.2.2 h
        exact ⟨by rw [← this.1], this.2⟩
end Go.Proofs.YtollfaphadcnnaaDoor.Pure
