/- css.Clean walked. -/
import Derived.Test.YtollfaphadcnnaaDoorDelW
import Derived.Test.YtollfaphadcnnaaDoorPureCut
set_option linter.unusedVariables false
set_option linter.unusedSimpArgs false
namespace Go.Proofs.YtollfaphadcnnaaDoor
open Go.RowKit Go.Shelf Plain Pr Go.Proofs.YtollfaphadcnnaaDoorW.PrintWords Go.Proofs.YtollfaphadcnnaaDoorW.PrintLast Go.Proofs.YtollfaphadcnnaaDoorW.PrintMore
def line (x : S29) : ByteArray := x.f0 ++ ⟨#[58, 32]⟩ ++ x.f1
/-- Of each name the last one, as a text. -/
def lastOf : List S29 → List ByteArray
  | [] => []
  | x :: r => (if r.any (fun e => e.f0.toList == x.f0.toList) then [] else [line x]) ++ lastOf r
def cleanV (l : List UInt8) : ByteArray := ⟨(Lib.join ((lastOf (keepL (Pure.cutV l))).map (·.data.toList)) [59, 32]).toArray⟩
theorem piecesL_mem : ∀ (n : Nat) (l p : List UInt8), l.length < n → p ∈ Pure.piecesL l → p.length ≤ l.length := by
  intro n
  induction n with
  | zero => intro l p h _; omega
  | succ n ih =>
    intro l p h hp
    by_cases hm : Pure.endQ l 0 0 < l.length
    · rw [Pure.piecesL_more hm] at hp
      rcases List.mem_cons.1 hp with rfl | hp
      · rw [List.length_take]; omega
      · have := ih _ p (by rw [List.length_drop]; omega) hp
        rw [List.length_drop] at this; omega
    · rw [Pure.piecesL_last hm] at hp
      rw [List.mem_singleton.1 hp]; exact Nat.le_refl _
theorem piecesL_len : ∀ (n : Nat) (l : List UInt8), l.length < n → (Pure.piecesL l).length ≤ l.length + 1 := by
  intro n
  induction n with
  | zero => intro l h; omega
  | succ n ih =>
    intro l h
    by_cases hm : Pure.endQ l 0 0 < l.length
    · rw [Pure.piecesL_more hm, List.length_cons]
      have := ih (l.drop (Pure.endQ l 0 0 + 1)) (by rw [List.length_drop]; omega)
      rw [List.length_drop] at this; omega
    · rw [Pure.piecesL_last hm]; simp
theorem small_length (l : List UInt8) : (small l).length = l.length := by unfold small; rw [List.length_map]
theorem declOf_mem (p : List UInt8) (x : S29) (hx : x ∈ Pure.declOf p) : x.f0.size ≤ p.length ∧ x.f1.size ≤ p.length := by
  unfold Pure.declOf at hx
  split at hx
  · rw [List.mem_singleton.1 hx]
    have h1 := Pure.cut58_le p
    have h2 := (Pure.trimS_sub (Lib.cut p [58]).1 wh).length_le
    have h3 := (Pure.trimS_sub (Lib.cut p [58]).2.1 wh).length_le
    simp only [Pure.B_size]
    unfold Pure.nmOf Pure.vlOf
    rw [small_length]
    omega
  · cases hx
theorem cutV_mem (l : List UInt8) (x : S29) (hx : x ∈ Pure.cutV l) : x.f0.size ≤ l.length ∧ x.f1.size ≤ l.length := by
  obtain ⟨p, hp, hx⟩ := List.mem_flatMap.1 hx
  have h1 := piecesL_mem _ l p (Nat.lt_succ_self _) hp
  have h2 := declOf_mem p x hx
  omega
theorem flat_len (f : List UInt8 → List S29) (hf : ∀ p, (f p).length ≤ 1) : ∀ l : List (List UInt8), (l.flatMap f).length ≤ l.length
  | [] => by simp
  | p :: l => by
    have := flat_len f hf l
    have := hf p
    rw [List.flatMap_cons, List.length_append, List.length_cons]; omega
theorem cutV_len (l : List UInt8) : (Pure.cutV l).length ≤ l.length + 1 :=
  Nat.le_trans (flat_len _ Pure.declOf_len _) (piecesL_len _ l (Nat.lt_succ_self _))
theorem keepL_len (l : List S29) : (keepL l).length ≤ l.length := List.length_filter_le _ _
theorem lastOf_len : ∀ l : List S29, (lastOf l).length ≤ l.length
  | [] => Nat.le_refl _
  | x :: r => by
    have := lastOf_len r
    rw [lastOf, List.length_append, List.length_cons]
    split <;> simp <;> omega
theorem lastOf_mem (l : List S29) (n : Nat) (h : ∀ x ∈ l, x.f0.size ≤ n ∧ x.f1.size ≤ n) : ∀ t ∈ lastOf l, t.size ≤ 2 * n + 2 := by
  induction l with
  | nil => intro t ht; cases ht
  | cons x r ih =>
    intro t ht
    rw [lastOf] at ht
    rcases List.mem_append.1 ht with ht | ht
    · split at ht
      · cases ht
      · rw [List.mem_singleton.1 ht]
        have := h x (by simp)
        unfold line
        rw [ByteArray.size_append, ByteArray.size_append]
        show x.f0.size + 2 + x.f1.size ≤ _
        omega
    · exact ih (fun y hy => h y (by simp [hy])) t ht
theorem join_one (sep a : List UInt8) : Lib.join [a] sep = a := by simp [Lib.join, List.intercalate]
theorem join_two (sep a b : List UInt8) (r : List (List UInt8)) : Lib.join (a :: b :: r) sep = a ++ sep ++ Lib.join (b :: r) sep := by simp [Lib.join, List.intercalate, List.intersperse]
theorem join_len (sep : List UInt8) : ∀ (l : List (List UInt8)) (n : Nat), (∀ t ∈ l, t.length ≤ n) → (Lib.join l sep).length ≤ l.length * (n + sep.length)
  | [], n, _ => by simp [Lib.join, List.intercalate]
  | [a], n, h => by
    have := h a (by simp)
    rw [join_one]
    simp only [List.length_cons, List.length_nil]
    omega
  | a :: b :: r, n, h => by
    have h1 := h a (by simp)
    have h2 := join_len sep (b :: r) n (fun t ht => h t (by simp [ht]))
    rw [join_two, List.length_append, List.length_append]
    simp only [List.length_cons, Nat.add_mul, Nat.one_mul] at h2 ⊢
    omega
theorem lastOf_step (L : List S29) (i : Nat) (hi : i < L.length) : lastOf (L.drop i) = (if ((L.drop (i + 1)).take (L.length - (i + 1))).any (fun e => e.f0.toList == (L.getD i z29).f0.toList) then [] else [line (L.getD i z29)]) ++ lastOf (L.drop (i + 1)) := by
  rw [List.drop_eq_getElem_cons hi, lastOf, List.take_of_length_le (by rw [List.length_drop]; omega), List.getD_eq_getElem?_getD, List.getElem?_eq_getElem hi]
  rfl
end Go.Proofs.YtollfaphadcnnaaDoor
