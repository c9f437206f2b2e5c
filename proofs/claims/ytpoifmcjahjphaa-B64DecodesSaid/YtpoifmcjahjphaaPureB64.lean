/- What Wrap comes to, and the document's examples of chapter 1. -/
import Derived.Test.YtpoifmcjahjphaaPrx1
import Derived.Test.YtpoifmcjahjphaaPureBase
set_option linter.unusedVariables false
set_option linter.unusedSimpArgs false
namespace Go.Proofs.Ytpoifmcjahjphaa.Pure
open Go Go.RowKit Go.Proofs.Ytpoifmcjahjphaa.Pr Go.Proofs.YtpoifmcjahjphaaW.PrintWords Go.Proofs.YtpoifmcjahjphaaW.PrintLast

theorem enc_f (l : List UInt8) (h : l.length ≤ 1000000) : b64_Encode.f (B l) = some (B (encB l)) := by
  unfold b64_Encode.f; rw [if_pos (by rw [B_size]; exact h)]; rfl
theorem dec_f (l : List UInt8) (h : l.length ≤ 1000000) : b64_Decode.f (B l) = some (B (decB l)) := by
  unfold b64_Decode.f; rw [if_pos (by rw [B_size]; exact h)]; rfl
theorem short_f (l : List UInt8) : muslinlaw01_short.f (B l) = some (decide (l.length ≤ 5000)) := by
  unfold muslinlaw01_short.f
  congr 1
  rw [B_size, decide_eq_decide]; omega
theorem live_10 : muslinlaw01_live.f 10 = some true := by decide +kernel
theorem live_ev : Ev (fun k => muslinlaw01_live.f k) true := ⟨10, fun k hk => at_rounds (fun k => muslinlaw01_live.mono k) hk live_10⟩

def pre (xs : List (List UInt8)) : List UInt8 := (xs.map (· ++ [13, 10])).flatten
theorem pre_snoc (xs : List (List UInt8)) (x : List UInt8) : pre (xs ++ [x]) = pre xs ++ x ++ [13, 10] := by simp [pre]
theorem join_pre : ∀ (xs : List (List UInt8)) (t : List UInt8), Lib.join (xs ++ [t]) [13, 10] = pre xs ++ t
  | [], t => by rw [List.nil_append, Lib.join_one]; rfl
  | x :: xs, t => by
    have ih := join_pre xs t
    rw [List.cons_append, Lib.join_cons]
    have e : ∀ l : List (List UInt8), l ≠ [] → Lib.joinTail [13, 10] l = [13, 10] ++ Lib.join l [13, 10]
      | [], h => absurd rfl h
      | y :: r, _ => by rw [Lib.join_cons]; simp [Lib.joinTail]
    rw [e _ (by simp), ih]
    simp [pre]
theorem wrap_l0 (m : Nat) (hm : 1 ≤ m) (hm2 : m ≤ 9223372036854775807) : ∀ (f : Nat) (t : List UInt8) (xs : List (List UInt8)), t.length ≤ f → t.length + xs.length ≤ 100000 → (pre xs).length + 3 * t.length ≤ 300000 →
    Ev (fun k => b64_Wrap.l0 k (m : Int) (B t) (xs.map B)) (B (pre xs ++ wrapL m f t)) := by
  intro f
  induction f with
  | zero =>
    intro t xs h1 h2 h3
    refine Ev.succ ?_
    simp only [b64_Wrap.l0]
    refine Ev.ifn (by rw [B_size]; omega) (Ev.ifp (by rw [List.length_map]; omega) (Ev.bindc ?_ (Ev.pure _)))
    unfold strings_Join.f
    have e : ((xs.map B ++ [B t]).map fun x => x.data.toList) = xs ++ [t] := by simp [Function.comp_def]
    rw [e, show (⟨#[13, 10]⟩ : ByteArray).data.toList = [13, 10] from rfl, join_pre, if_pos ⟨by simp; omega, by rw [List.length_append]; omega⟩]
    rfl
  | succ f ih =>
    intro t xs h1 h2 h3
    refine Ev.succ ?_
    simp only [b64_Wrap.l0]
    by_cases hlt : m < t.length
    · have e : wrapL m (f + 1) t = t.take m ++ 13 :: 10 :: wrapL m f (t.drop m) := by show (if _ then _ else _) = _; rw [if_pos hlt]
      refine Ev.ifp (by rw [B_size]; omega) (Ev.ifp (by omega) (Ev.ifp (by rw [B_size]; omega) (Ev.ifp (by rw [List.length_map]; omega) ?_)))
      rw [Int.toNat_natCast, B_size, B_from, B_upto, show xs.map B ++ [B (t.take m)] = (xs ++ [t.take m]).map B from by simp, e]
      have ht : (t.take m).length = m := by rw [List.length_take]; omega
      have h := ih (t.drop m) (xs ++ [t.take m]) (by rw [List.length_drop]; omega) (by simp only [List.length_drop, List.length_append, List.length_singleton]; omega) (by rw [pre_snoc]; simp only [List.length_append, ht, List.length_drop, List.length_cons, List.length_nil]; omega)
      rw [pre_snoc] at h
      refine h.cast ?_
      simp
    · have e : wrapL m (f + 1) t = t := by show (if _ then _ else _) = _; rw [if_neg hlt]
      rw [e]
      refine Ev.ifn (by rw [B_size]; omega) (Ev.ifp (by rw [List.length_map]; omega) (Ev.bindc ?_ (Ev.pure _)))
      unfold strings_Join.f
      have e : ((xs.map B ++ [B t]).map fun x => x.data.toList) = xs ++ [t] := by simp [Function.comp_def]
      rw [e, show (⟨#[13, 10]⟩ : ByteArray).data.toList = [13, 10] from rfl, join_pre, if_pos ⟨by simp; omega, by rw [List.length_append]; omega⟩]
      rfl
def wid (w : Int) : Nat := (mx w 1).toNat
theorem wid_pos (w : Int) : 1 ≤ wid w ∧ ((wid w : Nat) : Int) = mx w 1 := by unfold wid mx; split <;> omega
theorem wrap_ev (l : List UInt8) (w : Int) (hl : l.length ≤ 6000) (hw : w ≤ 9223372036854775807) : Ev (fun k => b64_Wrap.f k (B l) w) (B (wrapL (wid w) 10000 (encB l))) := by
  unfold b64_Wrap.f
  refine Ev.bindc (enc_f l (by omega)) ?_
  obtain ⟨h1, h2⟩ := wid_pos w
  have h3 := encB_len l
  have h := wrap_l0 (wid w) h1 (by unfold wid mx; split <;> omega) 10000 (encB l) [] (by omega) (by simp; omega) (by simp [pre]; omega)
  rw [h2] at h
  exact h
theorem wrapL_len (m : Nat) (hm : 1 ≤ m) : ∀ (f : Nat) (t : List UInt8), (wrapL m f t).length ≤ 3 * t.length
  | 0, t => by show t.length ≤ _; omega
  | f + 1, t => by
    unfold wrapL
    split
    · have := wrapL_len m hm f (t.drop m)
      simp only [List.length_append, List.length_take, List.length_cons, List.length_drop] at *
      omega
    · omega
theorem wf_i64 {n : Int} (h : (Lit.int .i64 n).wf = true) : -9223372036854775808 ≤ n ∧ n ≤ 9223372036854775807 := by
  simpa [Lit.wf, IntKind.min, IntKind.signed, IntKind.bits] using h
end Go.Proofs.Ytpoifmcjahjphaa.Pure
