/- The document's examples of chapter 20, for the statements' live(). -/
import Derived.Test.YthnbhcmekkadeaaPureText
set_option linter.unusedVariables false
set_option linter.unusedSimpArgs false
namespace Go.Proofs.Ythnbhcmekkadeaa.Pure
open Go Go.RowKit Go.Proofs.Ythnbhcmekkadeaa.Pr Go.Proofs.YthnbhcmekkadeaaW.PrintWords Go.Proofs.YthnbhcmekkadeaaW.PrintLast Plain

def cutF : Nat → List UInt8 → List (List UInt8)
  | 0, _ => []
  | _ + 1, [] => []
  | n + 1, c :: r => (if (brk1 10 (c :: r)).2.2 then chop (brk1 10 (c :: r)).1 else (brk1 10 (c :: r)).1) :: cutF n (brk1 10 (c :: r)).2.1
theorem cutF_eq : ∀ (n : Nat) (l : List UInt8), l.length ≤ n → cutL l = cutF n l := by
  intro n
  induction n with
  | zero =>
    intro l h
    obtain rfl : l = [] := List.eq_nil_of_length_eq_zero (by omega)
    rw [cutL_nil]; rfl
  | succ n ih =>
    intro l h
    cases l with
    | nil => rw [cutL_nil]; rfl
    | cons c r =>
      have hl := (lineOf_len (c :: r)).2.2 (by simp)
      rw [lineOf_brk] at hl
      rw [cutL_cons (by simp), ih _ (by simp only at hl; omega)]
      rfl
def sample : List UInt8 := [97, 10, 10, 62, 32, 98, 10, 62, 62, 32, 99, 10, 100, 13, 10, 101]
def want : List S36 := [tNode (B [97]), bNode, qNode [tNode (B [98]), qNode [tNode (B [99])]], tNode (B [100]), bNode, tNode (B [101])]
theorem tree_sample : treeL sample = want := by
  unfold treeL
  rw [cutF_eq 16 sample (by decide)]
  have e : (cutF 16 sample).map mkRow = [⟨0, B [97]⟩, ⟨0, B []⟩, ⟨1, B [98]⟩, ⟨2, B [99]⟩, ⟨0, B [100]⟩, ⟨0, B [101]⟩] := by rfl
  rw [e]
  rfl
theorem want_fit : Fit 22 want := tree_sample ▸ treeL_fit sample (by decide)
theorem txt_c : txt 1 [tNode (B [99])] = [99] := by simp [txt, stepT, tNode, Lib.toList_data]
theorem txt_b : txt 2 [tNode (B [98]), qNode [tNode (B [99])]] = [98, 10, 62, 32, 99, 10] := by
  show stepT (txt 1) (stepT (txt 1) [] (tNode (B [98]))) (qNode [tNode (B [99])]) = _
  unfold stepT
  simp only [tNode, qNode, Lib.toList_data]
  rw [show txt 1 [({ f0 := { data := #[] }, f1 := [], f2 := B [99], f3 := [] } : S36)] = [99] from txt_c, cutF_eq 1 [99] (by decide)]
  rfl
theorem txt_want : txt 3 want = [97, 10, 62, 32, 98, 10, 62, 32, 62, 32, 99, 10, 100, 10, 101] := by
  show stepT (txt 2) (stepT (txt 2) (stepT (txt 2) (stepT (txt 2) (stepT (txt 2) (stepT (txt 2) [] (tNode (B [97]))) bNode) (qNode [tNode (B [98]), qNode [tNode (B [99])]])) (tNode (B [100]))) bNode) (tNode (B [101])) = _
  have h := txt_b
  unfold stepT
  simp only [tNode, qNode, bNode, Lib.toList_data] at h ⊢
  rw [h, cutF_eq 6 [98, 10, 62, 32, 99, 10] (by decide)]
  rfl
theorem want_ok : TOk 3 want := by
  refine ⟨by decide, by rw [txt_want]; decide, ?_⟩
  intro x hx
  simp only [want, List.mem_cons, List.not_mem_nil, or_false] at hx
  rcases hx with rfl | rfl | rfl | rfl | rfl | rfl
  all_goals first | exact TOk_nil 2 | skip
  refine ⟨by decide, by show (txt 2 [tNode (B [98]), qNode [tNode (B [99])]]).length ≤ _; rw [txt_b]; decide, ?_⟩
  intro y hy
  simp only [qNode, List.mem_cons, List.not_mem_nil, or_false] at hy
  rcases hy with rfl | rfl
  · exact TOk_nil 1
  · refine ⟨by decide, by show (txt 1 [tNode (B [99])]).length ≤ _; rw [txt_c]; decide, ?_⟩
    intro z hz
    obtain rfl := List.mem_singleton.1 hz
    exact TOk_nil 0
theorem live : Ev (fun k => muslinlaw20_live.f k) true := by
  simp only [muslinlaw20_live.f]
  have h1 := plainTree sample (by decide)
  rw [tree_sample] at h1
  refine .bind h1 (.bind (plainLevel [62, 32, 62, 32, 32, 120]) (.bind (same_refl 22 want want_fit) (.ifp (by trivial) (.ifp (by decide) (.ifp (by rw [B_list]; decide) (.bind (plainText 3 want want_ok) (.of ?_)))))))
  rw [txt_want, B_list]; rfl
theorem liveb : Ev (fun k => (muslinlaw20_live.f k).bind fun t => some t) true := .bind live (.pure _)
end Go.Proofs.Ythnbhcmekkadeaa.Pure
