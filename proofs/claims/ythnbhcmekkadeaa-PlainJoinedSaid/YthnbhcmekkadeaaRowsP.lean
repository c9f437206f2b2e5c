/- The nodes of lines at a level, over lists, with no program in sight. -/
import Derived.Test.YthnbhcmekkadeaaPrx0
set_option linter.unusedVariables false
set_option linter.unusedSimpArgs false
namespace Go.Proofs.Ythnbhcmekkadeaa.Plain
open Go Go.Proofs.Ythnbhcmekkadeaa.Pr

/-- How many lines at the front are quoted deeper than a level. -/
def lead (lv : Int) : List S44 → Nat
  | [] => 0
  | x :: r => if lv < x.f0 then lead lv r + 1 else 0
theorem lead_le (lv : Int) : ∀ l, lead lv l ≤ l.length
  | [] => Nat.le_refl _
  | x :: r => by
    unfold lead
    have := lead_le lv r
    split <;> simp <;> omega
def qNode (kids : List S36) : S36 := ⟨⟨#[98, 108, 111, 99, 107, 113, 117, 111, 116, 101]⟩, [], ⟨#[]⟩, kids⟩
def tNode (s : ByteArray) : S36 := ⟨⟨#[]⟩, [], s, []⟩
def bNode : S36 := ⟨⟨#[98, 114]⟩, [], ⟨#[]⟩, []⟩
def brks (lv : Int) : List S44 → List S36
  | [] => []
  | y :: _ => if y.f0 ≤ lv then [bNode] else []
def txts (s : ByteArray) : List S36 := if s.size = 0 then [] else [tNode s]
def rowsGo (q : List S44 → List S36) (lv : Int) : Nat → List S44 → List S36
  | 0, _ => []
  | _ + 1, [] => []
  | n + 1, x :: r => if lv < x.f0 then qNode (q ((x :: r).take (lead lv (x :: r)))) :: rowsGo q lv n ((x :: r).drop (lead lv (x :: r)))
      else txts x.f1 ++ brks lv r ++ rowsGo q lv n r
theorem rowsGo_fuel (q : List S44 → List S36) (lv : Int) : ∀ (n : Nat) (l : List S44), l.length ≤ n → rowsGo q lv n l = rowsGo q lv l.length l := by
  intro n
  induction n using Nat.strongRecOn with
  | _ n ih =>
  intro l h
  cases l with
  | nil => cases n <;> rfl
  | cons x r =>
    cases n with
    | zero => simp at h
    | succ n =>
      simp only [List.length_cons] at h
      show rowsGo q lv (n + 1) (x :: r) = rowsGo q lv (r.length + 1) (x :: r)
      unfold rowsGo
      by_cases hx : lv < x.f0
      · rw [if_pos hx, if_pos hx]
        have hl : 1 ≤ lead lv (x :: r) := by unfold lead; rw [if_pos hx]; omega
        have hd : ((x :: r).drop (lead lv (x :: r))).length ≤ r.length := by simp only [List.length_drop, List.length_cons]; omega
        rw [ih n (by omega) _ (by omega)]
        by_cases e : r.length = n
        · rw [e, ih n (by omega) _ (by omega)]
        · rw [ih r.length (by omega) _ hd]
      · rw [if_neg hx, if_neg hx, ih n (by omega) _ (by omega)]
def rowsD : Nat → Int → List S44 → List S36
  | 0, lv, l => rowsGo (fun _ => []) lv l.length l
  | d + 1, lv, l => rowsGo (rowsD d (lv + 1)) lv l.length l
/-- The lines inside a quote. -/
def inner : Nat → Int → List S44 → List S36
  | 0, _ => fun _ => []
  | d + 1, lv => rowsD d (lv + 1)
theorem rowsD_go (d : Nat) (lv : Int) (l : List S44) : rowsD d lv l = rowsGo (inner d lv) lv l.length l := by cases d <;> rfl
theorem rowsGo_nil (q : List S44 → List S36) (lv : Int) : rowsGo q lv 0 [] = [] := rfl
theorem rowsGo_quote (q : List S44 → List S36) (lv : Int) (x : S44) (r : List S44) (h : lv < x.f0) :
    rowsGo q lv (x :: r).length (x :: r) = qNode (q ((x :: r).take (lead lv (x :: r)))) :: rowsGo q lv ((x :: r).drop (lead lv (x :: r))).length ((x :: r).drop (lead lv (x :: r))) := by
  have hl : 1 ≤ lead lv (x :: r) := by unfold lead; rw [if_pos h]; omega
  show rowsGo q lv (r.length + 1) (x :: r) = _
  rw [rowsGo, if_pos h, rowsGo_fuel q lv r.length _ (by simp only [List.length_drop, List.length_cons]; omega)]
theorem rowsGo_line (q : List S44 → List S36) (lv : Int) (x : S44) (r : List S44) (h : ¬ lv < x.f0) :
    rowsGo q lv (x :: r).length (x :: r) = txts x.f1 ++ brks lv r ++ rowsGo q lv r.length r := by
  show rowsGo q lv (r.length + 1) (x :: r) = _
  rw [rowsGo, if_neg h]
theorem rowsGo_len (q : List S44 → List S36) (lv : Int) : ∀ (n : Nat) (l : List S44), l.length ≤ n → (rowsGo q lv l.length l).length ≤ 2 * l.length := by
  intro n
  induction n with
  | zero =>
    intro l h
    obtain rfl : l = [] := List.eq_nil_of_length_eq_zero (by omega)
    simp [rowsGo]
  | succ n ih =>
    intro l h
    cases l with
    | nil => simp [rowsGo]
    | cons x r =>
      simp only [List.length_cons] at h
      by_cases hx : lv < x.f0
      · have hl : 1 ≤ lead lv (x :: r) := by unfold lead; rw [if_pos hx]; omega
        have hd : ((x :: r).drop (lead lv (x :: r))).length ≤ r.length := by simp only [List.length_drop, List.length_cons]; omega
        have := ih _ (show ((x :: r).drop (lead lv (x :: r))).length ≤ n by omega)
        rw [rowsGo_quote q lv x r hx]
        simp only [List.length_cons]
        omega
      · have := ih r (by omega)
        rw [rowsGo_line q lv x r hx]
        have h1 : (txts x.f1).length ≤ 1 := by unfold txts; split <;> simp
        have h2 : (brks lv r).length ≤ 1 := by unfold brks; split <;> (try split) <;> simp
        simp only [List.length_append, List.length_cons]
        omega
end Go.Proofs.Ythnbhcmekkadeaa.Plain
