/- A tree is the same as itself; a tree's plain text, as the program and the reference tell it; the document's examples. -/
import Derived.Test.YthnbhcmekkadeaaPureRows
import Derived.Test.YthnbhcmekkadeaaPrx5
set_option linter.unusedVariables false
set_option linter.unusedSimpArgs false
namespace Go.Proofs.Ythnbhcmekkadeaa.Pure
open Go Go.RowKit Go.Proofs.Ythnbhcmekkadeaa.Pr Go.Proofs.YthnbhcmekkadeaaW.PrintWords Go.Proofs.YthnbhcmekkadeaaW.PrintLast Plain

/-! ### A tree is the same as itself -/
def Fit : Nat → List S36 → Prop
  | 0, l => l = []
  | d + 1, l => l.length ≤ 1000000 ∧ ∀ x ∈ l, x.f1.length ≤ 1000000 ∧ Fit d x.f3
theorem Fit_nil (d : Nat) : Fit d [] := by cases d <;> simp [Fit]
theorem rd_mem (l : List S36) (i : Nat) (h : i < l.length) : rd_T36 l (i : Int) ∈ l ∧ l.drop i = rd_T36 l (i : Int) :: l.drop (i + 1) := by
  unfold rd_T36
  rw [Int.toNat_natCast, List.getD_eq_getElem?_getD, List.getElem?_eq_getElem h, List.drop_eq_getElem_cons h]
  exact ⟨List.getElem_mem h, rfl⟩
theorem sameAttrs_refl (l : List S51) (h : l.length ≤ 1000000) : Ev (fun k => muslinref13_SameAttrs.f k l l) true := by
  have go : ∀ (d i : Nat), l.length - i = d → i ≤ l.length → Ev (fun k => muslinref13_SameAttrs.l0 k l l (i : Int)) true := by
    intro d
    induction d with
    | zero =>
      intro i hd hi
      refine .succ ?_
      simp only [muslinref13_SameAttrs.l0]
      exact .ifn (by omega) (.pure _)
    | succ d ih =>
      intro i hd hi
      refine .succ ?_
      simp only [muslinref13_SameAttrs.l0]
      refine .ifp (by omega) (.ifp (by omega) (.ifp (by omega) (.ifn (by simp) ?_)))
      have e1 : wrap64 ((i : Int) + 1) = ((i + 1 : Nat) : Int) := by rw [w64 (by omega) (by omega)]; omega
      rw [e1]
      exact ih (i + 1) (by omega) (by omega)
  simp only [muslinref13_SameAttrs.f]
  exact .ifp (by trivial) (go _ 0 rfl (Nat.zero_le _))
theorem same_refl : ∀ (d : Nat) (l : List S36), Fit d l → Ev (fun k => muslinref14_Same.f k l l) true := by
  intro d
  induction d with
  | zero =>
    rintro l rfl
    refine .succ ?_
    simp only [muslinref14_Same.f]
    refine .ifp (by trivial) (.succ ?_)
    simp only [muslinref14_Same.l0]
    exact .ifn (by simp) (.pure _)
  | succ d ih =>
    rintro l ⟨hl, hx⟩
    have go : ∀ (n i : Nat), l.length - i = n → i ≤ l.length → Ev (fun k => muslinref14_Same.l0 k l l (i : Int)) true := by
      intro n
      induction n with
      | zero =>
        intro i hn hi
        refine .succ ?_
        simp only [muslinref14_Same.l0]
        exact .ifn (by omega) (.pure _)
      | succ n ih2 =>
        intro i hn hi
        have hm := (rd_mem l i (by omega)).1
        obtain ⟨h1, h2⟩ := hx _ hm
        refine .succ ?_
        simp only [muslinref14_Same.l0]
        refine .ifp (by omega) (.ifp (by omega) (.ifp (by omega) (.ifp (by trivial) (.ifp (by trivial) (.bind (sameAttrs_refl _ h1) (.ifp (by trivial) (.bind (ih _ h2) (.ifp (by trivial) ?_))))))))
        have e1 : wrap64 ((i : Int) + 1) = ((i + 1 : Nat) : Int) := by rw [w64 (by omega) (by omega)]; omega
        rw [e1]
        exact ih2 (i + 1) (by omega) (by omega)
    refine .succ ?_
    simp only [muslinref14_Same.f]
    exact .ifp (by trivial) (go _ 0 rfl (Nat.zero_le _))
theorem rowsGo_fit (d : Nat) (q : List S44 → List S36) (lv : Int) (hq : ∀ l : List S44, l.length ≤ 100000 → Fit d (q l)) : ∀ (n : Nat) (l : List S44), l.length ≤ n → l.length ≤ 100000 →
    ∀ x ∈ rowsGo q lv l.length l, x.f1.length ≤ 1000000 ∧ Fit d x.f3 := by
  intro n
  induction n with
  | zero =>
    intro l h _ x hx
    obtain rfl : l = [] := List.eq_nil_of_length_eq_zero (by omega)
    simp [rowsGo] at hx
  | succ n ih =>
    intro l h hl x hx
    cases l with
    | nil => simp [rowsGo] at hx
    | cons y r =>
      simp only [List.length_cons] at h hl
      by_cases hy : lv < y.f0
      · have hle : 1 ≤ lead lv (y :: r) := by unfold lead; rw [if_pos hy]; omega
        rw [rowsGo_quote q lv y r hy] at hx
        rcases List.mem_cons.1 hx with rfl | hx
        · exact ⟨by simp [qNode], hq _ (by rw [List.length_take, List.length_cons]; omega)⟩
        · exact ih _ (by rw [List.length_drop, List.length_cons]; omega) (by rw [List.length_drop, List.length_cons]; omega) x hx
      · rw [rowsGo_line q lv y r hy] at hx
        rcases List.mem_append.1 hx with hx | hx
        · rcases List.mem_append.1 hx with hx | hx
          · unfold txts at hx
            split at hx
            · cases hx
            · rw [List.mem_singleton] at hx; subst hx; exact ⟨by simp [tNode], Fit_nil _⟩
          · have : x = bNode := by
              unfold brks at hx
              split at hx
              · cases hx
              · split at hx
                · exact List.mem_singleton.1 hx
                · cases hx
            subst this; exact ⟨by simp [bNode], Fit_nil _⟩
        · exact ih r (by omega) (by omega) x hx
theorem rowsD_fit : ∀ (d : Nat) (lv : Int) (l : List S44), l.length ≤ 100000 → Fit (d + 2) (rowsD d lv l)
  | 0, lv, l, h => by
    rw [rowsD_go]
    refine ⟨?_, rowsGo_fit 1 _ lv (fun _ _ => Fit_nil _) _ l (Nat.le_refl _) h⟩
    have := rowsGo_len (inner 0 lv) lv _ l (Nat.le_refl _); omega
  | d + 1, lv, l, h => by
    rw [rowsD_go]
    refine ⟨?_, rowsGo_fit (d + 2) _ lv (fun l' h' => rowsD_fit d (lv + 1) l' h') _ l (Nat.le_refl _) h⟩
    have := rowsGo_len (inner (d + 1) lv) lv _ l (Nat.le_refl _); omega
theorem treeL_fit (s : List UInt8) (h : s.length ≤ 100000) : Fit 22 (treeL s) := rowsD_fit 20 0 _ (by have := cutL_len s; rw [List.length_map]; omega)

/-! ### A tree's plain text -/
def nl (out : List UInt8) : List UInt8 := if out = [] then [] else if out.getLast? = some 10 then out else out ++ [10]
def quoteL (L : List (List UInt8)) : List UInt8 := L.flatMap fun l => 62 :: 32 :: (l ++ [10])
def stepT (tx : List S36 → List UInt8) (out : List UInt8) (n : S36) : List UInt8 :=
  if n.f0.toList = [] then out ++ n.f2.data.toList
  else if n.f0.toList = [98, 114] then out ++ [10]
  else if n.f0.toList = [98, 108, 111, 99, 107, 113, 117, 111, 116, 101] then nl out ++ quoteL (cutL (tx n.f3))
  else out ++ tx n.f3
def txt : Nat → List S36 → List UInt8
  | 0, _ => []
  | d + 1, l => l.foldl (stepT (txt d)) []
theorem nl_len (out : List UInt8) : out.length ≤ (nl out).length ∧ (nl out).length ≤ out.length + 1 := by
  unfold nl
  split
  · subst_vars; simp
  · split <;> simp
theorem stepT_len (tx : List S36 → List UInt8) (out : List UInt8) (n : S36) : out.length ≤ (stepT tx out n).length := by
  have := nl_len out
  unfold stepT
  split
  · simp
  · split
    · simp
    · split
      · simp; omega
      · simp
theorem fold_len (tx : List S36 → List UInt8) : ∀ (l : List S36) (out : List UInt8), out.length ≤ (l.foldl (stepT tx) out).length
  | [], _ => Nat.le_refl _
  | x :: l, out => Nat.le_trans (stepT_len tx out x) (fold_len tx l _)
/-- A tree of some depth at most whose text is not too long, nor that of any part. -/
def TOk : Nat → List S36 → Prop
  | 0, l => l = []
  | d + 1, l => l.length ≤ 1000000 ∧ (txt (d + 1) l).length ≤ 4000000000 ∧ ∀ x ∈ l, TOk d x.f3
theorem TOk_nil (d : Nat) : TOk d [] := by cases d <;> simp [TOk, txt]
theorem TOk_len : ∀ (d : Nat) (l : List S36), TOk d l → (txt d l).length ≤ 4000000000
  | 0, _, _ => by simp [txt]
  | _ + 1, _, h => h.2.1
theorem suffix_nl (out : List UInt8) (h : out.length ≤ 4611686018427387904) : strings_HasSuffix.f (B out) (B [10]) = some (decide (out.getLast? = some 10)) := by
  unfold strings_HasSuffix.f stringslite_HasSuffix.f
  rcases List.eq_nil_or_concat out with rfl | ⟨a, c, rfl⟩
  · rfl
  · rw [List.concat_eq_append] at h ⊢
    simp only [List.length_append, List.length_singleton] at h
    have e : wrap64 ((((B (a ++ [c])).size : Nat) : Int) - (((B [10]).size : Nat) : Int)) = (a.length : Int) := by
      rw [B_size, B_size, List.length_append, w64 (by simp; try omega) (by simp; try omega)]; simp
    rw [e]
    rw [if_pos (by simp; try omega), if_pos (by omega), if_pos (by simp; try omega)]
    rw [Int.toNat_natCast, B_size, B_from, B_list, B_list]
    simp only [Option.bind_some, List.drop_left, List.getLast?_append, List.getLast?_singleton, Option.some_or]
    congr 1
    rw [Bool.eq_iff_iff]; simp
theorem quoteL_cons (l : List UInt8) (L : List (List UInt8)) : quoteL (l :: L) = 62 :: 32 :: (l ++ [10]) ++ quoteL L := rfl

section
variable (d : Nat) (l : List S36) (hl : l.length ≤ 1000000)
include hl
theorem plainText_l1 (V : ByteArray) (i : Nat) (hi : i < l.length) (L : List (List UInt8)) (hL : L.length ≤ 4000000000) :
    ∀ (e j : Nat) (out : List UInt8), L.length - j = e → j ≤ L.length → out.length + (quoteL (L.drop j)).length ≤ 4000000000 →
    Ev (fun k => plain_Text.l0 k (B (out ++ quoteL (L.drop j))) l (l.length : Int) ((i + 1 : Nat) : Int)) V →
    Ev (fun k => plain_Text.l1 k (B out) l (l.length : Int) (i : Int) (Pr.bytesOf L) (L.length : Int) (j : Int)) V := by
  intro e
  induction e with
  | zero =>
    intro j out hj hjl ho hV
    refine .succ ?_
    simp only [plain_Text.l1]
    rw [show wrap64 ((i : Int) + 1) = ((i + 1 : Nat) : Int) from by rw [w64 (by omega) (by omega)]; omega]
    refine .ifn (by omega) ?_
    rw [List.drop_eq_nil_of_le (by omega)] at hV
    simpa [quoteL] using hV
  | succ e ih =>
    intro j out hj hjl ho hV
    have hdr := dropL L j (by omega)
    rw [hdr, quoteL_cons] at ho hV
    simp only [List.length_append, List.length_cons] at ho
    refine .succ ?_
    simp only [plain_Text.l1]
    refine .ifp (by omega) (.ifp (by omega) (.ifp (by rw [bytesOf_len]; omega) ?_))
    rw [rd_bytes L j (by omega)]
    generalize L.getD j [] = y at *
    have ea : ((⟨#[62, 32]⟩ : ByteArray) ++ B (y)) = B (62 :: 32 :: y) := by rw [lit [62, 32], B_append]; rfl
    have eb : (B (62 :: 32 :: y) ++ (⟨#[10]⟩ : ByteArray)) = B (62 :: 32 :: (y ++ [10])) := by rw [lit [10], B_append]; rfl
    rw [ea, eb, B_append, show wrap64 ((j : Int) + 1) = ((j + 1 : Nat) : Int) from by rw [w64 (by omega) (by omega)]; omega]
    clear ea eb
    refine .ifp (by simp; omega) (.ifp (by simp; omega) (.ifp (by simp; omega) ?_))
    refine ih (j + 1) _ (by omega) (by omega) (by simp; omega) ?_
    rw [List.append_assoc]
    exact hV
theorem plainText_l0 (hk : ∀ x ∈ l, Ev (fun k => plain_Text.f k x.f3) (B (txt d x.f3)) ∧ (txt d x.f3).length ≤ 4000000000) :
    ∀ (e i : Nat) (out : List UInt8), l.length - i = e → i ≤ l.length → ((l.drop i).foldl (stepT (txt d)) out).length ≤ 4000000000 →
    Ev (fun k => plain_Text.l0 k (B out) l (l.length : Int) (i : Int)) (B ((l.drop i).foldl (stepT (txt d)) out)) := by
  intro e
  induction e with
  | zero =>
    intro i out he hi ho
    refine .succ ?_
    simp only [plain_Text.l0]
    refine .ifn (by omega) (.of ?_)
    rw [List.drop_eq_nil_of_le (by omega)]; rfl
  | succ e ih =>
    intro i out he hi ho
    obtain ⟨hm, hdr⟩ := rd_mem l i (by omega)
    obtain ⟨hkx, hkl⟩ := hk _ hm
    rw [hdr, List.foldl_cons] at ho ⊢
    have hnext := ih (i + 1) (stepT (txt d) out (rd_T36 l (i : Int))) (by omega) (by omega) ho
    have hsz := Nat.le_trans (fold_len (txt d) (l.drop (i + 1)) (stepT (txt d) out (rd_T36 l (i : Int)))) ho
    clear ih ho
    generalize (l.drop (i + 1)).foldl (stepT (txt d)) (stepT (txt d) out (rd_T36 l (i : Int))) = R at *
    refine .succ ?_
    simp only [plain_Text.l0]
    refine .ifp (by omega) (.ifp (by omega) (.ifp (by omega) ?_))
    rw [show wrap64 ((i : Int) + 1) = ((i + 1 : Nat) : Int) from by rw [w64 (by omega) (by omega)]; omega]
    generalize hx : rd_T36 l (i : Int) = x at *
    unfold stepT at hnext hsz
    by_cases h0 : x.f0.toList = []
    · rw [if_pos h0] at hnext hsz
      simp only [List.length_append] at hsz
      have e2 : B out ++ x.f2 = B (out ++ x.f2.data.toList) := by conv => lhs; rw [B_of x.f2, B_append]
      refine .ifp h0 (.ifp (by rw [B_size, Lib.size_eq]; omega) ?_)
      rw [e2]; exact hnext
    · rw [if_neg h0] at hnext hsz
      refine .ifn h0 ?_
      by_cases h1 : x.f0.toList = [98, 114]
      · rw [if_pos h1] at hnext hsz
        simp only [List.length_append, List.length_singleton] at hsz
        refine .ifp h1 (.ifp (by simp; omega) ?_)
        rw [lit [10], B_append]; exact hnext
      · rw [if_neg h1] at hnext hsz
        refine .ifn h1 ?_
        by_cases h2 : x.f0.toList = [98, 108, 111, 99, 107, 113, 117, 111, 116, 101]
        · rw [if_pos h2] at hnext hsz
          refine .ifp h2 ?_
          simp only [List.length_append] at hsz
          have hnl := nl_len out
          have hc := cutL_len (txt d x.f3)
          have hj2 : Ev (fun k => plain_Text.j2 k (B (nl out)) l (l.length : Int) (i : Int) x.f0 x.f1 x.f2 x.f3) (B R) := by
            refine .succ ?_
            simp only [plain_Text.j2]
            refine .bind hkx (.bindc (linesCut _ (by omega)) ?_)
            rw [bytesOf_len]
            exact plainText_l1 l hl (B R) i (by omega) (cutL (txt d x.f3)) (by omega) _ 0 (nl out) rfl (Nat.zero_le _) (by simpa using hsz) (by simpa using hnext)
          by_cases h3 : out = []
          · subst h3
            refine .ifp (by simp) (.succ ?_)
            simp only [plain_Text.j1]
            exact .ifn (by simp) hj2
          · refine .ifn (by simpa using h3) (.bindc (suffix_nl out (by omega)) (.succ ?_))
            simp only [plain_Text.j1]
            by_cases h4 : out.getLast? = some 10
            · have hn : nl out = out := by unfold nl; rw [if_neg h3, if_pos h4]
              rw [hn] at hj2
              exact .ifn (by simp [h4]) hj2
            · have hn : nl out = out ++ [10] := by unfold nl; rw [if_neg h3, if_neg h4]
              refine .ifp (by simp [h4]) (.ifp (by simp; omega) ?_)
              rw [hn] at hj2
              rw [lit [10], B_append]; exact hj2
        · rw [if_neg h2] at hnext hsz
          simp only [List.length_append] at hsz
          refine .ifn h2 (.bind hkx (.ifp (by simp; omega) ?_))
          rw [B_append]; exact hnext
end
theorem plainText : ∀ (d : Nat) (l : List S36), TOk d l → Ev (fun k => plain_Text.f k l) (B (txt d l))
  | 0, l, h => by
    obtain rfl : l = [] := h
    refine .succ ?_
    simp only [plain_Text.f]
    refine .succ ?_
    simp only [plain_Text.l0]
    exact .ifn (by simp) (.of rfl)
  | d + 1, l, h => by
    obtain ⟨h1, h2, h3⟩ := h
    refine .succ ?_
    simp only [plain_Text.f]
    exact plainText_l0 d l h1 (fun x hx => ⟨plainText d x.f3 (h3 x hx), TOk_len d x.f3 (h3 x hx)⟩) _ 0 [] rfl (Nat.zero_le _) h2
end Go.Proofs.Ythnbhcmekkadeaa.Pure
