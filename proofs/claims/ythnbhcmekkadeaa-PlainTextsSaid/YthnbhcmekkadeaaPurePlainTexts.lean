/- PlainTexts: the plain law. -/
import Derived.Test.YthnbhcmekkadeaaPureLive
import Derived.Test.YthnbhcmekkadeaaPureRefCut
import Derived.Test.YthnbhcmekkadeaaPrx9
set_option linter.unusedVariables false
set_option linter.unusedSimpArgs false
namespace Go.Proofs.Ythnbhcmekkadeaa.Pure
open Go Go.RowKit Go.Proofs.Ythnbhcmekkadeaa.Pr Go.Proofs.YthnbhcmekkadeaaW.PrintWords Go.Proofs.YthnbhcmekkadeaaW.PrintLast Plain

/-! ### The reference's text of a tree -/
section
variable (d : Nat) (l : List S36) (hl : l.length ≤ 1000000)
include hl
theorem refText_l1 (V : ByteArray) (i : Nat) (hi : i < l.length) (L : List (List UInt8)) (hL : L.length ≤ 4000000000) :
    ∀ (e j : Nat) (out : List UInt8), L.length - j = e → j ≤ L.length → out.length + (quoteL (L.drop j)).length ≤ 4000000000 →
    Ev (fun k => muslinref20_Text.l0 k l (B (out ++ quoteL (L.drop j))) ((i + 1 : Nat) : Int)) V →
    Ev (fun k => muslinref20_Text.l1 k l (B out) (i : Int) (Pr.bytesOf L) (j : Int)) V := by
  intro e
  induction e with
  | zero =>
    intro j out hj hjl ho hV
    refine .succ ?_
    simp only [muslinref20_Text.l1]
    rw [show wrap64 ((i : Int) + 1) = ((i + 1 : Nat) : Int) from by rw [w64 (by omega) (by omega)]; omega]
    refine .ifn (by rw [bytesOf_len]; omega) ?_
    rw [List.drop_eq_nil_of_le (by omega)] at hV
    simpa [quoteL] using hV
  | succ e ih =>
    intro j out hj hjl ho hV
    have hdr := dropL L j (by omega)
    rw [hdr, quoteL_cons] at ho hV
    simp only [List.length_append, List.length_cons] at ho
    refine .succ ?_
    simp only [muslinref20_Text.l1]
    rw [rd_bytes L j (by omega), lit [62, 32], lit [10], B_append, B_append, B_append, show wrap64 ((j : Int) + 1) = ((j + 1 : Nat) : Int) from by rw [w64 (by omega) (by omega)]; omega]
    generalize L.getD j [] = y at *
    refine .ifp (by rw [bytesOf_len]; omega) (.ifp (by rw [B_size]; omega) (.ifp (by omega) (.ifp (by rw [B_size, B_size, List.length_append]; simp; omega) (.ifp (by rw [B_size, List.length_append, List.length_append]; simp; omega) ?_))))
    have e3 : out ++ [62, 32] ++ y ++ [10] = out ++ (62 :: 32 :: (y ++ [10])) := by simp
    rw [e3]
    refine ih (j + 1) _ (by omega) (by omega) (by simp; omega) ?_
    rw [List.append_assoc]
    exact hV
theorem refText_l0 (hk : ∀ x ∈ l, Ev (fun k => muslinref20_Text.f k x.f3) (B (txt d x.f3)) ∧ (txt d x.f3).length ≤ 4000000000) :
    ∀ (e i : Nat) (out : List UInt8), l.length - i = e → i ≤ l.length → ((l.drop i).foldl (stepT (txt d)) out).length ≤ 4000000000 →
    Ev (fun k => muslinref20_Text.l0 k l (B out) (i : Int)) (B ((l.drop i).foldl (stepT (txt d)) out)) := by
  intro e
  induction e with
  | zero =>
    intro i out he hi ho
    refine .succ ?_
    simp only [muslinref20_Text.l0]
    refine .ifn (by omega) (.of ?_)
    rw [List.drop_eq_nil_of_le (by omega)]; rfl
  | succ e ih =>
    intro i out he hi ho
    obtain ⟨hm, hdr⟩ := rd_mem l i (by omega)
    obtain ⟨hkx, hkl⟩ := hk _ hm
    rw [hdr, List.foldl_cons] at ho ⊢
    have hnext := ih (i + 1) (stepT (txt d) out (rd_T36 l (i : Int))) (by omega) (by omega) ho
    have hsz := Nat.le_trans (fold_len (txt d) (l.drop (i + 1)) (stepT (txt d) out (rd_T36 l (i : Int)))) ho
    clear ih ho
    generalize (l.drop (i + 1)).foldl (stepT (txt d)) (stepT (txt d) out (rd_T36 l (i : Int))) = R at *
    refine .succ ?_
    simp only [muslinref20_Text.l0]
    refine .ifp (by omega) (.ifp (by omega) ?_)
    rw [show wrap64 ((i : Int) + 1) = ((i + 1 : Nat) : Int) from by rw [w64 (by omega) (by omega)]; omega]
    generalize hx : rd_T36 l (i : Int) = x at *
    unfold stepT at hnext hsz
    by_cases h0 : x.f0.toList = []
    · rw [if_pos h0] at hnext hsz
      simp only [List.length_append] at hsz
      have e2 : B out ++ x.f2 = B (out ++ x.f2.data.toList) := by conv => lhs; rw [B_of x.f2, B_append]
      refine .ifp h0 (.ifp (by rw [B_size, Lib.size_eq]; omega) ?_)
      rw [e2]; exact hnext
    · rw [if_neg h0] at hnext hsz
      refine .ifn h0 ?_
      by_cases h1 : x.f0.toList = [98, 114]
      · rw [if_pos h1] at hnext hsz
        simp only [List.length_append, List.length_singleton] at hsz
        refine .ifp h1 (.ifp (by simp; omega) ?_)
        rw [lit [10], B_append]; exact hnext
      · rw [if_neg h1] at hnext hsz
        refine .ifn h1 ?_
        by_cases h2 : x.f0.toList = [98, 108, 111, 99, 107, 113, 117, 111, 116, 101]
        · rw [if_pos h2] at hnext hsz
          refine .ifp h2 ?_
          simp only [List.length_append] at hsz
          have hnl := nl_len out
          have hc := cutL_len (txt d x.f3)
          have hj2 : Ev (fun k => muslinref20_Text.j2 k l (B (nl out)) (i : Int)) (B R) := by
            refine .succ ?_
            simp only [muslinref20_Text.j2]
            rw [hx]
            refine .ifp (by omega) (.ifp (by omega) (.bind hkx (.bind (refCut _ (by omega)) ?_)))
            exact refText_l1 l hl (B R) i (by omega) (cutL (txt d x.f3)) (by omega) _ 0 (nl out) rfl (Nat.zero_le _) (by simpa using hsz) (by simpa using hnext)
          by_cases h3 : out = []
          · subst h3
            refine .ifp (by simp) (.succ ?_)
            simp only [muslinref20_Text.j1]
            exact .ifn (by simp) hj2
          · have hlp : 0 < out.length := List.length_pos_iff.2 h3
            rw [show wrap64 (((B out).size : Int) - 1) = ((out.length - 1 : Nat) : Int) from by rw [B_size, w64 (by omega) (by omega)]; omega]
            refine .ifn (by simpa using h3) (.ifp (by omega) (.ifp (by rw [B_size]; omega) (.succ ?_)))
            simp only [muslinref20_Text.j1]
            rw [B_bt]
            by_cases h4 : out.getD (out.length - 1) 0 = 10
            · have h5 : out.getLast? = some 10 := by
                rw [List.getLast?_eq_getElem?]
                rw [List.getD_eq_getElem?_getD, List.getElem?_eq_getElem (by omega)] at h4
                rw [List.getElem?_eq_getElem (by omega)]
                exact congrArg some h4
              have hn : nl out = out := by unfold nl; rw [if_neg h3, if_pos h5]
              rw [hn] at hj2
              exact .ifn (by rw [h4]; decide) hj2
            · have h5 : ¬ out.getLast? = some 10 := by
                rw [List.getLast?_eq_getElem?]
                rw [List.getD_eq_getElem?_getD, List.getElem?_eq_getElem (by omega)] at h4
                rw [List.getElem?_eq_getElem (by omega)]
                exact fun hh => h4 (Option.some.inj hh)
              have hn : nl out = out ++ [10] := by unfold nl; rw [if_neg h3, if_neg h5]
              refine .ifp (by rw [bne_iff_ne]; exact fun hh => h4 ((u8_int _ 10).1 hh)) (.ifp (by simp; omega) ?_)
              rw [hn] at hj2
              rw [lit [10], B_append]; exact hj2
        · rw [if_neg h2] at hnext hsz
          simp only [List.length_append] at hsz
          refine .ifn h2 (.bind hkx (.ifp (by simp; omega) ?_))
          rw [B_append]; exact hnext
end
theorem refText : ∀ (d : Nat) (l : List S36), TOk d l → Ev (fun k => muslinref20_Text.f k l) (B (txt d l))
  | 0, l, h => by
    obtain rfl : l = [] := h
    refine .succ ?_
    simp only [muslinref20_Text.f]
    refine .succ ?_
    simp only [muslinref20_Text.l0]
    exact .ifn (by simp) (.of rfl)
  | d + 1, l, h => by
    obtain ⟨h1, h2, h3⟩ := h
    refine .succ ?_
    simp only [muslinref20_Text.f]
    exact refText_l0 d l h1 (fun x hx => ⟨refText d x.f3 (h3 x hx), TOk_len d x.f3 (h3 x hx)⟩) _ 0 [] rfl (Nat.zero_le _) h2

/-! ### How many nodes there are -/
def bigA (l : List S51) : Bool := l.any fun a => decide (a.f0.size > 300) || decide (a.f1.size > 300)
def bigN (x : S36) : Bool := decide (x.f0.size > 300) || decide (x.f2.size > 300) || decide (x.f1.length > 40) || bigA x.f1
def wkLoop (q : List S36 → Nat) : Nat → List S36 → Nat
  | n, [] => n
  | n, x :: r => if n > 60 then n else if bigN x then 61 else wkLoop q (n + 1 + q x.f3) r
def wk : Nat → List S36 → Nat
  | 0, l => if l = [] then 0 else 61
  | d + 1, l => if l = [] then 0 else if l.length > 60 then 61 else wkLoop (wk d) 0 l
theorem wk_succ (d : Nat) (l : List S36) : wk (d + 1) l = if l = [] then 0 else if l.length > 60 then 61 else wkLoop (wk d) 0 l := rfl
theorem wkLoop_nil (q : List S36 → Nat) (n : Nat) : wkLoop q n [] = n := rfl
theorem wkLoop_cons (q : List S36 → Nat) (n : Nat) (x : S36) (r : List S36) : wkLoop q n (x :: r) = if n > 60 then n else if bigN x then 61 else wkLoop q (n + 1 + q x.f3) r := rfl
theorem wkLoop_le (q : List S36 → Nat) (C : Nat) (hq : ∀ l, q l ≤ C) : ∀ (l : List S36) (n : Nat), n ≤ 61 + C → wkLoop q n l ≤ 61 + C
  | [], n, h => h
  | x :: r, n, h => by
    rw [wkLoop_cons]
    split
    · exact h
    · split
      · omega
      · exact wkLoop_le q C hq r _ (by have := hq x.f3; omega)
theorem wk_le : ∀ (d : Nat) (l : List S36), wk d l ≤ 61 * (d + 1)
  | 0, l => by unfold wk; split <;> omega
  | d + 1, l => by
    unfold wk
    split
    · omega
    · split
      · omega
      · have := wkLoop_le (wk d) _ (wk_le d) l 0 (by omega)
        omega
theorem rd51 (l : List S51) (j : Nat) (h : j < l.length) : l.drop j = rd_T51 l (j : Int) :: l.drop (j + 1) := by
  unfold rd_T51
  rw [Int.toNat_natCast, List.getD_eq_getElem?_getD, List.getElem?_eq_getElem h, List.drop_eq_getElem_cons h]
  rfl
theorem bigA_cons (a : S51) (l : List S51) : bigA (a :: l) = ((decide (a.f0.size > 300) || decide (a.f1.size > 300)) || bigA l) := rfl
theorem walk_ev : ∀ (d : Nat) (l : List S36), d ≤ 35 → Ev (fun k => muslinref14_walk.f k l (d : Int)) ((wk d l : Nat) : Int) := by
  intro d
  induction d with
  | zero =>
    intro l _
    refine .succ ?_
    simp only [muslinref14_walk.f]
    by_cases hl : l = []
    · subst hl; exact .ifp rfl (.of rfl)
    · have hlp : 0 < l.length := List.length_pos_iff.2 hl
      refine .ifn (by omega) (.ifp rfl (.succ ?_))
      simp only [muslinref14_walk.j0]
      refine .ifp (by trivial) (.of ?_)
      unfold wk; rw [if_neg hl]; rfl
  | succ d ih =>
    intro l hd
    refine .succ ?_
    simp only [muslinref14_walk.f]
    by_cases hl : l = []
    · subst hl; exact .ifp rfl (.of rfl)
    · have hlp : 0 < l.length := List.length_pos_iff.2 hl
      refine .ifn (by omega) (.ifn (by omega) ?_)
      by_cases h60 : l.length > 60
      · rw [show decide ((l.length : Int) > 60) = true from decide_eq_true (by omega)]
        refine .succ ?_
        simp only [muslinref14_walk.j0]
        refine .ifp (by trivial) (.of ?_)
        unfold wk; rw [if_neg hl, if_pos h60]; rfl
      · rw [show decide ((l.length : Int) > 60) = false from decide_eq_false (by omega)]
        refine .succ ?_
        simp only [muslinref14_walk.j0]
        refine .ifn (by simp) ?_
        have hwk : wk (d + 1) l = wkLoop (wk d) 0 l := by rw [wk_succ, if_neg hl, if_neg h60]
        rw [hwk]
        clear hwk hl hlp
        suffices go : ∀ (e i n : Nat), l.length - i = e → i ≤ l.length → n ≤ 61 * (d + 3) → Ev (fun k => muslinref14_walk.l0 k l ((d + 1 : Nat) : Int) (n : Int) (i : Int)) ((wkLoop (wk d) n (l.drop i) : Nat) : Int) from
          go _ 0 0 rfl (Nat.zero_le _) (by omega)
        intro e
        induction e with
        | zero =>
          intro i n he hi hn
          refine .succ ?_
          simp only [muslinref14_walk.l0]
          refine .ifn (by omega) (.succ ?_)
          simp only [muslinref14_walk.j2]
          refine .ifn (by simp) (.of ?_)
          rw [List.drop_eq_nil_of_le (by omega)]; rfl
        | succ e ih2 =>
          intro i n he hi hn
          have hdr := (rd_mem l i (by omega)).2
          rw [hdr, wkLoop_cons]
          refine .succ ?_
          simp only [muslinref14_walk.l0]
          refine .ifp (by omega) ?_
          by_cases hn60 : n > 60
          · rw [if_pos hn60, show decide ((n : Int) ≤ 60) = false from decide_eq_false (by omega)]
            refine .succ ?_
            simp only [muslinref14_walk.j2]
            exact .ifn (by simp) (.of rfl)
          · rw [if_neg hn60, show decide ((n : Int) ≤ 60) = true from decide_eq_true (by omega)]
            have hnext := ih2 (i + 1) (n + 1 + wk d (rd_T36 l (i : Int)).f3) (by omega) (by omega) (by have := wk_le d (rd_T36 l (i : Int)).f3; omega)
            have hkid := ih (rd_T36 l (i : Int)).f3 (by omega)
            have hwb := wk_le d (rd_T36 l (i : Int)).f3
            have bad : Ev (fun k => muslinref14_walk.j3 k l ((d + 1 : Nat) : Int) (n : Int) (i : Int) true) 61 := by
              refine .succ ?_
              simp only [muslinref14_walk.j3]
              exact .ifp (by trivial) (.of rfl)
            have l1 (h40 : (rd_T36 l (i : Int)).f1.length ≤ 40) : ∀ (a j : Nat), (rd_T36 l (i : Int)).f1.length - j = a → j ≤ (rd_T36 l (i : Int)).f1.length → Ev (fun k => muslinref14_walk.l1 k l ((d + 1 : Nat) : Int) (n : Int) (i : Int) (j : Int)) (((if bigA ((rd_T36 l (i : Int)).f1.drop j) then 61 else wkLoop (wk d) (n + 1 + wk d (rd_T36 l (i : Int)).f3) (l.drop (i + 1)) : Nat)) : Int) := by
              intro a
              induction a with
              | zero =>
                intro j ha hj
                refine .succ ?_
                simp only [muslinref14_walk.l1]
                rw [show wrap64 (((d + 1 : Nat) : Int) - 1) = (d : Int) from by rw [w64 (by omega) (by omega)]; omega]
                rw [show wrap64 ((i : Int) + 1) = ((i + 1 : Nat) : Int) from by rw [w64 (by omega) (by omega)]; omega]
                rw [show wrap64 ((n : Int) + 1) = ((n + 1 : Nat) : Int) from by rw [w64 (by omega) (by omega)]; omega]
                refine .ifp (by omega) (.ifp (by omega) (.ifn (by omega) (.bind hkid ?_)))
                rw [show wrap64 (((n + 1 : Nat) : Int) + ((wk d (rd_T36 l (i : Int)).f3 : Nat) : Int)) = ((n + 1 + wk d (rd_T36 l (i : Int)).f3 : Nat) : Int) from by rw [w64 (by omega) (by omega)]; omega]
                rw [List.drop_eq_nil_of_le (by omega)]
                exact hnext
              | succ a ih3 =>
                intro j ha hj
                have h51 := rd51 _ j (by omega : j < (rd_T36 l (i : Int)).f1.length)
                rw [h51, bigA_cons]
                refine .succ ?_
                simp only [muslinref14_walk.l1]
                rw [show wrap64 ((j : Int) + 1) = ((j + 1 : Nat) : Int) from by rw [w64 (by omega) (by omega)]; omega]
                refine .ifp (by omega) (.ifp (by omega) (.ifp (by omega) (.ifp (by omega) ?_)))
                by_cases hb1 : (rd_T51 (rd_T36 l (i : Int)).f1 (j : Int)).f0.size > 300
                · rw [decide_eq_true hb1]
                  exact .ifp (by omega) (.of rfl)
                · refine .ifn (by omega) ?_
                  by_cases hb2 : (rd_T51 (rd_T36 l (i : Int)).f1 (j : Int)).f1.size > 300
                  · rw [decide_eq_true hb2, Bool.or_true]
                    exact .ifp (by omega) (.of rfl)
                  · rw [decide_eq_false hb1, decide_eq_false hb2, Bool.or_false, Bool.false_or]
                    exact .ifn (by omega) (ih3 (j + 1) (by omega) (by omega))
            refine .succ ?_
            simp only [muslinref14_walk.j2]
            refine .ifp (by trivial) (.ifp (by omega) (.ifp (by omega) ?_))
            unfold bigN
            by_cases hb1 : (rd_T36 l (i : Int)).f0.size > 300
            · rw [decide_eq_true hb1]
              exact .ifp (by omega) bad
            · refine .ifn (by omega) ?_
              by_cases hb2 : (rd_T36 l (i : Int)).f2.size > 300
              · rw [decide_eq_true hb2, Bool.or_true]
                exact .ifp (by omega) bad
              · refine .ifn (by omega) ?_
                by_cases hb3 : (rd_T36 l (i : Int)).f1.length > 40
                · rw [decide_eq_true hb3, Bool.or_true, show decide (((rd_T36 l (i : Int)).f1.length : Int) > 40) = true from decide_eq_true (by omega)]
                  exact bad
                · rw [show decide (((rd_T36 l (i : Int)).f1.length : Int) > 40) = false from decide_eq_false (by omega), decide_eq_false hb1, decide_eq_false hb2, decide_eq_false hb3, Bool.or_false, Bool.or_false, Bool.false_or]
                  refine .succ ?_
                  simp only [muslinref14_walk.j3]
                  refine .ifn (by simp) ?_
                  have := l1 (by omega) _ 0 rfl (Nat.zero_le _)
                  exact this

/-! ### A small tree's text is not too long -/
theorem cutL_no10 : ∀ (n : Nat) (s : List UInt8), s.length ≤ n → ∀ x ∈ cutL s, 10 ∉ x := by
  intro n
  induction n with
  | zero =>
    intro s h x hx
    obtain rfl : s = [] := List.eq_nil_of_length_eq_zero (by omega)
    rw [cutL_nil] at hx; cases hx
  | succ n ih =>
    intro s h x hx
    by_cases h0 : s = []
    · subst h0; rw [cutL_nil] at hx; cases hx
    · have hl := (lineOf_len s).2.2 h0
      rw [lineOf_brk] at hl
      rw [cutL_cons h0] at hx
      rcases List.mem_cons.1 hx with rfl | hx
      · have h1 := (brk1_spec 10 s).1
        split
        · intro h2
          rw [chop_eq] at h2
          split at h2
          · exact h1 (List.mem_of_mem_take h2)
          · exact h1 h2
        · exact h1
      · exact ih _ (by simp only at hl; omega) x hx
theorem quoteL_len : ∀ (L : List (List UInt8)) , (quoteL L).length = 3 * L.length + (L.map List.length).sum
  | [] => rfl
  | l :: L => by
    rw [quoteL_cons, List.length_append, quoteL_len L]
    simp; omega
theorem cutL_sum : ∀ (n : Nat) (s : List UInt8), s.length ≤ n → ((cutL s).map List.length).sum ≤ s.length := by
  intro n
  induction n with
  | zero =>
    intro s h
    obtain rfl : s = [] := List.eq_nil_of_length_eq_zero (by omega)
    rw [cutL_nil]; simp
  | succ n ih =>
    intro s h
    by_cases h0 : s = []
    · subst h0; rw [cutL_nil]; simp
    · have hl := (lineOf_len s).2.2 h0
      rw [lineOf_brk] at hl
      have := ih (brk1 10 s).2.1 (by simp only at hl; omega)
      rw [cutL_cons h0, List.map_cons, List.sum_cons]
      cases hf : (brk1 10 s).2.2 with
      | false =>
        obtain ⟨e1, e2⟩ := brk_none s 10 hf
        rw [if_neg (by simp), e1, e2, cutL_nil]
        simp
      | true =>
        have e := (brk1_spec 10 s).2.1 hf
        have hc : (chop (brk1 10 s).1).length ≤ (brk1 10 s).1.length := trim_len _ _
        have h2 := congrArg List.length e
        rw [List.length_append, List.length_cons] at h2
        rw [if_pos rfl]
        omega
theorem cutL_cnt : ∀ (n : Nat) (t : List UInt8), t.length ≤ n → (cutL t).length ≤ t.count 10 + 1 := by
  intro n
  induction n with
  | zero =>
    intro t h
    obtain rfl : t = [] := List.eq_nil_of_length_eq_zero (by omega)
    rw [cutL_nil]; simp
  | succ n ih =>
    intro t h
    by_cases h0 : t = []
    · subst h0; rw [cutL_nil]; simp
    · have hl := (lineOf_len t).2.2 h0
      rw [lineOf_brk] at hl
      have := ih (brk1 10 t).2.1 (by simp only at hl; omega)
      rw [cutL_cons h0, List.length_cons]
      cases hf : (brk1 10 t).2.2 with
      | false =>
        rw [(brk_none t 10 hf).2, cutL_nil]; simp
      | true =>
        have e := (brk1_spec 10 t).2.1 hf
        have e2 : t.count 10 = (brk1 10 t).1.count 10 + ((brk1 10 t).2.1.count 10 + 1) := by
          conv => lhs; rw [e]
          rw [List.count_append, List.count_cons_self]
        omega
theorem quoteL_cnt : ∀ L : List (List UInt8), (∀ x ∈ L, 10 ∉ x) → (quoteL L).count 10 = L.length
  | [], _ => rfl
  | l :: L, h => by
    have h1 : l.count 10 = 0 := List.count_eq_zero.2 (h l (by simp))
    rw [quoteL_cons, List.count_append, quoteL_cnt L (fun x hx => h x (List.mem_cons_of_mem _ hx))]
    have e : (62 :: 32 :: (l ++ [10]) : List UInt8).count 10 = 1 := by
      rw [List.count_cons_of_ne (by decide), List.count_cons_of_ne (by decide), List.count_append, h1]; rfl
    rw [e, List.length_cons]; omega
theorem nl_cnt (out : List UInt8) : (nl out).count 10 ≤ out.count 10 + 1 := by
  unfold nl
  split
  · subst_vars; simp
  · split
    · omega
    · rw [List.count_append]; simp
theorem stepT_big (tx : List S36 → List UInt8) (K c : Nat) (out : List UInt8) (x : S36) (hb : x.f2.size ≤ 300) (h1 : (tx x.f3).count 10 ≤ 302 * c) (h2 : (tx x.f3).length ≤ K * c) (hK : 300 ≤ K) :
    (stepT tx out x).count 10 ≤ out.count 10 + 302 * (1 + c) ∧ (stepT tx out x).length ≤ out.length + (K + 906) * (1 + c) := by
  have hK2 : (K + 906) * (1 + c) = K + 906 + K * c + 906 * c := by rw [Nat.mul_add, Nat.mul_one, Nat.add_mul]; omega
  rw [hK2]
  unfold stepT
  split
  · have hc : x.f2.data.toList.count 10 ≤ x.f2.data.toList.length := List.count_le_length
    have hs : x.f2.data.toList.length ≤ 300 := by rw [← Lib.size_eq]; exact hb
    rw [List.count_append, List.length_append]
    constructor <;> omega
  · split
    · rw [List.count_append, List.length_append]
      simp only [List.count_singleton_self, List.length_singleton]
      constructor <;> omega
    · split
      · have e1 := cutL_cnt _ (tx x.f3) (Nat.le_refl _)
        have e2 := cutL_sum _ (tx x.f3) (Nat.le_refl _)
        have e3 := quoteL_len (cutL (tx x.f3))
        have e4 := quoteL_cnt (cutL (tx x.f3)) (fun y hy => cutL_no10 _ (tx x.f3) (Nat.le_refl _) y hy)
        have e5 := nl_cnt out
        have e6 := (nl_len out).2
        rw [List.count_append, List.length_append]
        constructor <;> omega
      · rw [List.count_append, List.length_append]
        constructor <;> omega
theorem small_ok : ∀ (d : Nat) (l : List S36), d ≤ 35 → wk d l ≤ 60 → TOk d l ∧ (txt d l).count 10 ≤ 302 * wk d l ∧ (txt d l).length ≤ (906 * d + 300) * wk d l := by
  intro d
  induction d with
  | zero =>
    intro l _ h
    unfold wk at h
    split at h
    · subst_vars; exact ⟨rfl, by simp [txt], by simp [txt]⟩
    · omega
  | succ d ih =>
    intro l hd h
    by_cases hl : l = []
    · subst hl
      exact ⟨TOk_nil _, by simp [txt], by simp [txt]⟩
    · have hwk : wk (d + 1) l = if l.length > 60 then 61 else wkLoop (wk d) 0 l := by rw [wk_succ, if_neg hl]
      by_cases h60 : l.length > 60
      · rw [hwk, if_pos h60] at h; omega
      · rw [if_neg h60] at hwk
        rw [hwk] at h
        have go : ∀ (l : List S36) (n : Nat) (out : List UInt8), wkLoop (wk d) n l ≤ 60 → n ≤ wkLoop (wk d) n l ∧ (∀ x ∈ l, TOk d x.f3) ∧ (l.foldl (stepT (txt d)) out).count 10 ≤ out.count 10 + 302 * (wkLoop (wk d) n l - n) ∧ (l.foldl (stepT (txt d)) out).length ≤ out.length + (906 * (d + 1) + 300) * (wkLoop (wk d) n l - n) := by
          intro l
          induction l with
          | nil => intro n out hw; exact ⟨Nat.le_refl _, by simp, by simp, by simp⟩
          | cons x r ih2 =>
            intro n out hw
            rw [wkLoop_cons] at hw ⊢
            by_cases hn : n > 60
            · rw [if_pos hn] at hw; omega
            · rw [if_neg hn] at hw ⊢
              by_cases hb : bigN x = true
              · rw [if_pos hb] at hw; omega
              · rw [if_neg hb] at hw ⊢
                have hbs : x.f2.size ≤ 300 := by
                  unfold bigN at hb
                  simp only [Bool.or_eq_true, decide_eq_true_eq, not_or] at hb
                  omega
                obtain ⟨g1, g2, g3, g4⟩ := ih2 (n + 1 + wk d x.f3) (stepT (txt d) out x) hw
                obtain ⟨f1, f2, f3⟩ := ih x.f3 (by omega) (by omega)
                obtain ⟨s1, s2⟩ := stepT_big (txt d) (906 * d + 300) (wk d x.f3) out x hbs f2 f3 (by omega)
                rw [List.foldl_cons]
                generalize hm : wkLoop (wk d) (n + 1 + wk d x.f3) r = m at *
                refine ⟨by omega, ?_, by omega, ?_⟩
                · intro y hy
                  rcases List.mem_cons.1 hy with rfl | hy
                  · exact f1
                  · exact g2 y hy
                · have e : m - n = (1 + wk d x.f3) + (m - (n + 1 + wk d x.f3)) := by omega
                  rw [e, Nat.mul_add]
                  rw [show 906 * d + 300 + 906 = 906 * (d + 1) + 300 by omega] at s2
                  omega
        obtain ⟨g1, g2, g3, g4⟩ := go l 0 [] h
        rw [hwk]
        have e : txt (d + 1) l = l.foldl (stepT (txt d)) [] := rfl
        rw [← e] at g3 g4
        simp only [List.count_nil, List.length_nil, Nat.zero_add, Nat.sub_zero] at g3 g4
        refine ⟨⟨by omega, ?_, g2⟩, g3, g4⟩
        have : (906 * (d + 1) + 300) * wkLoop (wk d) 0 l ≤ (906 * 36 + 300) * 60 := Nat.mul_le_mul (by omega) h
        omega
theorem PlainTexts (l : List S36) : ∃ k, muslinlaw20_PlainTexts.f k l = some true := by
  apply Ev.ex (f := fun k => muslinlaw20_PlainTexts.f k l)
  simp only [muslinlaw20_PlainTexts.f, muslinref14_Small.f]
  have hw := walk_ev 35 l (Nat.le_refl _)
  by_cases h : wk 35 l ≤ 60
  · obtain ⟨ok, _⟩ := small_ok 35 l (Nat.le_refl _) h
    refine .bind (.bind hw (.of (show some (decide (((wk 35 l : Nat) : Int) ≤ 60)) = some true from congrArg some (decide_eq_true (by omega))))) ?_
    exact .ifp (by trivial) (.bind (plainText 35 l ok) (.bind (refText 35 l ok) (.ifp (by trivial) liveb)))
  · refine .bind (.bind hw (.of (show some (decide (((wk 35 l : Nat) : Int) ≤ 60)) = some false from congrArg some (decide_eq_false (by omega))))) ?_
    exact .ifn (by simp) liveb
end Go.Proofs.Ythnbhcmekkadeaa.Pure
