/- Where a piece of a style ends: the printed function answers as a plain one over lists does. -/
import Derived.Test.YtollfaphadcnnaaDoorPureBase
import Derived.Test.YtollfaphadcnnaaDoorPrx3
set_option linter.unusedVariables false
set_option linter.unusedSimpArgs false
namespace Go.Proofs.YtollfaphadcnnaaDoor.Pure
open Go Go.RowKit Go.Proofs.YtollfaphadcnnaaDoor.Pr Go.Proofs.YtollfaphadcnnaaDoorW.PrintWords Go.Proofs.YtollfaphadcnnaaDoorW.PrintLast
/-- How many bytes stand ahead of the sign that ends a piece: q is the quote that is open (0: none), d how many brackets are. -/
def endQ : List UInt8 → UInt8 → Nat → Nat
  | [], _, _ => 0
  | c :: r, q, d =>
    if q ≠ 0 then
      if c = 92 then (match r with
        | [] => 1
        | _ :: r2 => 2 + endQ r2 q d)
      else if c = q then 1 + endQ r 0 d
      else 1 + endQ r q d
    else if c = 34 ∨ c = 39 then 1 + endQ r c d
    else if c = 40 then 1 + endQ r 0 (d + 1)
    else if c = 41 ∧ 0 < d then 1 + endQ r 0 (d - 1)
    else if c = 59 ∧ d = 0 then 0
    else 1 + endQ r 0 d
theorem endQ_le : ∀ (n : Nat) (l : List UInt8) (q : UInt8) (d : Nat), l.length ≤ n → endQ l q d ≤ l.length := by
  intro n
  induction n with
  | zero =>
    intro l q d h
    obtain rfl : l = [] := List.eq_nil_of_length_eq_zero (by omega)
    simp [endQ]
  | succ n ih =>
    intro l q d h
    cases l with
    | nil => simp [endQ]
    | cons c r =>
      simp only [List.length_cons] at h ⊢
      have hr : ∀ q d, endQ r q d ≤ r.length := fun q d => ih r q d (by omega)
      unfold endQ
      split
      · split
        · split
          · simp
          · rename_i x r2
            simp only [List.length_cons] at h
            have := ih r2 q d (by omega)
            simp only [List.length_cons]
            omega
        · split
          · have := hr 0 d; omega
          · have := hr q d; omega
      · split
        · have := hr c d; omega
        · split
          · have := hr 0 (d + 1); omega
          · split
            · have := hr 0 (d - 1); omega
            · split
              · omega
              · have := hr 0 d; omega
/-- The signs that close what is open, the innermost one last. -/
def stk (q : UInt8) (d : Nat) : List Int := List.replicate d 41 ++ (if q = 0 then [] else [(q.toNat : Int)])
theorem stk_len (q : UInt8) (d : Nat) : (stk q d).length = d + if q = 0 then 0 else 1 := by
  unfold stk
  split <;> simp
def Qt (q : UInt8) : Prop := q = 0 ∨ q = 34 ∨ q = 39
theorem rd_last (q : UInt8) (hq : q ≠ 0) (d : Nat) : rd (stk q d) (d : Int) = (q.toNat : Int) := by
  unfold rd stk
  rw [if_neg hq, Int.toNat_natCast, List.getD_eq_getElem?_getD, List.getElem?_append_right (by simp)]
  simp
theorem rd_last0 (d : Nat) (hd : 0 < d) : rd (stk 0 d) ((d - 1 : Nat) : Int) = 41 := by
  unfold rd stk
  rw [if_pos rfl, Int.toNat_natCast, List.append_nil, List.getD_eq_getElem?_getD, List.getElem?_replicate, if_pos (by omega)]
  rfl
theorem u8_beq (c q : UInt8) : ((c.toNat : Int) == (q.toNat : Int)) = decide (c = q) := by
  rw [Bool.eq_iff_iff, beq_iff_eq, decide_eq_true_eq]
  exact u8_int c q
theorem u8_beqn (c : UInt8) (n : Nat) (hn : n < 256) : ((c.toNat : Int) == (n : Int)) = decide (c = UInt8.ofNat n) := by
  have : (n : Int) = ((UInt8.ofNat n).toNat : Int) := by
    rw [UInt8.toNat_ofNat']
    omega
  rw [this]
  exact u8_beq c _
def endV (l : List UInt8) (q : UInt8) (d i : Nat) : Int := if i ≤ l.length then ((i + endQ (l.drop i) q d : Nat) : Int) else (l.length : Int)
theorem end_l0 (l : List UInt8) (hl : l.length ≤ 1000000000) : ∀ (n i : Nat) (q : UInt8) (d : Nat), l.length + 1 ≤ n + i → i ≤ l.length + 1 → Qt q → d ≤ i →
    Ev (fun k => css_end.l0 k (B l) (stk q d) (i : Int)) (endV l q d i) := by
  intro n
  induction n with
  | zero =>
    intro i q d hn hi hq hd
    have hl' : l.length + 1 ≤ i := by omega
    refine .succ ?_
    simp only [css_end.l0]
    refine .ifn (by rw [B_size]; omega) (.of ?_)
    unfold endV
    rw [if_neg (by omega), B_size]
  | succ n ih =>
    intro i q d hn hi hq hd
    refine .succ ?_
    simp only [css_end.l0]
    by_cases hlt : i < l.length
    · have hdc := drop_cons_get l i hlt
      have hv : endV l q d i = ((i + endQ (l.getD i 0 :: l.drop (i + 1)) q d : Nat) : Int) := by
        unfold endV
        rw [if_pos (by omega), hdc]
      rw [hv]
      have w1 : wrap64 ((i : Int) + 1) = ((i + 1 : Nat) : Int) := by rw [w64 (by omega) (by omega)]; omega
      have w2 : wrap64 (((i + 1 : Nat) : Int) + 1) = ((i + 2 : Nat) : Int) := by rw [w64 (by omega) (by omega)]; omega
      have hnx : ∀ (q' : UInt8) (d' : Nat), Qt q' → d' ≤ i + 1 → Ev (fun k => css_end.l0 k (B l) (stk q' d') ((i + 1 : Nat) : Int)) ((i + (1 + endQ (l.drop (i + 1)) q' d') : Nat) : Int) := fun q' d' h1 h2 => by
        have := ih (i + 1) q' d' (by omega) (by omega) h1 h2
        unfold endV at this
        rw [if_pos (by omega)] at this
        rw [← Nat.add_assoc]
        exact this
      have hbt : bt (B l) (i : Int) = ((l.getD i 0).toNat : Int) := B_bt l i
      rw [hbt]
      have hsl := stk_len q d
      generalize hc : l.getD i 0 = c at *
      refine .ifp (by rw [B_size]; omega) (.ifp (by omega) ?_)
      by_cases hq0 : q = 0
      · subst hq0
        rw [if_pos rfl, Nat.add_zero] at hsl
        -- from the fourth step on, where nothing is quoted
        have hj5 : Ev (fun k => css_end.j5 k (B l) (stk 0 d) (i : Int) (c.toNat : Int) (decide (c = 34 ∨ c = 39))) ((i + endQ (c :: l.drop (i + 1)) 0 d : Nat) : Int) ∨ (c = 41 ∧ 0 < d) := by
          by_cases h41 : c = 41 ∧ 0 < d
          · exact .inr h41
          · refine .inl (.succ ?_)
            simp only [css_end.j5]
            rw [w1]
            unfold endQ
            rw [if_neg (show ¬ ((0 : UInt8) ≠ 0) by simp)]
            by_cases h1 : c = 34 ∨ c = 39
            · rw [if_pos h1]
              refine .ifp (decide_eq_true h1) (.ifp (by rw [hsl]; omega) ?_)
              have hs : stk 0 d ++ [(c.toNat : Int)] = stk c d := by
                unfold stk
                rw [if_pos rfl, if_neg (by rintro rfl; simp at h1), List.append_nil]
              rw [hs]
              exact hnx c d (.inr h1) (by omega)
            · rw [if_neg h1]
              refine .ifn (by simp [h1]) ?_
              by_cases h2 : c = 40
              · rw [if_pos h2]
                refine .ifp (by rw [h2]; rfl) (.ifp (by rw [hsl]; omega) ?_)
                have hs : stk 0 d ++ [41] = stk 0 (d + 1) := by
                  unfold stk
                  rw [if_pos rfl, List.append_nil, List.append_nil, List.replicate_succ']
                rw [hs]
                exact hnx 0 (d + 1) (.inl rfl) (by omega)
              · rw [if_neg h2, if_neg h41]
                refine .ifn (fun h => h2 ((u8_int c 40).1 h)) ?_
                by_cases h3 : c = 59
                · refine .ifp (by rw [h3]; rfl) ?_
                  by_cases h4 : d = 0
                  · rw [if_pos ⟨h3, h4⟩]
                    exact .ifp (by rw [hsl]; omega) (.of (by simp))
                  · rw [if_neg (fun h => h4 h.2)]
                    exact .ifn (by rw [hsl]; omega) (hnx 0 d (.inl rfl) (by omega))
                · rw [if_neg (fun h => h3 h.1)]
                  exact .ifn (fun h => h3 ((u8_int c 59).1 h)) (hnx 0 d (.inl rfl) (by omega))
        have hj5' : ¬ (c = 41 ∧ 0 < d) → Ev (fun k => css_end.j4 k (B l) (stk 0 d) (i : Int) (c.toNat : Int) false false) ((i + endQ (c :: l.drop (i + 1)) 0 d : Nat) : Int) := fun hno => by
          have h5 := hj5.resolve_right hno
          refine .succ ?_
          simp only [css_end.j4]
          refine .ifn (by simp) (.ifn (by simp) ?_)
          by_cases h34 : c = 34
          · refine .ifp (by rw [h34]; rfl) ?_
            rw [decide_eq_true (.inl h34)] at h5
            exact h5
          · refine .ifn (fun h => h34 ((u8_int c 34).1 h)) ?_
            rw [show ((c.toNat : Int) == 39) = decide (c = 34 ∨ c = 39) from (u8_beqn c 39 (by decide)).trans (by simp [h34])]
            exact h5
        by_cases hd0 : d = 0
        · subst hd0
          have h4 := hj5' (by simp)
          refine .ifn (by rw [hsl]; simp) ?_
          refine .succ ?_
          simp only [css_end.j1]
          refine .ifn (by decide) (.succ ?_)
          simp only [css_end.j2]
          refine .ifn (by decide) (.succ ?_)
          simp only [css_end.j3]
          refine .ifn (by decide) (.ifp (by first | rfl | trivial) ?_)
          exact h4
        · have e1 : wrap64 (((stk 0 d).length : Int) - 1) = ((d - 1 : Nat) : Int) := by rw [hsl, w64 (by omega) (by omega)]; omega
          rw [e1, rd_last0 d (by omega)]
          refine .ifp (by rw [hsl]; omega) (.ifp (by omega) (.ifp (by rw [hsl]; omega) ?_))
          refine .succ ?_
          simp only [css_end.j1]
          refine .ifn (by decide) (.succ ?_)
          simp only [css_end.j2]
          refine .ifn (by decide) (.succ ?_)
          simp only [css_end.j3]
          refine .ifn (by decide) (.ifn (by decide) ?_)
          rw [show ((c.toNat : Int) == 41) = decide (c = 41) from u8_beqn c 41 (by decide)]
          by_cases h41 : c = 41
          · rw [decide_eq_true h41]
            refine .succ ?_
            simp only [css_end.j4]
            rw [e1, w1, Int.toNat_natCast]
            refine .ifp (by first | rfl | trivial) (.ifp (by omega) (.ifp (by rw [hsl]; omega) ?_))
            have hs : (stk 0 d).take (d - 1) = stk 0 (d - 1) := by
              unfold stk
              rw [if_pos rfl, List.append_nil, List.append_nil, List.take_replicate, Nat.min_eq_left (by omega)]
            rw [hs]
            have he : endQ (c :: l.drop (i + 1)) 0 d = 1 + endQ (l.drop (i + 1)) 0 (d - 1) := by
              rw [h41]
              conv => lhs; unfold endQ
              rw [if_neg (show ¬ ((0 : UInt8) ≠ 0) by simp), if_neg (by decide), if_neg (by decide), if_pos ⟨rfl, by omega⟩]
            rw [he]
            exact hnx 0 (d - 1) (.inl rfl) (by omega)
          · rw [decide_eq_false h41]
            exact hj5' (fun h => h41 h.1)
      · rw [if_neg hq0] at hsl
        have hq2 : q = 34 ∨ q = 39 := hq.resolve_left hq0
        have e1 : wrap64 (((stk q d).length : Int) - 1) = (d : Int) := by rw [hsl, w64 (by omega) (by omega)]; omega
        rw [e1, rd_last q hq0]
        refine .ifp (by rw [hsl]; omega) (.ifp (by omega) (.ifp (by rw [hsl]; omega) ?_))
        have hj2 : Ev (fun k => css_end.j2 k (B l) (stk q d) (i : Int) (c.toNat : Int) (q.toNat : Int) true) ((i + endQ (c :: l.drop (i + 1)) q d : Nat) : Int) := by
          refine .succ ?_
          simp only [css_end.j2]
          refine .ifp (by first | rfl | trivial) (.succ ?_)
          simp only [css_end.j3]
          rw [show ((c.toNat : Int) == 92) = decide (c = 92) from u8_beqn c 92 (by decide), w1, w2]
          conv => arg 2; unfold endQ
          rw [if_pos hq0]
          by_cases h92 : c = 92
          · rw [if_pos h92]
            refine .ifp (decide_eq_true h92) ?_
            have := ih (i + 2) q d (by omega) (by omega) hq (by omega)
            unfold endV at this
            cases hr : l.drop (i + 1) with
            | nil =>
              have hlen : l.length ≤ i + 1 := by simpa using hr
              rw [if_neg (by omega)] at this
              simp only
              rw [show i + 1 = l.length by omega]
              exact this
            | cons x r2 =>
              have hlen : i + 1 < l.length := by
                rcases Nat.lt_or_ge (i + 1) l.length with h | h
                · exact h
                · rw [List.drop_eq_nil_of_le h] at hr; cases hr
              have hd2 : l.drop (i + 2) = r2 := by
                rw [drop_cons_get l (i + 1) hlen] at hr
                exact (List.cons.inj hr).2
              rw [if_pos (by omega), hd2] at this
              simp only
              rw [← Nat.add_assoc]
              exact this
          · rw [if_neg h92]
            refine .ifn (by simp [h92]) (.ifn ?_ ?_)
            · intro h
              exact hq0 ((u8_int q 0).1 h)
            · refine .succ ?_
              simp only [css_end.j4]
              rw [u8_beq, e1, w1, Int.toNat_natCast]
              by_cases hcq : c = q
              · rw [if_pos hcq]
                refine .ifp (decide_eq_true hcq) (.ifp (by omega) (.ifp (by rw [hsl]; omega) ?_))
                have hs : (stk q d).take d = stk 0 d := by
                  unfold stk
                  rw [if_pos rfl, List.append_nil, List.take_left' (by simp)]
                rw [hs]
                exact hnx 0 d (.inl rfl) (by omega)
              · rw [if_neg hcq]
                refine .ifn (by simp [hcq]) (.ifp (by first | rfl | trivial) ?_)
                exact hnx q d hq (by omega)
        refine .succ ?_
        simp only [css_end.j1]
        rcases hq2 with rfl | rfl
        · exact .ifp (by first | rfl | trivial) hj2
        · exact .ifn (by decide) hj2
    · refine .ifn (by rw [B_size]; omega) (.of ?_)
      unfold endV
      rw [B_size]
      split
      · rw [show i = l.length by omega, List.drop_length]
        simp [endQ]
      · rfl
theorem end_ev (l : List UInt8) (hl : l.length ≤ 1000000000) : Ev (fun k => css_end.f k (B l)) ((endQ l 0 0 : Nat) : Int) := by
  have := end_l0 l hl (l.length + 1) 0 0 0 (by omega) (by omega) (.inl rfl) (Nat.le_refl _)
  unfold endV at this
  rw [if_pos (by omega), List.drop_zero, Nat.zero_add] at this
  exact this
end Go.Proofs.YtollfaphadcnnaaDoor.Pure
