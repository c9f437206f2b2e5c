/- The pieces and the declarations of a style, as the reference tells them. -/
import Derived.Test.YtollfaphadcnnaaDoorPureMath
import Derived.Test.YtollfaphadcnnaaDoorPureLive
import Derived.Test.YtollfaphadcnnaaDoorPrx5
set_option linter.unusedVariables false
set_option linter.unusedSimpArgs false
namespace Go.Proofs.YtollfaphadcnnaaDoor.Pure
open Go Go.RowKit Go.Proofs.YtollfaphadcnnaaDoor.Pr Go.Proofs.YtollfaphadcnnaaDoorW.PrintWords Go.Proofs.YtollfaphadcnnaaDoorW.PrintLast Plain Go.Proofs.YtollfaphadcnnaaDoor
theorem space_eq : ∀ c : UInt8, muslinref04_Space.f (c.toNat : Int) = some (wh.contains c) := u8_all (by decide +kernel)
theorem trim_l1 : ∀ (n : Nat) (l : List UInt8), l.length ≤ n → n ≤ 4611686018427387904 → Ev (fun k => muslinref17_trim.l1 k (B l)) (B (Lib.trimRightS l wh)) := by
  intro n
  induction n with
  | zero =>
    intro l h _
    obtain rfl : l = [] := List.eq_nil_of_length_eq_zero (by omega)
    refine .succ ?_
    simp only [muslinref17_trim.l1]
    exact .ifn (by simp) (.of rfl)
  | succ n ih =>
    intro l h hn
    refine .succ ?_
    simp only [muslinref17_trim.l1]
    rcases List.eq_nil_or_concat l with rfl | ⟨a, c, rfl⟩
    · exact .ifn (by simp) (.of rfl)
    · rw [List.concat_eq_append] at *
      have hs : (a ++ [c]).length = a.length + 1 := by simp
      have e1 : wrap64 (((B (a ++ [c])).size : Int) - 1) = (a.length : Int) := by rw [B_size, hs, w64 (by omega) (by omega)]; omega
      rw [e1, B_size, hs]
      refine .ifp (by omega) (.ifp (by omega) (.ifp (by omega) ?_))
      have eb : bt (B (a ++ [c])) (a.length : Int) = (c.toNat : Int) := by rw [B_bt]; simp
      rw [eb]
      refine .bindc (space_eq c) ?_
      have et : Lib.trimRightS (a ++ [c]) wh = if wh.contains c then Lib.trimRightS a wh else a ++ [c] := by
        unfold Lib.trimRightS
        rw [List.reverse_append]
        simp only [List.reverse_cons, List.reverse_nil, List.nil_append, List.singleton_append, List.dropWhile_cons]
        cases wh.contains c <;> simp
      rw [et]
      cases hc : wh.contains c with
      | true =>
        refine .ifp rfl (.ifp (by omega) ?_)
        rw [Int.toNat_natCast, B_extract]
        have : ((a ++ [c]).drop 0).take (a.length - 0) = a := by simp
        rw [this]
        exact ih a (by omega) (by omega)
      | false =>
        exact .ifn (by simp) (.of rfl)
theorem trim_l0 : ∀ (n : Nat) (l : List UInt8), l.length ≤ n → n ≤ 4611686018427387904 → Ev (fun k => muslinref17_trim.l0 k (B l)) (B (Lib.trimRightS (Lib.trimLeftS l wh) wh)) := by
  intro n
  induction n with
  | zero =>
    intro l h _
    obtain rfl : l = [] := List.eq_nil_of_length_eq_zero (by omega)
    refine .succ ?_
    simp only [muslinref17_trim.l0]
    refine .ifn (by simp) (.succ ?_)
    simp only [muslinref17_trim.j1]
    exact trim_l1 0 [] (by simp) (by omega)
  | succ n ih =>
    intro l h hn
    refine .succ ?_
    simp only [muslinref17_trim.l0]
    cases l with
    | nil =>
      refine .ifn (by simp) (.succ ?_)
      simp only [muslinref17_trim.j1]
      exact trim_l1 0 [] (by simp) (by omega)
    | cons c a =>
      have hs : (c :: a).length = a.length + 1 := rfl
      rw [B_size, hs]
      refine .ifp (by omega) (.ifp (by omega) ?_)
      have eb : bt (B (c :: a)) 0 = (c.toNat : Int) := B_bt (c :: a) 0
      rw [eb]
      refine .bindc (space_eq c) ?_
      have et : Lib.trimLeftS (c :: a) wh = if wh.contains c then Lib.trimLeftS a wh else c :: a := by
        unfold Lib.trimLeftS
        rw [List.dropWhile_cons]
      rw [et]
      cases hc : wh.contains c with
      | true =>
        refine .ifp rfl (.ifp (by omega) ?_)
        rw [B_extract]
        have : ((c :: a).drop 1).take (a.length + 1 - 1) = a := by simp
        rw [this]
        exact ih a (by omega) (by omega)
      | false =>
        refine .ifn (by simp) (.succ ?_)
        simp only [muslinref17_trim.j1]
        exact trim_l1 (a.length + 1) (c :: a) (by simp) (by omega)
theorem trim_comm (l : List UInt8) : Lib.trimRightS (Lib.trimLeftS l wh) wh = Lib.trimS l wh := (tl_tr (fun c => wh.contains c) l).symm
theorem trim_ev (l : List UInt8) (hl : l.length ≤ 4611686018427387904) : Ev (fun k => muslinref17_trim.f k (B l)) (B (Lib.trimS l wh)) := by
  have := trim_l0 l.length l (Nat.le_refl _) hl
  rw [trim_comm] at this
  exact this
theorem brk_get (l : List UInt8) (c : UInt8) (j : Nat) (h : j < (brk1 c l).1.length) : l.getD j 0 ≠ c := by
  have hs := brk1_spec c l
  have e : l.getD j 0 = (brk1 c l).1.getD j 0 := by
    cases hf : (brk1 c l).2.2 with
    | true =>
      conv => lhs; rw [hs.2.1 hf]
      rw [List.getD_eq_getElem?_getD, List.getElem?_append_left h, List.getD_eq_getElem?_getD]
    | false => conv => lhs; rw [(hs.2.2 hf).1]
  rw [e, List.getD_eq_getElem?_getD, List.getElem?_eq_getElem h]
  intro h2
  have hm := List.getElem_mem h
  rw [show (brk1 c l).1[j] = c from h2] at hm
  exact hs.1 hm
theorem brk_at (l : List UInt8) (c : UInt8) (h : (brk1 c l).2.2 = true) : (brk1 c l).1.length < l.length ∧ l.getD (brk1 c l).1.length 0 = c ∧ l.take (brk1 c l).1.length = (brk1 c l).1 ∧ l.drop ((brk1 c l).1.length + 1) = (brk1 c l).2.1 := by
  have hs := (brk1_spec c l).2.1 h
  generalize hq : brk1 c l = q at *
  rw [hs]
  refine ⟨by simp, by simp, by simp, ?_⟩
  rw [← List.drop_drop]; simp
theorem brk_none (l : List UInt8) (c : UInt8) (h : (brk1 c l).2.2 = false) : (brk1 c l).1 = l ∧ (brk1 c l).2.1 = [] := ⟨((brk1_spec c l).2.2 h).1.symm, ((brk1_spec c l).2.2 h).2⟩
def bytesOf (l : List (List UInt8)) : List ByteArray := l.map B
theorem bytesOf_len (a : List (List UInt8)) : (bytesOf a).length = a.length := by simp [bytesOf]
theorem rd_bytes (a : List (List UInt8)) (i : Nat) (h : i < a.length) : rdOf ByteArray.empty (bytesOf a) (i : Int) = B a[i] := by
  unfold rdOf bytesOf
  rw [Int.toNat_natCast, List.getD_eq_getElem?_getD, List.getElem?_map, List.getElem?_eq_getElem h]
  rfl
/-- Where the piece ends that is read at place i. -/
def mAt (l : List UInt8) (q : UInt8) (d i : Nat) : Nat := if i ≤ l.length then i + endQ (l.drop i) q d else l.length
/-- The pieces from there on, the first of which began at a place. -/
def restP (l : List UInt8) (a m : Nat) : List (List UInt8) := if m < l.length then (l.drop a).take (m - a) :: piecesL (l.drop (m + 1)) else [l.drop a]
theorem restP_start (l : List UInt8) (a : Nat) (ha : a ≤ l.length) : restP l a (mAt l 0 0 a) = piecesL (l.drop a) := by
  unfold restP mAt
  rw [if_pos ha]
  by_cases h : endQ (l.drop a) 0 0 < (l.drop a).length
  · have hl := h
    rw [List.length_drop] at hl
    rw [if_pos (by omega), piecesL_more h, List.drop_drop, Nat.add_sub_cancel_left, Nat.add_assoc]
  · have hl := h
    rw [List.length_drop] at hl
    rw [if_neg (by omega), piecesL_last h]
theorem pieces_l0 (l : List UInt8) (hl : l.length ≤ 1000000) : ∀ (n i a d : Nat) (q : UInt8) (out : List (List UInt8)), l.length + 1 ≤ n + i → i ≤ l.length + 1 → a ≤ i → a ≤ l.length → Qt q → d ≤ i → out.length ≤ i →
    Ev (fun k => muslinref17_pieces.l0 k (B l) (bytesOf out) (a : Int) (d : Int) (q.toNat : Int) (i : Int)) (bytesOf (out ++ restP l a (mAt l q d i))) := by
  intro n
  have hend : ∀ (i a d : Nat) (q : UInt8) (out : List (List UInt8)), l.length ≤ i → i ≤ l.length + 1 → a ≤ l.length → out.length ≤ i → Ev (fun k => muslinref17_pieces.l0 k (B l) (bytesOf out) (a : Int) (d : Int) (q.toNat : Int) (i : Int)) (bytesOf (out ++ restP l a (mAt l q d i))) := fun i a d q out h1 h1b h2 h3 => by
    have hm : mAt l q d i = l.length := by
      unfold mAt
      split
      · rw [show i = l.length by omega, List.drop_length]; rfl
      · rfl
    refine .succ ?_
    simp only [muslinref17_pieces.l0]
    refine .ifn (by rw [B_size]; omega) (.ifp (by omega) (.ifp (by rw [B_size]; omega) (.ifp (by rw [bytesOf_len]; omega) (.of ?_))))
    rw [Int.toNat_natCast, B_size, B_from, hm]
    unfold restP
    rw [if_neg (by omega)]
    simp [bytesOf]
  induction n with
  | zero =>
    intro i a d q out hn hi ha hal hq hd ho
    exact hend i a d q out (by omega) hi hal ho
  | succ n ih =>
    intro i a d q out hn hi ha hal hq hd ho
    by_cases hlt : i < l.length
    · have hdc := drop_cons_get l i hlt
      have hbt : bt (B l) (i : Int) = ((l.getD i 0).toNat : Int) := B_bt l i
      have w1 : wrap64 ((i : Int) + 1) = ((i + 1 : Nat) : Int) := by rw [w64 (by omega) (by omega)]; omega
      have w2 : wrap64 (((i + 1 : Nat) : Int) + 1) = ((i + 2 : Nat) : Int) := by rw [w64 (by omega) (by omega)]; omega
      have w3 : wrap64 ((d : Int) + 1) = ((d + 1 : Nat) : Int) := by rw [w64 (by omega) (by omega)]; omega
      have hmx : ∀ q' d', endQ (l.drop i) q d = 1 + endQ (l.drop (i + 1)) q' d' → mAt l q d i = mAt l q' d' (i + 1) := fun q' d' h => by
        unfold mAt
        rw [if_pos (by omega), if_pos (by omega), h]; omega
      rw [hdc] at hmx
      have hnx : ∀ (q' : UInt8) (d' : Nat), Qt q' → d' ≤ i + 1 → endQ (l.getD i 0 :: l.drop (i + 1)) q d = 1 + endQ (l.drop (i + 1)) q' d' → Ev (fun k => muslinref17_pieces.l0 k (B l) (bytesOf out) (a : Int) (d' : Int) (q'.toNat : Int) ((i + 1 : Nat) : Int)) (bytesOf (out ++ restP l a (mAt l q d i))) := fun q' d' h1 h2 h3 => by
        rw [hmx q' d' h3]
        exact ih (i + 1) a d' q' out (by omega) (by omega) (by omega) hal h1 h2 (by omega)
      refine .succ ?_
      simp only [muslinref17_pieces.l0]
      rw [hbt, w1, w2]
      refine .ifp (by rw [B_size]; omega) (.ifp (by omega) ?_)
      have hget : l.getD i 0 = l.getD i 0 := rfl
      have hmi : mAt l q d i = i + endQ (l.getD i 0 :: l.drop (i + 1)) q d := by unfold mAt; rw [if_pos (by omega), hdc]
      generalize hc : l.getD i 0 = c at *
      by_cases hq0 : q = 0
      · subst hq0
        refine .ifp rfl ?_
        have hj2 : ¬ (c = 41 ∧ 0 < d) → ¬ (c = 34 ∨ c = 39) → c ≠ 40 → Ev (fun k => muslinref17_pieces.j2 k (B l) (bytesOf out) (a : Int) (d : Int) ((0 : UInt8).toNat : Int) (i : Int) (c.toNat : Int) false) (bytesOf (out ++ restP l a (mAt l 0 d i))) := fun n1 n2 n3 => by
          refine .succ ?_
          simp only [muslinref17_pieces.j2]
          rw [w1]
          have he : endQ (c :: l.drop (i + 1)) 0 d = if c = 59 ∧ d = 0 then 0 else 1 + endQ (l.drop (i + 1)) 0 d := by
            conv => lhs; unfold endQ
            rw [if_neg (show ¬ ((0 : UInt8) ≠ 0) by simp), if_neg n2, if_neg n3, if_neg n1]
          refine .ifn (by simp) (ev_ite (fun h => ?_) (fun h => ?_))
          · have h59 : c = 59 := (u8_int c 59).1 h
            refine ev_ite (fun hd0 => ?_) (fun hd0 => ?_)
            · have hd0' : d = 0 := by omega
              subst hd0'
              rw [if_pos ⟨h59, rfl⟩] at he
              refine .ifp (by omega) (.ifp (by omega) (.ifp (by rw [B_size]; omega) (.ifp (by rw [bytesOf_len]; omega) ?_)))
              rw [Int.toNat_natCast, Int.toNat_natCast, B_extract]
              have hb : bytesOf out ++ [B ((l.drop a).take (i - a))] = bytesOf (out ++ [(l.drop a).take (i - a)]) := by simp [bytesOf]
              rw [hb]
              have hr : restP l a (mAt l 0 0 i) = (l.drop a).take (i - a) :: restP l (i + 1) (mAt l 0 0 (i + 1)) := by
                rw [restP_start l (i + 1) (by omega), hmi, he, Nat.add_zero]
                unfold restP
                rw [if_pos hlt]
              rw [hr, show out ++ (l.drop a).take (i - a) :: restP l (i + 1) (mAt l 0 0 (i + 1)) = (out ++ [(l.drop a).take (i - a)]) ++ restP l (i + 1) (mAt l 0 0 (i + 1)) by simp]
              exact ih (i + 1) (i + 1) 0 0 _ (by omega) (by omega) (by omega) (by omega) (.inl rfl) (by omega) (by rw [List.length_append, List.length_singleton]; omega)
            · rw [if_neg (fun hh => hd0 (by omega))] at he
              exact hnx 0 d (.inl rfl) (by omega) he
          · rw [if_neg (fun hh => h ((u8_int c 59).2 hh.1))] at he
            exact hnx 0 d (.inl rfl) (by omega) he
        have hj1 : Ev (fun k => muslinref17_pieces.j1 k (B l) (bytesOf out) (a : Int) (d : Int) ((0 : UInt8).toNat : Int) (i : Int) (c.toNat : Int) (decide (c = 34 ∨ c = 39))) (bytesOf (out ++ restP l a (mAt l 0 d i))) := by
          refine .succ ?_
          simp only [muslinref17_pieces.j1]
          rw [w1, w3]
          by_cases hqq : c = 34 ∨ c = 39
          · refine .ifp (decide_eq_true hqq) ?_
            refine hnx c d (.inr hqq) (by omega) ?_
            conv => lhs; unfold endQ
            rw [if_neg (show ¬ ((0 : UInt8) ≠ 0) by simp), if_pos hqq]
          · refine .ifn (by simp [hqq]) (ev_ite (fun h => ?_) (fun h => ?_))
            · have h40 : c = 40 := (u8_int c 40).1 h
              refine hnx 0 (d + 1) (.inl rfl) (by omega) ?_
              conv => lhs; unfold endQ
              rw [if_neg (show ¬ ((0 : UInt8) ≠ 0) by simp), if_neg hqq, if_pos h40]
            · have n40 : c ≠ 40 := fun hh => h ((u8_int c 40).2 hh)
              refine ev_ite (fun h41 => ?_) (fun h41 => ?_)
              · have e41 : c = 41 := (u8_int c 41).1 h41
                by_cases hd0 : 0 < d
                · rw [show decide ((d : Int) > 0) = true from decide_eq_true (by omega)]
                  refine .succ ?_
                  simp only [muslinref17_pieces.j2]
                  rw [w1, show wrap64 ((d : Int) - 1) = ((d - 1 : Nat) : Int) by rw [w64 (by omega) (by omega)]; omega]
                  refine .ifp (by first | rfl | trivial) ?_
                  refine hnx 0 (d - 1) (.inl rfl) (by omega) ?_
                  conv => lhs; unfold endQ
                  rw [if_neg (show ¬ ((0 : UInt8) ≠ 0) by simp), if_neg hqq, if_neg n40, if_pos ⟨e41, hd0⟩]
                · rw [show decide ((d : Int) > 0) = false from decide_eq_false (by omega)]
                  exact hj2 (fun hh => hd0 hh.2) hqq n40
              · exact hj2 (fun hh => h41 ((u8_int c 41).2 hh.1)) hqq n40
        refine ev_ite (fun h => ?_) (fun h => ?_)
        · rw [decide_eq_true (.inl ((u8_int c 34).1 h))] at hj1
          exact hj1
        · have n34 : c ≠ 34 := fun hh => h ((u8_int c 34).2 hh)
          rw [show ((c.toNat : Int) == 39) = decide (c = 34 ∨ c = 39) from (u8_beqn c 39 (by decide)).trans (by simp [n34])]
          exact hj1
      · refine .ifn (fun h => hq0 ((u8_int q 0).1 h)) (ev_ite (fun h => ?_) (fun h => ?_))
        · have h92 : c = 92 := (u8_int c 92).1 h
          have hm2 : mAt l q d i = mAt l q d (i + 2) := by
            rw [hmi]
            conv => lhs; unfold endQ
            rw [if_pos hq0, if_pos h92]
            unfold mAt
            cases hr : l.drop (i + 1) with
            | nil =>
              have hlen : l.length ≤ i + 1 := by simpa using hr
              rw [if_neg (by omega)]
              simp only
              omega
            | cons x r2 =>
              have hlen : i + 1 < l.length := by
                rcases Nat.lt_or_ge (i + 1) l.length with h | h
                · exact h
                · rw [List.drop_eq_nil_of_le h] at hr; cases hr
              have hd2 : l.drop (i + 2) = r2 := by
                rw [drop_cons_get l (i + 1) hlen] at hr
                exact (List.cons.inj hr).2
              rw [if_pos (by omega), hd2]
              simp only
              omega
          rw [hm2]
          exact ih (i + 2) a d q out (by omega) (by omega) (by omega) hal hq (by omega) (by omega)
        · have n92 : c ≠ 92 := fun hh => h ((u8_int c 92).2 hh)
          refine ev_ite (fun hcq => ?_) (fun hcq => ?_)
          · have ecq : c = q := (u8_int c q).1 hcq
            refine hnx 0 d (.inl rfl) (by omega) ?_
            conv => lhs; unfold endQ
            rw [if_pos hq0, if_neg n92, if_pos ecq]
          · refine hnx q d hq (by omega) ?_
            conv => lhs; unfold endQ
            rw [if_pos hq0, if_neg n92, if_neg (fun hh => hcq ((u8_int c q).2 hh))]
    · exact hend i a d q out (by omega) hi hal ho
theorem pieces_ev (l : List UInt8) (hl : l.length ≤ 1000000) : Ev (fun k => muslinref17_pieces.f k (B l)) (bytesOf (piecesL l)) := by
  have := pieces_l0 l hl (l.length + 1) 0 0 0 0 [] (by omega) (by omega) (by omega) (by omega) (.inl rfl) (by omega) (by simp)
  rw [restP_start l 0 (by omega), List.drop_zero, List.nil_append] at this
  exact this
end Go.Proofs.YtollfaphadcnnaaDoor.Pure
