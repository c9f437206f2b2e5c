/- The reference's Where and Fold, told over lists; small trees. -/
import Derived.Test.YtdgdilbbpnlplaaDoorMath
import Derived.Test.YtdgdilbbpnlplaaDoorPureTree
import Derived.Test.YtdgdilbbpnlplaaDoorPrx4
set_option linter.unusedVariables false
set_option linter.unusedSimpArgs false
namespace Go.Proofs.YtdgdilbbpnlplaaDoor.Pure
open Go Go.RowKit Go.Proofs.YtdgdilbbpnlplaaDoor.Pr Go.Proofs.YtdgdilbbpnlplaaDoorW.PrintWords Go.Proofs.YtdgdilbbpnlplaaDoorW.PrintLast
theorem u8_fin {P : UInt8 → Prop} (h : ∀ n : Fin 256, P (UInt8.ofNat n.val)) (c : UInt8) : P c := by
  have := h ⟨c.toNat, c.toNat_lt⟩
  simpa using this
theorem white_f : ∀ c : UInt8, muslinref05_White.f (c.toNat : Int) = some (whs.contains c) := u8_fin (by decide +kernel)
theorem is194 : ∀ c : UInt8, ((c.toNat : Int) = 194) ↔ c = 194 := u8_fin (by decide +kernel)
theorem is160 : ∀ c : UInt8, ((c.toNat : Int) == 160) = (c == 160) := u8_fin (by decide +kernel)
theorem bl_step (L : List UInt8) (i : Nat) (h : i < L.length) : bl (L.drop i) = if L.getD i 0 = 194 ∧ i + 1 < L.length ∧ L.getD (i + 1) 0 = 160 then bl (L.drop (i + 2)) else (whs.contains (L.getD i 0) && bl (L.drop (i + 1))) := by
  rw [drop_cons_get L i h]
  by_cases h1 : i + 1 < L.length
  · rw [drop_cons_get L (i + 1) h1, bl]
    by_cases hc : L.getD i 0 = 194 ∧ L.getD (i + 1) 0 = 160
    · rw [if_pos hc, if_pos ⟨hc.1, h1, hc.2⟩]
    · rw [if_neg hc, if_neg (fun h => hc ⟨h.1, h.2.2⟩)]
  · have e : L.drop (i + 1) = [] := List.drop_eq_nil_of_le (by omega)
    rw [e, if_neg (fun h => h1 h.2.1)]
    simp [bl]
theorem blank_loop (x0 : ByteArray) (x1 : List S41) (L : List UInt8) (x3 : List S32) (hL : L.length ≤ 1000000) : ∀ (n i : Nat), L.length - i ≤ n → i ≤ L.length → Ev (fun k => muslinref21_blank.l0 k (i : Int) x0 x1 (B L) x3) (bl (L.drop i)) := by
  intro n
  induction n with
  | zero =>
    intro i hn hi
    refine .succ ?_
    simp only [muslinref21_blank.l0]
    refine .ifn (by rw [B_size]; omega) (.of ?_)
    rw [List.drop_eq_nil_of_le (by omega)]; rfl
  | succ n ih =>
    intro i hn hi
    by_cases h : i < L.length
    · have e1 : wrap64 ((i : Int) + 1) = ((i + 1 : Nat) : Int) := by rw [w64 (by omega) (by omega)]; omega
      have e2 : wrap64 (((i + 1 : Nat) : Int) + 1) = ((i + 2 : Nat) : Int) := by rw [w64 (by omega) (by omega)]; omega
      have j1f (hs : ¬ (L.getD i 0 = 194 ∧ i + 1 < L.length ∧ L.getD (i + 1) 0 = 160)) : Ev (fun k => muslinref21_blank.j1 k (i : Int) false x0 x1 (B L) x3) (bl (L.drop i)) := by
        refine .succ ?_
        simp only [muslinref21_blank.j1]
        rw [e1, B_bt, white_f, bl_step L i h, if_neg hs]
        refine .ifn (by simp) (.ifp (by omega) (.ifp (by rw [B_size]; omega) (.bindc rfl ?_)))
        cases hw : whs.contains (L.getD i 0) with
        | true => exact .ifp (by trivial) (by rw [Bool.true_and]; exact ih (i + 1) (by omega) (by omega))
        | false => exact .ifn (by simp) (.of rfl)
      refine .succ ?_
      simp only [muslinref21_blank.l0]
      rw [e1, B_bt, B_bt]
      refine .ifp (by rw [B_size]; omega) (.ifp (by omega) ?_)
      by_cases h194 : L.getD i 0 = 194
      · refine .ifp ((is194 _).2 h194) ?_
        by_cases hi1 : i + 1 < L.length
        · refine .ifp (by rw [B_size]; omega) (.ifp (by omega) ?_)
          rw [is160]
          by_cases h160 : L.getD (i + 1) 0 = 160
          · rw [show (L.getD (i + 1) 0 == 160) = true from beq_iff_eq.2 h160]
            refine .succ ?_
            simp only [muslinref21_blank.j1]
            rw [e1, e2, bl_step L i h, if_pos ⟨h194, hi1, h160⟩]
            exact .ifp (by trivial) (ih (i + 2) (by omega) (by omega))
          · rw [show (L.getD (i + 1) 0 == 160) = false from by simpa using h160]
            exact j1f (fun hh => h160 hh.2.2)
        · exact .ifn (by rw [B_size]; omega) (j1f (fun hh => hi1 hh.2.1))
      · exact .ifn (fun hh => h194 ((is194 _).1 hh)) (j1f (fun hh => h194 hh.1))
    · refine .succ ?_
      simp only [muslinref21_blank.l0]
      refine .ifn (by rw [B_size]; omega) (.of ?_)
      rw [List.drop_eq_nil_of_le (by omega)]; rfl
theorem blank_ev (x : S32) (h : x.f2.size ≤ 1000000) : Ev (fun k => muslinref21_blank.f k x.f0 x.f1 x.f2 x.f3) (isBl x) := by
  unfold isBl blankB
  simp only [muslinref21_blank.f]
  by_cases h0 : x.f0.toList = []
  · rw [if_pos h0]
    refine .ifp h0 ?_
    have hb := B_of x.f2
    rw [hb, B_data]
    have := blank_loop x.f0 x.f1 x.f2.data.toList x.f3 (by rw [← Lib.size_eq]; exact h) _ 0 (Nat.le_refl _) (Nat.zero_le _)
    exact this
  · rw [if_neg h0]
    exact .ifn h0 (.of rfl)
section
variable (l : List S32) (hz : Szd l)
include hz
theorem rd_at (i : Nat) (h : i < l.length) : rd_T32 l (i : Int) = l.getD i z32 := by have _h := hz.1; unfold rd_T32; rw [Int.toNat_natCast]
theorem where_l1 (f : Nat) (hf : f ≤ l.length) : ∀ (n i : Nat), f - i ≤ n → i ≤ f → (l.take i).any (fun x => !isBl x) = false →
    Ev (fun k => muslinref21_Where.l1 k l (f : Int) (i : Int)) (if (l.take f).any (fun x => !isBl x) = false then (0, false) else ((f : Int), true)) := by
  intro n
  induction n with
  | zero =>
    intro i hn hi ha
    obtain rfl : i = f := by omega
    refine .succ ?_
    simp only [muslinref21_Where.l1]
    rw [if_pos ha]
    exact .ifn (by omega) (.of rfl)
  | succ n ih =>
    intro i hn hi ha
    by_cases h : i < f
    · have hil : i < l.length := by omega
      have e1 : wrap64 ((i : Int) + 1) = ((i + 1 : Nat) : Int) := by rw [w64 (by have := hz.1; omega) (by have := hz.1; omega)]; omega
      refine .succ ?_
      simp only [muslinref21_Where.l1]
      rw [rd_at l hz i hil, e1]
      refine .ifp (by omega) (.ifp (by omega) (.ifp (by omega) (.bind (blank_ev _ (szd_getD hz i)) ?_)))
      have ht : (l.take (i + 1)).any (fun x => !isBl x) = !isBl (l.getD i z32) := by
        rw [List.take_add_one, List.any_append, ha, List.getElem?_eq_getElem hil, getD_get hil]; simp
      cases hb : isBl (l.getD i z32) with
      | true => exact .ifp (by trivial) (ih (i + 1) (by omega) (by omega) (by rw [ht, hb]; rfl))
      | false =>
        have hA : (l.take f).any (fun x => !isBl x) = true := by
          rw [List.any_eq_true]
          refine ⟨l.getD i z32, ?_, by rw [hb]; rfl⟩
          rw [getD_get hil]
          exact List.mem_take_iff_getElem.2 ⟨i, by omega, rfl⟩
        rw [if_neg (by rw [hA]; simp)]
        exact .ifn (by simp) (.of rfl)
    · obtain rfl : i = f := by omega
      refine .succ ?_
      simp only [muslinref21_Where.l1]
      rw [if_pos ha]
      exact .ifn (by omega) (.of rfl)
theorem where_end (at4 : Int) : Ev (fun k => muslinref21_Where.j1 k l at4 (firstJ l (tailN l)) false) (whereL l) := by
  refine .succ ?_
  simp only [muslinref21_Where.j1]
  unfold whereL
  refine .ifn (by simp) ?_
  have hle := firstJ_le l (tailN l) (tailN_le l)
  by_cases h : firstJ l (tailN l) < 0
  · rw [if_pos (.inl h)]
    exact .ifp h (.of rfl)
  · obtain ⟨f, hf⟩ : ∃ f : Nat, firstJ l (tailN l) = (f : Int) := ⟨(firstJ l (tailN l)).toNat, by omega⟩
    rw [hf, Int.toNat_natCast]
    refine .ifn (by omega) ?_
    have := where_l1 l hz f (by omega) _ 0 (Nat.le_refl _) (Nat.zero_le _) rfl
    refine this.cast ?_
    by_cases ha : (l.take f).any (fun x => !isBl x) = false
    · rw [if_pos ha, if_pos (.inr ha)]
    · rw [if_neg ha, if_neg (fun h => h.elim (fun h => by omega) ha)]
theorem where_l0 : ∀ (n j : Nat), l.length - j ≤ n → AllT l j → Ev (fun k => muslinref21_Where.l0 k l ((l.length - j : Nat) : Int) (firstJ l j)) (whereL l) := by
  intro n
  induction n with
  | zero =>
    intro j hn ha
    have hj : j = l.length := by have := ha.1; omega
    subst hj
    have ht := tail_all ha
    refine .succ ?_
    simp only [muslinref21_Where.l0]
    refine .ifn (by omega) ?_
    have := where_end l hz ((l.length - l.length : Nat) : Int)
    rw [ht] at this
    exact this
  | succ n ih =>
    intro j hn ha
    have hlen := hz.1
    by_cases h : j < l.length
    · have e1 : wrap64 (((l.length - j : Nat) : Int) - 1) = ((l.length - 1 - j : Nat) : Int) := by rw [w64 (by omega) (by omega)]; omega
      refine .succ ?_
      simp only [muslinref21_Where.l0]
      rw [e1, rd_at l hz _ (by omega)]
      refine .ifp (by omega) (.ifp (by omega) (.ifp (by omega) (.bind (blank_ev _ (szd_getD hz _)) ?_)))
      have good (ht : tq (l.getD (l.length - 1 - j) z32) = true) : Ev (fun k => muslinref21_Where.j1 k l ((l.length - j : Nat) : Int) (firstJ l j) true) (whereL l) := by
        have hA : AllT l (j + 1) := ⟨by omega, fun i hi' => by
          by_cases he : i = j
          · subst he; exact ht
          · exact ha.2 i (by omega)⟩
        have hnext := ih (j + 1) (by omega) hA
        rw [show l.length - (j + 1) = l.length - 1 - j by omega, show firstJ l (j + 1) = if isQ (l.getD (l.length - 1 - j) z32) then ((l.length - 1 - j : Nat) : Int) else firstJ l j from rfl] at hnext
        refine .succ ?_
        simp only [muslinref21_Where.j1]
        rw [e1, rd_at l hz _ (by omega)]
        refine .ifp (by trivial) (.ifp (by omega) (.ifp (by omega) ?_))
        by_cases hq : (l.getD (l.length - 1 - j) z32).f0.toList = [98, 108, 111, 99, 107, 113, 117, 111, 116, 101]
        · have hq' : isQ (l.getD (l.length - 1 - j) z32) = true := by unfold isQ quoteB; rw [hq]; rfl
          rw [if_pos hq'] at hnext
          exact .ifp hq hnext
        · have hq' : ¬ isQ (l.getD (l.length - 1 - j) z32) = true := by unfold isQ quoteB; simpa using hq
          rw [if_neg hq'] at hnext
          exact .ifn hq hnext
      cases hb : isBl (l.getD (l.length - 1 - j) z32) with
      | true => exact .ifp (by trivial) (good (by unfold tq; rw [hb, Bool.or_true]))
      | false =>
        refine .ifn (by simp) ?_
        cases hq : ((l.getD (l.length - 1 - j) z32).f0.toList == [98, 108, 111, 99, 107, 113, 117, 111, 116, 101]) with
        | true => exact good (by unfold tq isQ quoteB; rw [hq]; rfl)
        | false =>
          have hs : tq (l.getD (l.length - 1 - j) z32) = false := by unfold tq isQ quoteB; rw [hq, hb]; rfl
          have ht := tail_stop ha h hs
          have := where_end l hz ((l.length - j : Nat) : Int)
          rw [ht] at this
          exact this
    · have hj : j = l.length := by have := ha.1; omega
      subst hj
      have ht := tail_all ha
      refine .succ ?_
      simp only [muslinref21_Where.l0]
      refine .ifn (by omega) ?_
      have := where_end l hz ((l.length - l.length : Nat) : Int)
      rw [ht] at this
      exact this
theorem refWhere : Ev (fun k => muslinref21_Where.f k l) (whereL l) := by
  simp only [muslinref21_Where.f]
  exact where_l0 l hz _ 0 (Nat.le_refl _) ⟨Nat.zero_le _, fun i hi => absurd hi (Nat.not_lt_zero _)⟩
end

/-! ### Small trees -/
theorem fit_up : ∀ (d : Nat) (l : List S32), fit d l = true → fit (d + 1) l = true
  | 0, l, h => by
    unfold fit at h
    cases l with
    | nil => rfl
    | cons _ _ => simp at h
  | d + 1, l, h => by
    obtain ⟨h1, h2⟩ := fit_elem h
    unfold fit
    simp only [Bool.and_eq_true, decide_eq_true_eq, List.all_eq_true]
    exact ⟨h1, fun x hx => ⟨⟨(h2 x hx).1, (h2 x hx).2.1⟩, fit_up d x.f3 (h2 x hx).2.2⟩⟩
theorem fit_le {d : Nat} {l : List S32} (h : fit d l = true) : ∀ e, fit (d + e) l = true
  | 0 => h
  | e + 1 => fit_up _ _ (fit_le h e)
theorem fit_mk {d : Nat} {l : List S32} (h1 : l.length ≤ 1000) (h2 : ∀ x ∈ l, x.f1.length ≤ 1000 ∧ x.f2.size ≤ 1000000 ∧ fit d x.f3 = true) : fit (d + 1) l = true := by
  unfold fit
  simp only [Bool.and_eq_true, decide_eq_true_eq, List.all_eq_true]
  exact ⟨h1, fun x hx => ⟨⟨(h2 x hx).1, (h2 x hx).2.1⟩, (h2 x hx).2.2⟩⟩
theorem fit_sub {d : Nat} {l l' : List S32} (h : fit d l = true) (hl : l'.length ≤ l.length) (hs : ∀ x ∈ l', x ∈ l) : fit d l' = true := by
  cases d with
  | zero =>
    unfold fit at h ⊢
    cases l with
    | nil => cases l' with
      | nil => rfl
      | cons _ _ => simp at hl
    | cons _ _ => simp at h
  | succ d =>
    obtain ⟨h1, h2⟩ := fit_elem h
    exact fit_mk (by omega) (fun x hx => h2 x (hs x hx))
theorem fit_fold {d : Nat} {l : List S32} (h : fit d l = true) (hl : l.length ≤ 999) : fit (d + 1) (foldL l) = true := by
  cases hw : (whereL l).2 with
  | false => rw [fold_same hw]; exact fit_up _ _ h
  | true =>
    obtain ⟨k, _, hk, _, he⟩ := where_of hw
    obtain ⟨e1, e2⟩ := fold_len he hk
    refine fit_mk (by omega) (fun x hx => ?_)
    rw [e1] at hx
    rcases List.mem_append.1 hx with hx | hx
    · have := List.mem_of_mem_take hx
      obtain ⟨g1, g2⟩ := fit_elem (fit_up _ _ h)
      exact g2 x this
    · obtain rfl : x = divN (l.drop k) := by simpa using hx
      exact ⟨by show (1 : Nat) ≤ 1000; omega, by show (0 : Nat) ≤ _; omega, fit_sub h (by show (l.drop k).length ≤ _; simp) (fun x hx => List.mem_of_mem_drop hx)⟩
theorem wk_fit : ∀ (d : Nat) (l : List S32), wk d l ≤ 60 → fit d l = true ∧ l.length ≤ 60
  | 0, l, h => by
    unfold wk at h
    split at h
    · rename_i he; subst he; exact ⟨rfl, by simp⟩
    · omega
  | d + 1, l, h => by
    rw [wk_succ] at h
    split at h
    · rename_i he; subst he; exact ⟨rfl, by simp⟩
    · split at h
      · omega
      · rename_i h60
        have go : ∀ (m : List S32) (n : Nat), wkLoop (wk d) n m ≤ 60 → n ≤ wkLoop (wk d) n m ∧ ∀ x ∈ m, x.f1.length ≤ 1000 ∧ x.f2.size ≤ 1000000 ∧ fit d x.f3 = true := by
          intro m
          induction m with
          | nil => intro n hn; exact ⟨Nat.le_refl _, fun x hx => by cases hx⟩
          | cons x r ih =>
            intro n hn
            rw [wkLoop_cons] at hn ⊢
            split at hn
            · omega
            · rename_i hn60
              rw [if_neg hn60]
              split at hn
              · omega
              · rename_i hb
                rw [if_neg hb]
                obtain ⟨i1, i2⟩ := ih _ hn
                refine ⟨by omega, fun y hy => ?_⟩
                rcases List.mem_cons.1 hy with rfl | hy
                · unfold bigN at hb
                  simp only [Bool.or_eq_true, decide_eq_true_eq, not_or] at hb
                  exact ⟨by omega, by omega, (wk_fit d y.f3 (by omega)).1⟩
                · exact i2 y hy
        exact ⟨fit_mk (by omega) (go l 0 h).2, by omega⟩
def small (l : List S32) : Bool := decide (wk 35 l ≤ 60)
theorem small_ev (l : List S32) : Ev (fun k => muslinref14_Small.f k l) (small l) := by
  simp only [muslinref14_Small.f]
  refine .bind (walk_ev 35 l (Nat.le_refl _)) (.of ?_)
  unfold small
  congr 1
  exact decide_eq_decide.2 (by omega)
theorem small_fit {l : List S32} (h : small l = true) : fit 35 l = true ∧ l.length ≤ 60 := wk_fit 35 l (of_decide_eq_true h)
end Go.Proofs.YtdgdilbbpnlplaaDoor.Pure
