/- FoldKeeps: the plain law. -/
import Derived.Test.YtdgdilbbpnlplaaDoorPureFold
import Derived.Test.YtdgdilbbpnlplaaDoorPrx7
set_option linter.unusedVariables false
set_option linter.unusedSimpArgs false
namespace Go.Proofs.YtdgdilbbpnlplaaDoor.Pure
open Go Go.RowKit Go.Proofs.YtdgdilbbpnlplaaDoor.Pr Go.Proofs.YtdgdilbbpnlplaaDoorW.PrintWords Go.Proofs.YtdgdilbbpnlplaaDoorW.PrintLast
def sumK (q : List S32 → Nat) : List S32 → Nat
  | [] => 0
  | x :: r => 1 + q x.f3 + sumK q r
def cnt : Nat → List S32 → Nat
  | 0, _ => 0
  | d + 1, l => sumK (cnt d) l
theorem sumK_app (q : List S32 → Nat) (a b : List S32) : sumK q (a ++ b) = sumK q a + sumK q b := by
  induction a with
  | nil => simp [sumK]
  | cons x r ih => rw [List.cons_append, sumK, sumK, ih]; omega
theorem sumK_eq {p q : List S32 → Nat} {l : List S32} (h : ∀ x ∈ l, p x.f3 = q x.f3) : sumK p l = sumK q l := by
  induction l with
  | nil => rfl
  | cons x r ih => rw [sumK, sumK, h x (by simp), ih (fun y hy => h y (by simp [hy]))]
theorem cnt_up : ∀ (d : Nat) (l : List S32), fit d l = true → cnt (d + 1) l = cnt d l
  | 0, l, h => by
    unfold fit at h
    cases l with
    | nil => rfl
    | cons _ _ => simp at h
  | d + 1, l, h => sumK_eq (fun x hx => cnt_up d x.f3 ((fit_elem h).2 x hx).2.2)
theorem cnt_wk : ∀ (d : Nat) (l : List S32), wk d l ≤ 60 → cnt d l = wk d l
  | 0, l, h => by
    unfold wk at h ⊢
    split at h
    · rename_i he; rw [if_pos he]; rfl
    · omega
  | d + 1, l, h => by
    rw [wk_succ] at h ⊢
    split at h
    · rename_i he; rw [if_pos he]; subst he; rfl
    · rename_i he
      rw [if_neg he]
      split at h
      · omega
      · rename_i h60
        rw [if_neg h60]
        have go : ∀ (m : List S32) (n : Nat), wkLoop (wk d) n m ≤ 60 → wkLoop (wk d) n m = n + sumK (cnt d) m := by
          intro m
          induction m with
          | nil => intro n hn; rfl
          | cons x r ih =>
            intro n hn
            rw [wkLoop_cons] at hn ⊢
            split at hn
            · omega
            · rename_i hn60
              rw [if_neg hn60]
              split at hn
              · omega
              · rename_i hb
                rw [if_neg hb]
                have h2 := ih _ hn
                have h3 := cnt_wk d x.f3 (by omega)
                rw [h2, sumK, h3]; omega
        rw [go l 0 h, Nat.zero_add]
        rfl
theorem rd_drop (l : List S32) (i : Nat) (h : i < l.length) : l.drop i = rd_T32 l (i : Int) :: l.drop (i + 1) := (rd_mem l i h).2
theorem count_ev : ∀ (d : Nat) (l : List S32), fit d l = true → cnt d l ≤ 1000000 → Ev (fun k => muslinref14_Count.f k l) ((cnt d l : Nat) : Int)
  | 0, l, h, _ => by
    unfold fit at h
    cases l with
    | nil =>
      refine .succ ?_
      simp only [muslinref14_Count.f]
      refine .succ ?_
      simp only [muslinref14_Count.l0]
      exact .ifn (by simp) (.of rfl)
    | cons _ _ => simp at h
  | d + 1, l, h, hc => by
    obtain ⟨hl, hx⟩ := fit_elem h
    have go : ∀ (m i n : Nat), l.length - i ≤ m → i ≤ l.length → n + sumK (cnt d) (l.drop i) ≤ 1000000 → Ev (fun k => muslinref14_Count.l0 k l (n : Int) (i : Int)) ((n + sumK (cnt d) (l.drop i) : Nat) : Int) := by
      intro m
      induction m with
      | zero =>
        intro i n hm hi hn
        refine .succ ?_
        simp only [muslinref14_Count.l0]
        refine .ifn (by omega) (.of ?_)
        rw [List.drop_eq_nil_of_le (by omega)]; rfl
      | succ m ih =>
        intro i n hm hi hn
        by_cases hlt : i < l.length
        · have hd := rd_drop l i hlt
          have hmem := (rd_mem l i hlt).1
          rw [hd, sumK] at hn ⊢
          have hk := count_ev d _ (hx _ hmem).2.2 (by omega)
          refine .succ ?_
          simp only [muslinref14_Count.l0]
          refine .ifp (by omega) (.ifp (by omega) (.bind hk ?_))
          rw [show wrap64 ((n : Int) + 1) = ((n + 1 : Nat) : Int) from by rw [w64 (by omega) (by omega)]; omega]
          rw [show wrap64 ((i : Int) + 1) = ((i + 1 : Nat) : Int) from by rw [w64 (by omega) (by omega)]; omega]
          rw [show wrap64 (((n + 1 : Nat) : Int) + ((cnt d (rd_T32 l (i : Int)).f3 : Nat) : Int)) = ((n + 1 + cnt d (rd_T32 l (i : Int)).f3 : Nat) : Int) from by rw [w64 (by omega) (by omega)]; omega]
          have := ih (i + 1) (n + 1 + cnt d (rd_T32 l (i : Int)).f3) (by omega) (by omega) (by omega)
          exact this.cast (by congr 1; omega)
        · refine .succ ?_
          simp only [muslinref14_Count.l0]
          refine .ifn (by omega) (.of ?_)
          rw [List.drop_eq_nil_of_le (by omega)]; rfl
    refine .succ ?_
    simp only [muslinref14_Count.f]
    have := go l.length 0 0 (by omega) (by omega) (by rw [Nat.zero_add]; exact hc)
    exact this.cast (by rw [Nat.zero_add]; rfl)
theorem cnt_fold {d : Nat} {l : List S32} {k : Nat} (hf : fit (d + 1) l = true) : cnt (d + 2) (l.take k ++ [divN (l.drop k)]) = cnt (d + 1) l + 1 := by
  have e1 : cnt (d + 2) (l.take k) = cnt (d + 1) (l.take k) := cnt_up _ _ (fit_sub hf (by rw [List.length_take]; omega) (fun x hx => List.mem_of_mem_take hx))
  have e2 : cnt (d + 1) l = cnt (d + 1) (l.take k) + cnt (d + 1) (l.drop k) := by
    have := sumK_app (cnt d) (l.take k) (l.drop k)
    rw [List.take_append_drop] at this
    exact this
  show sumK (cnt (d + 1)) (l.take k ++ [divN (l.drop k)]) = _
  rw [sumK_app]
  have e3 : sumK (cnt (d + 1)) (l.take k) = cnt (d + 1) (l.take k) := e1
  rw [e3, e2]
  show cnt (d + 1) (l.take k) + (1 + cnt (d + 1) (l.drop k) + 0) = _
  omega
theorem law_keeps (l : List S32) : Ev (fun k => muslinlaw21_FoldKeeps.f k l) true := by
  simp only [muslinlaw21_FoldKeeps.f]
  refine .bind (small_ev l) ?_
  cases hs : small l with
  | false => exact .ifn (by simp) (.bindc rfl (.of rfl))
  | true =>
    obtain ⟨hf, hl⟩ := small_fit hs
    have h100 : fit 100 l = true := fit_le hf 65
    have hw60 : wk 35 l ≤ 60 := of_decide_eq_true hs
    have hc := cnt_wk 35 l hw60
    have hcl := count_ev 35 l hf (by omega)
    refine .ifp (by trivial) (.bindc (where_f h100) (.bindc (fold_f h100) ?_))
    cases hw : (whereL l).2 with
    | false =>
      rw [fold_same hw]
      exact .ifn (by simp) (.ifp (where_zero hw) (.bind hcl (.bind hcl (.ifp rfl (.bindc rfl (.of rfl))))))
    | true =>
      obtain ⟨k, _, hk, ha, he⟩ := where_of hw
      obtain ⟨e1, e2⟩ := fold_len he hk
      have hfl : fit 36 (foldL l) = true := fit_fold hf (by omega)
      have hcf : cnt 36 (foldL l) = cnt 35 l + 1 := by rw [e1]; exact cnt_fold (d := 34) hf
      have hcfl := count_ev 36 (foldL l) hfl (by omega)
      have hk0 : 0 < k := by
        rcases Nat.eq_zero_or_pos k with h | h
        · subst h; simp at ha
        · exact h
      rw [he]
      refine .ifp (by trivial) (.bind hcfl (.bind hcl ?_))
      rw [show wrap64 (((cnt 35 l : Nat) : Int) + 1) = ((cnt 35 l + 1 : Nat) : Int) from by rw [w64 (by omega) (by omega)]; omega]
      rw [show wrap64 ((k : Int) + 1) = ((k + 1 : Nat) : Int) from by rw [w64 (by omega) (by omega)]; omega]
      exact .ifp (by rw [hcf]) (.ifp (by rw [e2]) (.ifp (by omega) (.bindc rfl (.of rfl))))
theorem FoldKeeps (l : List S32) : ∃ k, muslinlaw21_FoldKeeps.f k l = some true := (law_keeps l).ex
end Go.Proofs.YtdgdilbbpnlplaaDoor.Pure
