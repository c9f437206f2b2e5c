/- PlainQuoted: the plain law. -/
import Derived.Test.YthnbhcmekkadeaaPureLive
import Derived.Test.YthnbhcmekkadeaaPureRefCut
import Derived.Test.YthnbhcmekkadeaaPrx12
set_option linter.unusedVariables false
set_option linter.unusedSimpArgs false
namespace Go.Proofs.Ythnbhcmekkadeaa.Pure
open Go Go.RowKit Go.Proofs.Ythnbhcmekkadeaa.Pr Go.Proofs.YthnbhcmekkadeaaW.PrintWords Go.Proofs.YthnbhcmekkadeaaW.PrintLast Plain

def up1 (x : S44) : S44 := ⟨x.f0 + 1, x.f1⟩
theorem lead_up (lv : Int) : ∀ M : List S44, lead (lv + 1) (M.map up1) = lead lv M
  | [] => rfl
  | x :: r => by
    show (if lv + 1 < x.f0 + 1 then lead (lv + 1) (r.map up1) + 1 else 0) = if lv < x.f0 then lead lv r + 1 else 0
    rw [lead_up lv r]
    by_cases h : lv < x.f0
    · rw [if_pos h, if_pos (by omega)]
    · rw [if_neg h, if_neg (by omega)]
theorem brks_up (lv : Int) (M : List S44) : brks (lv + 1) (M.map up1) = brks lv M := by
  cases M with
  | nil => rfl
  | cons x r =>
    show (if x.f0 + 1 ≤ lv + 1 then [bNode] else []) = if x.f0 ≤ lv then [bNode] else []
    by_cases h : x.f0 ≤ lv
    · rw [if_pos h, if_pos (by omega)]
    · rw [if_neg h, if_neg (by omega)]
theorem rowsGo_up (q1 q2 : List S44 → List S36) (lv : Int) : ∀ (n : Nat) (M : List S44), (∀ S : List S44, (∀ x ∈ S, x ∈ M) → (∃ x ∈ S, lv < x.f0) → q1 (S.map up1) = q2 S) → rowsGo q1 (lv + 1) n (M.map up1) = rowsGo q2 lv n M
  | 0, _, _ => rfl
  | n + 1, [], _ => rfl
  | n + 1, x :: r, h => by
    show (if lv + 1 < x.f0 + 1 then qNode (q1 (((x :: r).map up1).take (lead (lv + 1) ((x :: r).map up1)))) :: rowsGo q1 (lv + 1) n (((x :: r).map up1).drop (lead (lv + 1) ((x :: r).map up1)))
      else txts x.f1 ++ brks (lv + 1) (r.map up1) ++ rowsGo q1 (lv + 1) n (r.map up1)) = if lv < x.f0 then qNode (q2 ((x :: r).take (lead lv (x :: r)))) :: rowsGo q2 lv n ((x :: r).drop (lead lv (x :: r)))
      else txts x.f1 ++ brks lv r ++ rowsGo q2 lv n r
    rw [lead_up, ← List.map_take, ← List.map_drop, brks_up]
    by_cases hx : lv < x.f0
    · rw [if_pos hx, if_pos (by omega)]
      have hl := lead_pos (r := r) hx
      rw [h _ (fun y hy => List.mem_of_mem_take hy) ⟨x, by
        obtain ⟨m, hm⟩ : ∃ m, lead lv (x :: r) = m + 1 := ⟨lead lv (x :: r) - 1, by omega⟩
        rw [hm]; simp, hx⟩]
      rw [rowsGo_up q1 q2 lv n _ (fun S hS => h S (fun y hy => List.mem_of_mem_drop (hS y hy)))]
    · rw [if_neg hx, if_neg (by omega), rowsGo_up q1 q2 lv n r (fun S hS => h S (fun y hy => List.mem_cons_of_mem _ (hS y hy)))]
theorem rowsD_up : ∀ (d d' : Nat) (lv : Int) (M : List S44), (∀ x ∈ M, x.f0 ≤ lv + d ∧ x.f0 ≤ lv + d') → rowsD d (lv + 1) (M.map up1) = rowsD d' lv M := by
  intro d
  induction d with
  | zero =>
    intro d' lv M h
    rw [rowsD_go, rowsD_go, List.length_map]
    refine rowsGo_up _ _ lv _ M (fun S hS hx => ?_)
    obtain ⟨x, hx, hlt⟩ := hx
    have := (h x (hS x hx)).1
    exfalso; simp at this; omega
  | succ d ih =>
    intro d' lv M h
    rw [rowsD_go, rowsD_go, List.length_map]
    refine rowsGo_up _ _ lv _ M (fun S hS hx => ?_)
    obtain ⟨x, hx, hlt⟩ := hx
    have h2 := (h x (hS x hx)).2
    obtain ⟨e, rfl⟩ : ∃ e, d' = e + 1 := ⟨d' - 1, by omega⟩
    show rowsD d (lv + 1 + 1) (S.map up1) = rowsD e (lv + 1) S
    refine ih e (lv + 1) S (fun y hy => ?_)
    have h3 := h y (hS y hy)
    push_cast at h3
    constructor <;> omega
theorem cutL_no10 : ∀ (n : Nat) (s : List UInt8), s.length ≤ n → ∀ x ∈ cutL s, 10 ∉ x := by
  intro n
  induction n with
  | zero =>
    intro s h x hx
    obtain rfl : s = [] := List.eq_nil_of_length_eq_zero (by omega)
    rw [cutL_nil] at hx; cases hx
  | succ n ih =>
    intro s h x hx
    by_cases h0 : s = []
    · subst h0; rw [cutL_nil] at hx; cases hx
    · have hl := (lineOf_len s).2.2 h0
      rw [lineOf_brk] at hl
      rw [cutL_cons h0] at hx
      rcases List.mem_cons.1 hx with rfl | hx
      · have h1 := (brk1_spec 10 s).1
        split
        · intro h2
          rw [chop_eq] at h2
          split at h2
          · exact h1 (List.mem_of_mem_take h2)
          · exact h1 h2
        · exact h1
      · exact ih _ (by simp only at hl; omega) x hx
theorem cutL_quoteL : ∀ L : List (List UInt8), (∀ x ∈ L, 10 ∉ x ∧ 13 ∉ x) → cutL (quoteL L) = L.map fun l => 62 :: 32 :: l
  | [], _ => by rw [show quoteL [] = [] from rfl, cutL_nil]; rfl
  | l :: L, h => by
    obtain ⟨h1, h2⟩ := h l (by simp)
    have e : quoteL (l :: L) = (62 :: 32 :: l) ++ 10 :: quoteL L := by rw [quoteL_cons]; simp
    rw [e, cutL_cons (by simp), brk1_hit 10 _ _ (by simp [h1]), if_pos rfl, chop_id _ (by simp [h2]), cutL_quoteL L (fun x hx => h x (List.mem_cons_of_mem _ hx))]
    rfl
theorem mkRow_up (l : List UInt8) (h : (levL 20 l).1 ≤ 18) : mkRow (62 :: 32 :: l) = up1 (mkRow l) := by
  have := (levL_up (32 :: l)).2 (by show (levL 20 l).1 ≠ 20; omega)
  have e : strip (32 :: l) = l := rfl
  rw [e] at this
  unfold mkRow up1
  rw [this]
  simp
theorem quoteL_len : ∀ (L : List (List UInt8)) , (quoteL L).length = 3 * L.length + (L.map List.length).sum
  | [] => rfl
  | l :: L => by
    rw [quoteL_cons, List.length_append, quoteL_len L]
    simp; omega
theorem cutL_sum : ∀ (n : Nat) (s : List UInt8), s.length ≤ n → ((cutL s).map List.length).sum ≤ s.length := by
  intro n
  induction n with
  | zero =>
    intro s h
    obtain rfl : s = [] := List.eq_nil_of_length_eq_zero (by omega)
    rw [cutL_nil]; simp
  | succ n ih =>
    intro s h
    by_cases h0 : s = []
    · subst h0; rw [cutL_nil]; simp
    · have hl := (lineOf_len s).2.2 h0
      rw [lineOf_brk] at hl
      have := ih (brk1 10 s).2.1 (by simp only at hl; omega)
      rw [cutL_cons h0, List.map_cons, List.sum_cons]
      cases hf : (brk1 10 s).2.2 with
      | false =>
        obtain ⟨e1, e2⟩ := brk_none s 10 hf
        rw [if_neg (by simp), e1, e2, cutL_nil]
        simp
      | true =>
        have e := (brk1_spec 10 s).2.1 hf
        have hc : (chop (brk1 10 s).1).length ≤ (brk1 10 s).1.length := trim_len _ _
        have h2 := congrArg List.length e
        rw [List.length_append, List.length_cons] at h2
        rw [if_pos rfl]
        omega
theorem quoteL_snoc (L : List (List UInt8)) (l : List UInt8) : quoteL (L ++ [l]) = quoteL L ++ (62 :: 32 :: (l ++ [10])) := by simp [quoteL]
theorem quoted_tree (s : List UInt8) (h : ∀ x ∈ cutL s, (levL 20 x).1 ≤ 18 ∧ 13 ∉ x) : treeL (quoteL (cutL s)) = if cutL s = [] then [] else [qNode (treeL s)] := by
  unfold treeL
  rw [cutL_quoteL _ (fun x hx => ⟨cutL_no10 _ s (Nat.le_refl _) x hx, (h x hx).2⟩)]
  have e1 : (((cutL s).map fun l => 62 :: 32 :: l).map mkRow) = ((cutL s).map mkRow).map up1 := by
    rw [List.map_map, List.map_map]
    exact List.map_congr_left (fun x hx => mkRow_up x (h x hx).1)
  rw [e1]
  have hM : ∀ x ∈ (cutL s).map mkRow, 0 ≤ x.f0 ∧ x.f0 ≤ 18 := by
    intro x hx
    obtain ⟨y, hy, rfl⟩ := List.mem_map.1 hx
    have := (h y hy).1
    show 0 ≤ (((levL 20 y).1 : Nat) : Int) ∧ (((levL 20 y).1 : Nat) : Int) ≤ 18
    omega
  have e0 : ((cutL s).map mkRow = []) ↔ cutL s = [] := by simp
  by_cases hn : cutL s = []
  · rw [if_pos hn, hn]; rfl
  · rw [if_neg hn]
    have hn2 := fun hh => hn (e0.1 hh)
    generalize (cutL s).map mkRow = M at *
    have hlead : ∀ M : List S44, (∀ x ∈ M, 0 ≤ x.f0 ∧ x.f0 ≤ 18) → lead 0 (M.map up1) = (M.map up1).length := by
      intro M
      induction M with
      | nil => intro _; rfl
      | cons x r ih =>
        intro hM
        have := (hM x (by simp)).1
        show (if 0 < x.f0 + 1 then lead 0 (r.map up1) + 1 else 0) = _
        rw [if_pos (by omega), ih (fun y hy => hM y (List.mem_cons_of_mem _ hy))]; rfl
    have hl := hlead M hM
    cases M with
    | nil => exact absurd rfl hn2
    | cons x r =>
      have hx := (hM x (by simp)).1
      rw [rowsD_go]
      rw [List.map_cons, rowsGo_quote _ _ _ _ (by show (0 : Int) < x.f0 + 1; omega), ← List.map_cons, hl]
      rw [List.take_of_length_le (Nat.le_refl _), List.drop_eq_nil_of_le (Nat.le_refl _)]
      show [qNode (rowsD 19 (0 + 1) ((x :: r).map up1))] = _
      rw [rowsD_up 19 20 0 (x :: r) (fun y hy => by have := hM y hy; constructor <;> (simp; omega))]
theorem PlainQuoted : muslinlaw20_PlainQuoted.Pure := by
  intro a0 _
  apply Ev.ex (f := fun k => muslinlaw20_PlainQuoted.f k a0)
  simp only [muslinlaw20_PlainQuoted.f]
  by_cases h : (a0.size : Int) > 2000
  · exact .ifp h liveb
  · refine .ifn h ?_
    have hs : a0.data.toList.length ≤ 2000 := by rw [← Lib.size_eq]; omega
    rw [B_of a0]
    generalize a0.data.toList = s at *
    clear h
    refine .bind (refCut s (by omega)) ?_
    have hcl := cutL_len s
    have hsum := cutL_sum _ s (Nat.le_refl _)
    have hmem := cutL_mem s _ s (Nat.le_refl _)
    have hq := quoteL_len (cutL s)
    have hfin := quoted_tree s
    generalize cutL s = L at *
    have l0 : ∀ (d i : Nat), L.length - i = d → i ≤ L.length → (∀ x ∈ L.take i, (levL 20 x).1 ≤ 18 ∧ 13 ∉ x) → Ev (fun k => muslinlaw20_PlainQuoted.l0 k (B s) (Pr.bytesOf L) (B (quoteL (L.take i))) (i : Int)) true := by
      intro d
      induction d with
      | zero =>
        intro i hd hi hx
        have hi2 : i = L.length := by omega
        subst hi2
        rw [List.take_of_length_le (Nat.le_refl _)] at hx ⊢
        have ht := hfin hx
        refine .succ ?_
        simp only [muslinlaw20_PlainQuoted.l0]
        refine .ifn (by rw [bytesOf_len]; omega) (.bind (plainTree s (by omega)) (.bind (plainTree (quoteL L) (by omega)) ?_))
        rw [ht]
        by_cases hL : L = []
        · subst hL
          exact .ifp rfl (.ifp rfl liveb)
        · rw [if_neg hL]
          have hlp : 0 < L.length := List.length_pos_iff.2 hL
          refine .ifn (by rw [bytesOf_len]; omega) (.ifp rfl (.ifp (by simp) (.ifp ?_ (.bind (same_refl 22 (treeL s) (treeL_fit s (by omega))) (.ifp (by trivial) liveb)))))
          show (qNode (treeL s)).f0.toList = _
          rw [Lib.toList_data]; rfl
      | succ d ih =>
        intro i hd hi hx
        have hil : i < L.length := by omega
        have hm := getL_mem L i hil
        have hxl := hmem _ hm
        have etk : L.take (i + 1) = L.take i ++ [L.getD i []] := by
          rw [List.take_add_one, List.getElem?_eq_getElem hil, List.getD_eq_getElem?_getD, List.getElem?_eq_getElem hil]; rfl
        have hql : (quoteL (L.take i)).length + (L.getD i []).length + 3 ≤ 1000000 := by
          have h1 : (L.take i).length ≤ 2000 := by rw [List.length_take]; omega
          have h2 : ∀ M : List (List UInt8), (∀ x ∈ M, x.length ≤ 2000) → (M.map List.length).sum ≤ 2000 * M.length := by
            intro M
            induction M with
            | nil => intro _; simp
            | cons x r ih =>
              intro hM
              have := ih (fun y hy => hM y (List.mem_cons_of_mem _ hy))
              have := hM x (by simp)
              rw [List.map_cons, List.sum_cons, List.length_cons]; omega
          have h4 : ∀ M : List (List UInt8), ∀ n, ((M.take n).map List.length).sum ≤ (M.map List.length).sum := by
            intro M
            induction M with
            | nil => intro n; simp
            | cons x r ih =>
              intro n
              cases n with
              | zero => simp
              | succ n => rw [List.take_succ_cons, List.map_cons, List.sum_cons, List.map_cons, List.sum_cons]; have := ih n; omega
          rw [quoteL_len]
          have := h4 L i
          omega
        refine .succ ?_
        simp only [muslinlaw20_PlainQuoted.l0]
        refine .ifp (by rw [bytesOf_len]; omega) (.ifp (by omega) ?_)
        rw [rd_bytes L i hil]
        refine .bind (plainLevel _) ?_
        by_cases hlv : (((levL 20 (L.getD i [])).1 : Nat) : Int) > 18
        · exact .ifp hlv liveb
        · refine .ifn hlv ?_
          have l1 : ∀ (e j : Nat), (L.getD i []).length - j = e → j ≤ (L.getD i []).length → (∀ m, m < j → (L.getD i []).getD m 0 ≠ 13) → Ev (fun k => muslinlaw20_PlainQuoted.l1 k (B s) (Pr.bytesOf L) (B (quoteL (L.take i))) (i : Int) (j : Int)) true := by
            intro e
            induction e with
            | zero =>
              intro j he hj hne
              have hno : 13 ∉ L.getD i [] := by
                intro hm13
                obtain ⟨m, hmm, hme⟩ := List.getElem_of_mem hm13
                exact hne m (by omega) (by rw [List.getD_eq_getElem?_getD, List.getElem?_eq_getElem hmm, hme]; rfl)
              have hnext := ih (i + 1) (by omega) (by omega) (fun x hx2 => by
                rw [etk] at hx2
                rcases List.mem_append.1 hx2 with h1 | h1
                · exact hx x h1
                · rw [List.mem_singleton] at h1
                  subst h1
                  exact ⟨by omega, hno⟩)
              rw [etk, quoteL_snoc] at hnext
              refine .succ ?_
              simp only [muslinlaw20_PlainQuoted.l1]
              rw [rd_bytes L i hil, lit [62, 32], lit [10], B_append, B_append, B_append]
              rw [show wrap64 ((i : Int) + 1) = ((i + 1 : Nat) : Int) from by rw [w64 (by omega) (by omega)]; omega]
              generalize L.getD i [] = y at *
              refine .ifp (by omega) (.ifp (by rw [bytesOf_len]; omega) (.ifn (by rw [B_size]; omega) (.ifp (by rw [B_size]; omega) (.ifp (by rw [B_size, B_size, List.length_append]; simp; omega) (.ifp (by rw [B_size, List.length_append, List.length_append]; simp; omega) ?_)))))
              have e3 : quoteL (L.take i) ++ [62, 32] ++ y ++ [10] = quoteL (L.take i) ++ (62 :: 32 :: (y ++ [10])) := by simp
              rw [e3]
              exact hnext
            | succ e ih2 =>
              intro j he hj hne
              refine .succ ?_
              simp only [muslinlaw20_PlainQuoted.l1]
              rw [rd_bytes L i hil, B_bt]
              rw [show wrap64 ((j : Int) + 1) = ((j + 1 : Nat) : Int) from by rw [w64 (by omega) (by omega)]; omega]
              refine .ifp (by omega) (.ifp (by rw [bytesOf_len]; omega) (.ifp (by rw [B_size]; omega) (.ifp (by omega) ?_)))
              by_cases hc : (L.getD i []).getD j 0 = 13
              · exact .ifp ((u8_int _ 13).2 hc) liveb
              · refine .ifn (fun hh => hc ((u8_int _ 13).1 hh)) (ih2 (j + 1) (by omega) (by omega) (fun m hm => ?_))
                by_cases hmj : m = j
                · subst hmj; exact hc
                · exact hne m (by omega)
          exact l1 _ 0 rfl (Nat.zero_le _) (fun m hm => absurd hm (by omega))
    exact l0 _ 0 rfl (Nat.zero_le _) (fun x hx => by simp at hx)
end Go.Proofs.Ythnbhcmekkadeaa.Pure
