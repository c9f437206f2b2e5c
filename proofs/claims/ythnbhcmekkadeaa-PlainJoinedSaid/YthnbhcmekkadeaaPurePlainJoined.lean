/- PlainJoined: the plain law. -/
import Derived.Test.YthnbhcmekkadeaaPureLive
import Derived.Test.YthnbhcmekkadeaaPureRefCut
import Derived.Test.YthnbhcmekkadeaaPrx13
set_option linter.unusedVariables false
set_option linter.unusedSimpArgs false
namespace Go.Proofs.Ythnbhcmekkadeaa.Pure
open Go Go.RowKit Go.Proofs.Ythnbhcmekkadeaa.Pr Go.Proofs.YthnbhcmekkadeaaW.PrintWords Go.Proofs.YthnbhcmekkadeaaW.PrintLast Plain

theorem lead_app (lv : Int) (z : S44) (hz : z.f0 ≤ lv) (C : List S44) : ∀ A : List S44, lead lv (A ++ z :: C) = lead lv (A ++ [z]) ∧ lead lv (A ++ [z]) ≤ A.length
  | [] => by
    show (if lv < z.f0 then lead lv C + 1 else 0) = (if lv < z.f0 then lead lv [] + 1 else 0) ∧ (if lv < z.f0 then lead lv [] + 1 else 0) ≤ 0
    rw [if_neg (by omega), if_neg (by omega)]; exact ⟨rfl, Nat.le_refl _⟩
  | x :: A => by
    obtain ⟨h1, h2⟩ := lead_app lv z hz C A
    show (if lv < x.f0 then lead lv (A ++ z :: C) + 1 else 0) = (if lv < x.f0 then lead lv (A ++ [z]) + 1 else 0) ∧ (if lv < x.f0 then lead lv (A ++ [z]) + 1 else 0) ≤ A.length + 1
    rw [h1]
    refine ⟨rfl, ?_⟩
    split <;> omega
theorem rowsGo_app (q : List S44 → List S36) (lv : Int) (z : S44) (hz : z.f0 ≤ lv) (y : S44) (hy : y.f0 ≤ lv) (C : List S44) : ∀ (n : Nat) (A : List S44), A.length ≤ n →
    rowsGo q lv (A ++ z :: y :: C).length (A ++ z :: y :: C) = rowsGo q lv (A ++ [z]).length (A ++ [z]) ++ bNode :: rowsGo q lv (y :: C).length (y :: C) := by
  have hb : brks lv (y :: C) = [bNode] := by show (if y.f0 ≤ lv then [bNode] else []) = _; rw [if_pos hy]
  have base : rowsGo q lv (z :: y :: C).length (z :: y :: C) = rowsGo q lv [z].length [z] ++ bNode :: rowsGo q lv (y :: C).length (y :: C) := by
    rw [rowsGo_line q lv z _ (by omega), rowsGo_line q lv z [] (by omega), hb]
    simp [brks, rowsGo]
  intro n
  induction n with
  | zero =>
    intro A h
    obtain rfl : A = [] := List.eq_nil_of_length_eq_zero (by omega)
    exact base
  | succ n ih =>
    intro A h
    cases A with
    | nil => exact base
    | cons x r =>
      simp only [List.length_cons] at h
      rw [List.cons_append, List.cons_append]
      by_cases hx : lv < x.f0
      · obtain ⟨h1, h2⟩ := lead_app lv z hz (y :: C) (x :: r)
        rw [List.cons_append, List.cons_append] at h1
        rw [List.cons_append] at h2
        have hp := lead_pos (r := r ++ [z]) hx
        rw [rowsGo_quote q lv x _ hx, rowsGo_quote q lv x (r ++ [z]) hx, h1]
        generalize lead lv (x :: (r ++ [z])) = m at *
        obtain ⟨m, rfl⟩ : ∃ j, m = j + 1 := ⟨m - 1, by omega⟩
        simp only [List.length_cons] at h2
        have t1 : (x :: (r ++ z :: y :: C)).take (m + 1) = (x :: (r ++ [z])).take (m + 1) := by
          rw [List.take_succ_cons, List.take_succ_cons, List.take_append_of_le_length (by omega), List.take_append_of_le_length (by omega)]
        have t2 : (x :: (r ++ z :: y :: C)).drop (m + 1) = r.drop m ++ z :: y :: C := by
          rw [List.drop_succ_cons, List.drop_append_of_le_length (by omega)]
        have t3 : (x :: (r ++ [z])).drop (m + 1) = r.drop m ++ [z] := by
          rw [List.drop_succ_cons, List.drop_append_of_le_length (by omega)]
        rw [t1, t2, t3, ih (r.drop m) (by rw [List.length_drop]; omega)]
        rfl
      · rw [rowsGo_line q lv x _ hx, rowsGo_line q lv x (r ++ [z]) hx, ih r (by omega)]
        have e : brks lv (r ++ z :: y :: C) = brks lv (r ++ [z]) := by cases r <;> rfl
        rw [e, List.append_assoc]
        simp
theorem cutL_app (u : List UInt8) : ∀ (n : Nat) (s : List UInt8), s.length ≤ n → s ≠ [] → s.getLast? ≠ some 10 → s.getLast? ≠ some 13 → cutL (s ++ 10 :: u) = cutL s ++ cutL u := by
  intro n
  induction n with
  | zero =>
    intro s h h0
    exact absurd (List.eq_nil_of_length_eq_zero (by omega)) h0
  | succ n ih =>
    intro s h h0 h10 h13
    have hsp := brk1_spec 10 s
    rw [cutL_cons h0]
    cases hf : (brk1 10 s).2.2 with
    | false =>
      obtain ⟨e1, e2⟩ := brk_none s 10 hf
      rw [if_neg (by simp), e1, e2, cutL_nil]
      rw [e1] at hsp
      rw [cutL_cons (by simp), brk1_hit 10 s u hsp.1, if_pos rfl]
      have hc : chop s = s := by
        rcases List.eq_nil_or_concat s with rfl | ⟨b, c, rfl⟩
        · exact chop_nil
        · rw [List.concat_eq_append] at h13 ⊢
          rw [chop_snoc, if_neg]
          rintro rfl
          exact h13 (by simp)
      show chop s :: cutL u = _
      rw [hc]; rfl
    | true =>
      have e := hsp.2.1 hf
      rw [if_pos rfl]
      have hn := hsp.1
      generalize (brk1 10 s).1 = a at *
      generalize (brk1 10 s).2.1 = b at *
      subst e
      have hb : b ≠ [] := by rintro rfl; exact h10 (by simp)
      have hl : (a ++ 10 :: b).getLast? = b.getLast? := by
        rw [List.getLast?_append, List.getLast?_cons]
        cases hx : b.getLast? with
        | none => rw [List.getLast?_eq_none_iff] at hx; exact absurd hx hb
        | some x => rfl
      rw [hl] at h10 h13
      have e2 : a ++ 10 :: b ++ 10 :: u = a ++ 10 :: (b ++ 10 :: u) := by simp
      rw [e2, cutL_cons (by simp), brk1_hit 10 a _ hn, if_pos rfl]
      show chop a :: cutL (b ++ 10 :: u) = _
      rw [ih b (by simp at h; omega) hb h10 h13]; rfl
theorem cutL_joined (s t : List UInt8) (h0 : s ≠ []) (h10 : s.getLast? ≠ some 10) (h13 : s.getLast? ≠ some 13) : cutL (s ++ [10, 10] ++ t) = cutL s ++ [] :: cutL t := by
  have e : s ++ [10, 10] ++ t = s ++ 10 :: (10 :: t) := by simp
  rw [e, cutL_app _ _ s (Nat.le_refl _) h0 h10 h13, cutL_cons (l := 10 :: t) (by simp)]
  have e2 : brk1 10 (10 :: t) = ([], t, true) := brk1_hit 10 [] t (by simp)
  rw [e2, if_pos rfl]
  show _ ++ chop [] :: cutL t = _
  rw [chop_nil]
theorem joined_tree (s t : List UInt8) (h0 : s ≠ []) (h10 : s.getLast? ≠ some 10) (h13 : s.getLast? ≠ some 13) (A : List (List UInt8)) (z : List UInt8) (hA : cutL s = A ++ [z]) (hz : (levL 20 z).1 = 0)
    (y : List UInt8) (C : List (List UInt8)) (hC : cutL t = y :: C) (hy : (levL 20 y).1 = 0) : treeL (s ++ [10, 10] ++ t) = treeL s ++ [bNode] ++ [bNode] ++ treeL t := by
  unfold treeL
  have hz2 : (mkRow z).f0 ≤ 0 := by show (((levL 20 z).1 : Nat) : Int) ≤ 0; omega
  have hy2 : (mkRow y).f0 ≤ 0 := by show (((levL 20 y).1 : Nat) : Int) ≤ 0; omega
  have he : (mkRow []).f0 ≤ 0 := by decide
  rw [cutL_joined s t h0 h10 h13, hA, hC, rowsD_go, rowsD_go, rowsD_go]
  simp only [List.map_append, List.map_cons, List.map_nil, List.append_assoc, List.cons_append, List.nil_append]
  rw [rowsGo_app _ 0 (mkRow z) hz2 (mkRow []) he _ _ _ (Nat.le_refl _)]
  have h2 := rowsGo_app (inner 20 0) 0 (mkRow []) he (mkRow y) hy2 (C.map mkRow) 0 [] (Nat.le_refl _)
  rw [List.nil_append, List.nil_append] at h2
  rw [h2]
  have h3 : rowsGo (inner 20 0) 0 [mkRow []].length [mkRow []] = [] := by
    rw [rowsGo_line _ _ _ _ (by omega)]; rfl
  rw [h3]
  rfl
theorem PlainJoined : muslinlaw20_PlainJoined.Pure := by
  intro a0 a1 _ _
  apply Ev.ex (f := fun k => muslinlaw20_PlainJoined.f k a0 a1)
  simp only [muslinlaw20_PlainJoined.f]
  have out : Ev (fun k => muslinlaw20_PlainJoined.j0 k a0 a1 true) true := by
    refine .succ ?_
    simp only [muslinlaw20_PlainJoined.j0]
    exact .ifp (by trivial) liveb
  by_cases h : (a0.size : Int) > 1000
  · exact .ifp h out
  · refine .ifn h ?_
    by_cases h1 : (a1.size : Int) > 1000
    · exact .ifp h1 out
    · refine .ifn h1 ?_
      have hs : a0.data.toList.length ≤ 1000 := by rw [← Lib.size_eq]; omega
      have ht : a1.data.toList.length ≤ 1000 := by rw [← Lib.size_eq]; omega
      rw [B_of a0, B_of a1] at *
      rw [B_data] at hs ht
      generalize a0.data.toList = s at *
      generalize a1.data.toList = t at *
      clear h h1
      by_cases h0 : s = []
      · exact .ifp (by simpa using h0) out
      · refine .ifn (by simpa using h0) ?_
        by_cases ht0 : t = []
        · subst ht0
          have e : ((B []).toList == ([] : List UInt8)) = true := by rw [B_list]; rfl
          rw [e]; exact out
        · have e : ((B t).toList == ([] : List UInt8)) = false := by rw [B_list]; cases t with | nil => exact absurd rfl ht0 | cons x r => rfl
          rw [e]
          clear e out
          have hls := cutL_len s
          have hlt := cutL_len t
          have hsp : 0 < s.length := List.length_pos_iff.2 h0
          obtain ⟨A, z, hA⟩ : ∃ A z, cutL s = A ++ [z] := by
            rcases List.eq_nil_or_concat (cutL s) with h | ⟨A, z, h⟩
            · rw [cutL_cons h0] at h; cases h
            · exact ⟨A, z, by rw [h, List.concat_eq_append]⟩
          obtain ⟨y, C, hC⟩ : ∃ y C, cutL t = y :: C := ⟨_, _, cutL_cons ht0⟩
          refine .succ ?_
          simp only [muslinlaw20_PlainJoined.j0]
          refine .ifn (by simp) (.bind (refCut s (by omega)) (.bind (refCut t (by omega)) ?_))
          have hAl : (Pr.bytesOf (cutL s)).length = A.length + 1 := by rw [bytesOf_len, hA]; simp
          have hAb : A.length + 1 ≤ 1000 := by rw [hA] at hls; simp at hls; omega
          rw [hAl, show wrap64 (((A.length + 1 : Nat) : Int) - 1) = (A.length : Int) from by rw [w64 (by omega) (by omega)]; omega]
          refine .ifp (by omega) (.ifp (by omega) ?_)
          have e1 : rdOf ByteArray.empty (Pr.bytesOf (cutL s)) (A.length : Int) = B z := by
            rw [rd_bytes _ _ (by rw [hA]; simp), hA]; congr 1; simp
          have e2 : rdOf ByteArray.empty (Pr.bytesOf (cutL t)) 0 = B y := by
            rw [show (0 : Int) = ((0 : Nat) : Int) from rfl, rd_bytes _ _ (by rw [hC]; simp), hC]; rfl
          rw [e1, e2]
          refine .bind (plainLevel z) (.ifp (by rw [bytesOf_len, hC]; simp; try omega) (.bind (plainLevel y) ?_))
          have out1 : Ev (fun k => muslinlaw20_PlainJoined.j1 k (B s) (B t) true) true := by
            refine .succ ?_
            simp only [muslinlaw20_PlainJoined.j1]
            exact .ifp (by trivial) liveb
          by_cases hz : (((levL 20 z).1 : Nat) : Int) > 0
          · exact .ifp hz out1
          · refine .ifn hz ?_
            by_cases hy : (((levL 20 y).1 : Nat) : Int) > 0
            · exact .ifp hy out1
            · refine .ifn hy ?_
              rw [show wrap64 (((B s).size : Int) - 1) = ((s.length - 1 : Nat) : Int) from by rw [B_size, w64 (by omega) (by omega)]; omega]
              rw [B_bt]
              refine .ifp (by omega) (.ifp (by rw [B_size]; omega) ?_)
              have hg : ∀ c : UInt8, s.getLast? = some c → s.getD (s.length - 1) 0 = c := by
                intro c hc
                rw [List.getLast?_eq_getElem?] at hc
                rw [List.getD_eq_getElem?_getD, hc]; rfl
              by_cases h10 : s.getD (s.length - 1) 0 = 10
              · exact .ifp ((u8_int _ 10).2 h10) out1
              · refine .ifn (fun hh => h10 ((u8_int _ 10).1 hh)) ?_
                by_cases h13 : s.getD (s.length - 1) 0 = 13
                · rw [show ((((s.getD (s.length - 1) 0).toNat : Nat) : Int) == 13) = true from by rw [h13]; rfl]
                  exact out1
                · rw [show ((((s.getD (s.length - 1) 0).toNat : Nat) : Int) == 13) = false from by rw [beq_eq_false_iff_ne]; exact fun hh => h13 ((u8_int _ 13).1 hh)]
                  have hj := joined_tree s t h0 (fun hh => h10 (hg _ hh)) (fun hh => h13 (hg _ hh)) A z hA (by omega) y C hC (by omega)
                  have f1 := (treeL_fit s (by omega)).1
                  have f2 := (treeL_fit t (by omega)).1
                  refine .succ ?_
                  simp only [muslinlaw20_PlainJoined.j1]
                  refine .ifn (by decide) (.bind (plainTree s (by omega)) (.ifp (by simp; try omega) (.bindc rfl (.ifp (by simp; try omega) (.bindc rfl (.ifp (by simp; try omega) (.bindc rfl (.bind (plainTree t (by omega)) (.ifp (by simp; try omega) (.ifp (by rw [B_size]; omega) (.ifp ?_ ?_)))))))))))
                  · rw [lit [10, 10], B_append, B_size, B_size, List.length_append]; simp; omega
                  · rw [lit [10, 10], B_append, B_append]
                    refine .bind (plainTree (s ++ [10, 10] ++ t) (by simp; try omega)) ?_
                    have e3 : [] ++ treeL s ++ [(⟨(⟨#[98, 114]⟩ : ByteArray), ([] : List (S51)), (⟨#[]⟩ : ByteArray), ([] : List (S36))⟩ : S36)] ++ [(⟨(⟨#[98, 114]⟩ : ByteArray), ([] : List (S51)), (⟨#[]⟩ : ByteArray), ([] : List (S36))⟩ : S36)] ++ treeL t = treeL (s ++ [10, 10] ++ t) := by rw [hj]; rfl
                    rw [e3]
                    exact .bind (same_refl 22 _ (treeL_fit _ (by simp; try omega))) (.ifp (by trivial) liveb)
end Go.Proofs.Ythnbhcmekkadeaa.Pure
