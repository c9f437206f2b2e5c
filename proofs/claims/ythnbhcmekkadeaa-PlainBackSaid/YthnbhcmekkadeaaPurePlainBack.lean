/- PlainBack: the plain law. -/
import Derived.Test.YthnbhcmekkadeaaPureLive
import Derived.Test.YthnbhcmekkadeaaPrx10
set_option linter.unusedVariables false
set_option linter.unusedSimpArgs false
namespace Go.Proofs.Ythnbhcmekkadeaa.Pure
open Go Go.RowKit Go.Proofs.Ythnbhcmekkadeaa.Pr Go.Proofs.YthnbhcmekkadeaaW.PrintWords Go.Proofs.YthnbhcmekkadeaaW.PrintLast Plain

def joinL : List (List UInt8) → List UInt8
  | [] => []
  | [l] => l
  | l :: m :: r => l ++ 10 :: joinL (m :: r)
theorem cutL_ne {b : List UInt8} (h : b ≠ []) : cutL b ≠ [] := by rw [cutL_cons h]; simp
theorem join_cut : ∀ (n : Nat) (s : List UInt8), s.length ≤ n → 13 ∉ s → joinL (cutL s) = if s.getLast? = some 10 then s.dropLast else s := by
  intro n
  induction n with
  | zero =>
    intro s h _
    obtain rfl : s = [] := List.eq_nil_of_length_eq_zero (by omega)
    rw [cutL_nil]; rfl
  | succ n ih =>
    intro s h h13
    by_cases h0 : s = []
    · subst h0; rw [cutL_nil]; rfl
    · rw [cutL_cons h0]
      have hsp := brk1_spec 10 s
      cases hf : (brk1 10 s).2.2 with
      | false =>
        obtain ⟨e1, e2⟩ := brk_none s 10 hf
        rw [if_neg (by simp), e1, e2, cutL_nil]
        have : s.getLast? ≠ some 10 := by
          intro hl
          have := List.mem_of_getLast? hl
          rw [e1] at hsp
          exact hsp.1 this
        rw [if_neg this]; rfl
      | true =>
        have e := hsp.2.1 hf
        rw [if_pos rfl]
        generalize (brk1 10 s).1 = a at *
        generalize (brk1 10 s).2.1 = b at *
        subst e
        rw [chop_id a (fun h => h13 (by simp [h]))]
        by_cases hb : b = []
        · subst hb
          rw [cutL_nil]
          simp [joinL]
        · have hc := ih b (by simp at h; omega) (fun h => h13 (by simp [h]))
          obtain ⟨m, r, hm⟩ : ∃ m r, cutL b = m :: r := by
            cases hcb : cutL b with
            | nil => exact absurd hcb (cutL_ne hb)
            | cons m r => exact ⟨m, r, rfl⟩
          rw [hm] at hc ⊢
          show a ++ 10 :: joinL (m :: r) = _
          rw [hc]
          have e1 : (a ++ 10 :: b).getLast? = b.getLast? := by
            rw [List.getLast?_append, List.getLast?_cons]
            cases hx : b.getLast? with
            | none => rw [List.getLast?_eq_none_iff] at hx; exact absurd hx hb
            | some x => rfl
          have e2 : (a ++ 10 :: b).dropLast = a ++ 10 :: b.dropLast := by
            rw [List.dropLast_append_of_ne_nil (by simp), List.dropLast_cons_of_ne_nil hb]
          rw [e1, e2]
          split <;> rfl
/-- No carriage return, and no line begins with a sign. -/
def Beg (s : List UInt8) : Prop := ∀ i, i < s.length → s.getD i 0 ≠ 13 ∧ ¬ (s.getD i 0 = 62 ∧ (i = 0 ∨ s.getD (i - 1) 0 = 10))
theorem Beg_13 {s : List UInt8} (h : Beg s) : 13 ∉ s := by
  intro hm
  obtain ⟨i, hi, e⟩ := List.getElem_of_mem hm
  exact (h i hi).1 (by rw [List.getD_eq_getElem?_getD, List.getElem?_eq_getElem hi, e]; rfl)
theorem Beg_rest {a b : List UInt8} (h : Beg (a ++ 10 :: b)) : Beg b := by
  intro i hi
  have h1 := h (a.length + 1 + i) (by simp; try omega)
  have e (j : Nat) : (a ++ 10 :: b).getD (a.length + 1 + j) 0 = b.getD j 0 := by
    rw [List.getD_eq_getElem?_getD, List.getElem?_append_right (by omega), List.getD_eq_getElem?_getD]
    rw [show a.length + 1 + j - a.length = j + 1 by omega, List.getElem?_cons_succ]
  rw [e] at h1
  refine ⟨h1.1, fun h2 => h1.2 ⟨h2.1, Or.inr ?_⟩⟩
  by_cases hz : i = 0
  · subst hz
    rw [show a.length + 1 + 0 - 1 = a.length by omega]
    simp
  · rw [show a.length + 1 + i - 1 = a.length + 1 + (i - 1) by omega, e]
    rcases h2.2 with h3 | h3
    · exact absurd h3 hz
    · exact h3
theorem Beg_lines : ∀ (n : Nat) (s : List UInt8), s.length ≤ n → Beg s → ∀ x ∈ cutL s, levL 20 x = (0, x) := by
  have key : ∀ x : List UInt8, (∀ r, x ≠ 62 :: r) → levL 20 x = (0, x) := by
    intro x hx
    cases x with
    | nil => rfl
    | cons c r => rw [levL_cons, if_neg]; rintro rfl; exact hx r rfl
  intro n
  induction n with
  | zero =>
    intro s h _ x hx
    obtain rfl : s = [] := List.eq_nil_of_length_eq_zero (by omega)
    rw [cutL_nil] at hx; cases hx
  | succ n ih =>
    intro s h hB x hx
    by_cases h0 : s = []
    · subst h0; rw [cutL_nil] at hx; cases hx
    · have hlen : 0 < s.length := List.length_pos_iff.2 h0
      have h13 := Beg_13 hB
      have hfst : ∀ r, s ≠ 62 :: r := by
        rintro r rfl
        exact (hB 0 hlen).2 ⟨rfl, Or.inl rfl⟩
      rw [cutL_cons h0] at hx
      have hsp := brk1_spec 10 s
      cases hf : (brk1 10 s).2.2 with
      | false =>
        obtain ⟨e1, e2⟩ := brk_none s 10 hf
        rw [hf, if_neg (by simp), e1, e2, cutL_nil] at hx
        obtain rfl := List.mem_singleton.1 hx
        exact key _ hfst
      | true =>
        have e := hsp.2.1 hf
        rw [hf, if_pos rfl] at hx
        generalize (brk1 10 s).1 = a at *
        generalize (brk1 10 s).2.1 = b at *
        subst e
        rw [chop_id a (fun h => h13 (by simp [h]))] at hx
        rcases List.mem_cons.1 hx with rfl | hx
        · refine key _ ?_
          rintro r rfl
          exact hfst _ rfl
        · exact ih b (by simp at h; omega) (Beg_rest hB) x hx
def flat : List (List UInt8) → List S36
  | [] => []
  | l :: r => (if l = [] then [] else [tNode (B l)]) ++ (if r = [] then [] else [bNode]) ++ flat r
theorem rowsGo_flat (q : List S44 → List S36) : ∀ L : List (List UInt8), (∀ x ∈ L, levL 20 x = (0, x)) → rowsGo q 0 (L.map mkRow).length (L.map mkRow) = flat L
  | [], _ => rfl
  | l :: r, h => by
    have hl : mkRow l = ⟨0, B l⟩ := by unfold mkRow; rw [h l (by simp)]; rfl
    rw [List.map_cons, hl, rowsGo_line _ _ _ _ (by simp), rowsGo_flat q r (fun x hx => h x (List.mem_cons_of_mem _ hx))]
    have e1 : txts (B l) = if l = [] then [] else [tNode (B l)] := by
      unfold txts
      by_cases h0 : l = []
      · subst h0; rfl
      · rw [if_neg h0, if_neg]; rw [B_size]; intro h1; exact h0 (List.eq_nil_of_length_eq_zero h1)
    have e2 : brks 0 (r.map mkRow) = if r = [] then [] else [bNode] := by
      cases r with
      | nil => rfl
      | cons m r =>
        have hm : mkRow m = ⟨0, B m⟩ := by unfold mkRow; rw [h m (by simp)]; rfl
        rw [List.map_cons, hm]; rfl
    rw [e1, e2]; rfl
theorem fold_flat (tx : List S36 → List UInt8) : ∀ (L : List (List UInt8)) (out : List UInt8), (flat L).foldl (stepT tx) out = out ++ joinL L
  | [], out => by simp [flat, joinL]
  | l :: r, out => by
    have e1 : ((if l = [] then [] else [tNode (B l)]) : List S36).foldl (stepT tx) out = out ++ l := by
      by_cases h0 : l = []
      · rw [if_pos h0, h0]; simp
      · rw [if_neg h0]
        show stepT tx out (tNode (B l)) = _
        unfold stepT
        rw [if_pos (by simp [tNode, Lib.toList_data])]
        rfl
    have e2 (o : List UInt8) : ((if r = [] then [] else [bNode]) : List S36).foldl (stepT tx) o = if r = [] then o else o ++ [10] := by
      by_cases h0 : r = []
      · rw [if_pos h0, if_pos h0]; rfl
      · rw [if_neg h0, if_neg h0]
        show stepT tx o bNode = _
        unfold stepT
        rw [if_neg (by simp [bNode, Lib.toList_data]), if_pos (by simp [bNode, Lib.toList_data])]
    rw [flat, List.foldl_append, List.foldl_append, e1, e2, fold_flat tx r]
    cases r with
    | nil => simp [joinL]
    | cons m r => rw [if_neg (by simp)]; simp [joinL]
theorem flat_mem : ∀ (L : List (List UInt8)) (x : S36), x ∈ flat L → x.f3 = []
  | [], _, h => by cases h
  | l :: r, x, h => by
    rw [flat] at h
    rcases List.mem_append.1 h with h | h
    · rcases List.mem_append.1 h with h | h
      · split at h
        · cases h
        · obtain rfl := List.mem_singleton.1 h; rfl
      · split at h
        · cases h
        · obtain rfl := List.mem_singleton.1 h; rfl
    · exact flat_mem r x h
theorem back_text (s : List UInt8) (hs : s.length ≤ 3000) (hB : Beg s) : ∃ t, Ev (fun k => plain_Tree.f k (B s)) t ∧ Ev (fun k => plain_Text.f k t) (B (if s.getLast? = some 10 then s.dropLast else s)) := by
  refine ⟨treeL s, plainTree s (by omega), ?_⟩
  have e : treeL s = flat (cutL s) := by
    unfold treeL; rw [rowsD_go, rowsGo_flat _ _ (Beg_lines _ s (Nat.le_refl _) hB)]
  have ht : txt 1 (treeL s) = if s.getLast? = some 10 then s.dropLast else s := by
    rw [e, ← join_cut _ s (Nat.le_refl _) (Beg_13 hB)]
    show (flat (cutL s)).foldl (stepT (txt 0)) [] = _
    rw [fold_flat]; rfl
  have ok : TOk 1 (treeL s) := by
    refine ⟨(treeL_fit s (by omega)).1, ?_, ?_⟩
    · rw [ht]
      split
      · rw [List.length_dropLast]; omega
      · omega
    · intro x hx
      rw [e] at hx
      exact flat_mem _ _ hx
  have := plainText 1 (treeL s) ok
  rwa [ht] at this
theorem getLast_get (s : List UInt8) (h : s ≠ []) (c : UInt8) : s.getLast? = some c ↔ s.getD (s.length - 1) 0 = c := by
  have hl : 0 < s.length := List.length_pos_iff.2 h
  rw [List.getLast?_eq_getElem?, List.getD_eq_getElem?_getD, List.getElem?_eq_getElem (by omega)]
  simp
theorem PlainBack : muslinlaw20_PlainBack.Pure := by
  intro a0 _
  apply Ev.ex (f := fun k => muslinlaw20_PlainBack.f k a0)
  simp only [muslinlaw20_PlainBack.f]
  by_cases h : (a0.size : Int) > 3000
  · exact .ifp h liveb
  · refine .ifn h ?_
    have hs : a0.data.toList.length ≤ 3000 := by rw [← Lib.size_eq]; omega
    rw [B_of a0]
    generalize a0.data.toList = s at *
    clear h
    suffices go : ∀ (d i : Nat), s.length - i = d → i ≤ s.length → (∀ j, j < i → s.getD j 0 ≠ 13 ∧ ¬ (s.getD j 0 = 62 ∧ (j = 0 ∨ s.getD (j - 1) 0 = 10))) → Ev (fun k => muslinlaw20_PlainBack.l0 k (B s) (i : Int)) true from
      go _ 0 rfl (Nat.zero_le _) (fun j hj => absurd hj (by omega))
    intro d
    induction d with
    | zero =>
      intro i hd hi hj
      have hB : Beg s := fun j hjs => hj j (by omega)
      obtain ⟨t, h1, h2⟩ := back_text s hs hB
      refine .succ ?_
      simp only [muslinlaw20_PlainBack.l0]
      refine .ifn (by simp; try omega) ?_
      by_cases h0 : s = []
      · subst h0
        refine .ifn (by simp) (.succ ?_)
        simp only [muslinlaw20_PlainBack.j1]
        refine .ifn (by simp) (.bind h1 (.bind h2 (.ifp (by simp) liveb)))
      · have hl : 0 < s.length := List.length_pos_iff.2 h0
        have e1 : wrap64 (((B s).size : Int) - 1) = ((s.length - 1 : Nat) : Int) := by rw [B_size, w64 (by omega) (by omega)]; omega
        rw [e1, B_bt]
        refine .ifp (by simp; try omega) (.ifp (by omega) (.ifp (by simp; try omega) (.succ ?_)))
        simp only [muslinlaw20_PlainBack.j1]
        rw [e1]
        clear e1
        by_cases hc : s.getD (s.length - 1) 0 = 10
        · have hg := (getLast_get s h0 10).2 hc
          rw [if_pos hg] at h2
          rw [hc]
          refine .ifp (by decide) (.ifp (by omega) (.ifp (by simp; try omega) (.bind h1 (.bind h2 (.ifp ?_ liveb)))))
          rw [Int.toNat_natCast, B_upto, List.dropLast_eq_take]
        · have hg : ¬ s.getLast? = some 10 := fun hh => hc ((getLast_get s h0 10).1 hh)
          rw [if_neg hg] at h2
          have hd : ((((s.getD (s.length - 1) 0).toNat : Nat) : Int) == 10) = false := by
            rw [beq_eq_false_iff_ne]; exact fun hh => hc ((u8_int _ 10).1 hh)
          rw [hd]
          exact .ifn (by simp) (.bind h1 (.bind h2 (.ifp (by simp) liveb)))
    | succ d ih =>
      intro i hd hi hj
      have e1 : wrap64 ((i : Int) + 1) = ((i + 1 : Nat) : Int) := by rw [w64 (by omega) (by omega)]; omega
      refine .succ ?_
      simp only [muslinlaw20_PlainBack.l0]
      refine .ifp (by simp; try omega) (.ifp (by omega) ?_)
      rw [B_bt, e1]
      clear e1
      have next (hn : s.getD i 0 ≠ 13 ∧ ¬ (s.getD i 0 = 62 ∧ (i = 0 ∨ s.getD (i - 1) 0 = 10))) : Ev (fun k => muslinlaw20_PlainBack.l0 k (B s) ((i + 1 : Nat) : Int)) true := by
        refine ih (i + 1) (by omega) (by omega) (fun j hj1 => ?_)
        by_cases e : j = i
        · subst e; exact hn
        · exact hj j (by omega)
      by_cases h13 : s.getD i 0 = 13
      · exact .ifp ((u8_int _ 13).2 h13) liveb
      · refine .ifn (fun hh => h13 ((u8_int _ 13).1 hh)) ?_
        by_cases h62 : s.getD i 0 = 62
        · refine .ifp ((u8_int _ 62).2 h62) ?_
          by_cases hz : i = 0
          · subst hz; exact .ifp rfl liveb
          · refine .ifn (by omega) ?_
            have e2 : wrap64 ((i : Int) - 1) = ((i - 1 : Nat) : Int) := by rw [w64 (by omega) (by omega)]; omega
            rw [e2, B_bt]
            clear e2
            refine .ifp (by omega) (.ifp (by simp; try omega) ?_)
            by_cases h10 : s.getD (i - 1) 0 = 10
            · exact .ifp ((u8_int _ 10).2 h10) liveb
            · refine .ifn (fun hh => h10 ((u8_int _ 10).1 hh)) (next ⟨h13, fun hh => ?_⟩)
              rcases hh.2 with h3 | h3
              · exact hz h3
              · exact h10 h3
        · exact .ifn (fun hh => h62 ((u8_int _ 62).1 hh)) (next ⟨h13, fun hh => h62 hh.1⟩)
end Go.Proofs.Ythnbhcmekkadeaa.Pure
