/- Styles, over lists: what is joined is cut as both; what is clean is cut to what it was made of. -/
import Derived.Test.YtollfaphadcnnaaDoorPureSafe
set_option linter.unusedVariables false
set_option linter.unusedSimpArgs false
namespace Go.Proofs.YtollfaphadcnnaaDoor.Pure
open Go Go.RowKit Go.Proofs.YtollfaphadcnnaaDoor.Pr Go.Proofs.YtollfaphadcnnaaDoorW.PrintWords Go.Proofs.YtollfaphadcnnaaDoorW.PrintLast Plain Go.Proofs.YtollfaphadcnnaaDoor
def noOpen (c : UInt8) : Bool := c != 34 && (c != 39 && c != 40)
theorem noOpen_iff (c : UInt8) : noOpen c = true ↔ c ≠ 34 ∧ c ≠ 39 ∧ c ≠ 40 := by simp [noOpen]
theorem endQ_plain (c : UInt8) (r : List UInt8) (h : noOpen c = true) : endQ (c :: r) 0 0 = if c = 59 then 0 else 1 + endQ r 0 0 := by
  obtain ⟨h1, h2, h3⟩ := (noOpen_iff c).1 h
  conv => lhs; unfold endQ
  rw [if_neg (show ¬ ((0 : UInt8) ≠ 0) by simp), if_neg (by rintro (h | h); exact h1 h; exact h2 h), if_neg h3, if_neg (by omega)]
  by_cases h4 : c = 59
  · rw [if_pos ⟨h4, rfl⟩, if_pos h4]
  · rw [if_neg (fun h => h4 h.1), if_neg h4]
theorem endQ_semi (t : List UInt8) : ∀ s : List UInt8, s.all noOpen = true → endQ (s ++ 59 :: t) 0 0 = endQ s 0 0
  | [], _ => by
    show endQ (59 :: t) 0 0 = 0
    rw [endQ_plain 59 t (by decide), if_pos rfl]
  | c :: r, h => by
    rw [List.all_cons, Bool.and_eq_true] at h
    rw [List.cons_append, endQ_plain _ _ h.1, endQ_plain _ _ h.1, endQ_semi t r h.2]
theorem endQ_full : ∀ s : List UInt8, s.all noOpen = true → (59 : UInt8) ∉ s → endQ s 0 0 = s.length
  | [], _, _ => rfl
  | c :: r, h, h9 => by
    rw [List.all_cons, Bool.and_eq_true] at h
    rw [endQ_plain _ _ h.1, if_neg (fun e => h9 (by simp [e])), endQ_full r h.2 (fun e => h9 (by simp [e])), List.length_cons]
    omega
theorem pieces_semi (t : List UInt8) : ∀ (n : Nat) (s : List UInt8), s.length < n → s.all noOpen = true → piecesL (s ++ 59 :: t) = piecesL s ++ piecesL t := by
  intro n
  induction n with
  | zero => intro s h; omega
  | succ n ih =>
    intro s h hs
    have he := endQ_semi t s hs
    have hle := endQ_le _ s 0 0 (Nat.le_refl _)
    rw [piecesL_more (l := s ++ 59 :: t) (by rw [he]; simp; omega), he]
    by_cases hm : endQ s 0 0 < s.length
    · rw [piecesL_more hm, List.take_append_of_le_length hle, List.drop_append_of_le_length (by omega), List.cons_append]
      rw [ih (s.drop (endQ s 0 0 + 1)) (by rw [List.length_drop]; omega) (by
        rw [List.all_eq_true] at hs ⊢
        exact fun x hx => hs x (List.mem_of_mem_drop hx))]
    · have hq : endQ s 0 0 = s.length := by omega
      rw [piecesL_last hm, hq]
      simp
theorem cutV_semi (s t : List UInt8) (hs : s.all noOpen = true) : cutV (s ++ 59 :: t) = cutV s ++ cutV t := by
  unfold cutV
  rw [pieces_semi t _ s (Nat.lt_succ_self _) hs, List.flatMap_append]
theorem cut_cons (c : UInt8) (p : List UInt8) (h : c ≠ 58) : Lib.cut (c :: p) [58] = (c :: (Lib.cut p [58]).1, (Lib.cut p [58]).2.1, (Lib.cut p [58]).2.2) := by
  rw [brk1_cut, brk1_cut]
  conv => lhs; unfold brk1
  rw [if_neg h]
theorem trimS_white (c : UInt8) (l : List UInt8) (h : wh.contains c = true) : Lib.trimS (c :: l) wh = Lib.trimS l wh := by
  have e : ∀ l : List UInt8, (l ++ [c]).dropWhile (fun c => wh.contains c) = if (l.dropWhile (fun c => wh.contains c)) = [] then [] else l.dropWhile (fun c => wh.contains c) ++ [c] := by
    intro l
    induction l with
    | nil => rw [List.nil_append, List.dropWhile_cons, h]; rfl
    | cons x l ih =>
      rw [List.cons_append, List.dropWhile_cons, List.dropWhile_cons]
      cases hx : wh.contains x with
      | true => simpa using ih
      | false => simp
  show ((c :: l).reverse.dropWhile (fun c => wh.contains c)).reverse.dropWhile (fun c => wh.contains c) = (l.reverse.dropWhile (fun c => wh.contains c)).reverse.dropWhile (fun c => wh.contains c)
  rw [List.reverse_cons, e]
  split
  · rename_i h0
    rw [h0]
  · rw [List.reverse_append, List.reverse_cons, List.reverse_nil, List.nil_append, List.singleton_append, List.dropWhile_cons, h]
    rfl
theorem trimS_whiteR (l : List UInt8) (c : UInt8) (h : wh.contains c = true) : Lib.trimS (l ++ [c]) wh = Lib.trimS l wh := by
  show ((l ++ [c]).reverse.dropWhile (fun c => wh.contains c)).reverse.dropWhile (fun c => wh.contains c) = (l.reverse.dropWhile (fun c => wh.contains c)).reverse.dropWhile (fun c => wh.contains c)
  rw [List.reverse_append, List.reverse_cons, List.reverse_nil, List.nil_append, List.singleton_append, List.dropWhile_cons, h]
  rfl
/-- A text that begins and ends with no white sign. -/
theorem trimS_id (l : List UInt8) (h1 : ∀ c r, l = c :: r → wh.contains c = false) (h2 : ∀ c r, l = r ++ [c] → wh.contains c = false) : Lib.trimS l wh = l := by
  have e1 : l.reverse.dropWhile (fun c => wh.contains c) = l.reverse := by
    cases hr : l.reverse with
    | nil => rfl
    | cons c r =>
      have : l = r.reverse ++ [c] := by rw [← List.reverse_reverse l, hr, List.reverse_cons]
      rw [List.dropWhile_cons, h2 c _ this]
      rfl
  show (l.reverse.dropWhile (fun c => wh.contains c)).reverse.dropWhile (fun c => wh.contains c) = l
  rw [e1, List.reverse_reverse]
  cases l with
  | nil => rfl
  | cons c r => rw [List.dropWhile_cons, h1 c r rfl]; rfl
theorem declOf_white (c : UInt8) (p : List UInt8) (h : wh.contains c = true) : declOf (c :: p) = declOf p := by
  have hc : c ≠ 58 := by rintro rfl; exact absurd h (by decide)
  have e1 : nmOf (c :: p) = nmOf p := by unfold nmOf; rw [cut_cons c p hc, trimS_white c _ h]
  have e2 : vlOf (c :: p) = vlOf p := by unfold vlOf; rw [cut_cons c p hc]
  unfold declOf
  rw [e1, e2]
theorem cutV_white (c : UInt8) (l : List UInt8) (h : wh.contains c = true) : cutV (c :: l) = cutV l := by
  have hn : noOpen c = true := by
    rw [noOpen_iff]
    refine ⟨?_, ?_, ?_⟩ <;> (rintro rfl; exact absurd h (by decide))
  have h9 : c ≠ 59 := by rintro rfl; exact absurd h (by decide)
  have he := endQ_plain c l hn
  rw [if_neg h9] at he
  by_cases hm : endQ l 0 0 < l.length
  · rw [cutV_more (l := c :: l) (by rw [he, List.length_cons]; omega), cutV_more hm, he, Nat.add_comm 1, List.take_succ_cons, List.drop_succ_cons, declOf_white c _ h]
  · rw [cutV_last (l := c :: l) (by rw [he, List.length_cons]; omega), cutV_last hm, declOf_white c _ h]
/-! ### Names and values -/
def nameC (c : UInt8) : Bool := (decide (97 ≤ c) && decide (c ≤ 122)) || decide (c = 45)
theorem names_ok : ∀ n ∈ nmL, (n.data.toList.all nameC && !n.data.toList.isEmpty) = true := by decide +kernel
theorem nameC_facts : ∀ c : UInt8, (!nameC c || (noOpen c && (c != 59 && (c != 58 && (!wh.contains c && decide (low c = c)))))) = true := u8_all (by decide +kernel)
theorem okC_facts : ∀ c : UInt8, (!okC c || (noOpen c && (c != 59 && (!wh.contains c || c == 32)))) = true := u8_all (by decide +kernel)
theorem nm_facts {n : ByteArray} (h : n ∈ nmL) : n.data.toList ≠ [] ∧ ∀ c ∈ n.data.toList, noOpen c = true ∧ c ≠ 59 ∧ c ≠ 58 ∧ wh.contains c = false ∧ low c = c := by
  have h1 := names_ok n h
  rw [Bool.and_eq_true, List.all_eq_true] at h1
  refine ⟨by have := h1.2; simpa using this, fun c hc => ?_⟩
  have h2 := nameC_facts c
  rw [h1.1 c hc] at h2
  simpa using h2
theorem ok_facts {c : UInt8} (h : okC c = true) : noOpen c = true ∧ c ≠ 59 ∧ (wh.contains c = true → c = 32) := by
  have h2 := okC_facts c
  rw [h] at h2
  simp only [Bool.not_true, Bool.false_or, Bool.and_eq_true, bne_iff_ne] at h2
  refine ⟨h2.1, h2.2.1, fun hw => ?_⟩
  have := h2.2.2
  rw [hw] at this
  simpa using this
/-- A declaration that is safe, its value without white at its ends. -/
structure Ent (x : S29) : Prop where
  nm : x.f0 ∈ nmL
  ok : okV x.f1 = true
  tr : Lib.trimS x.f1.data.toList wh = x.f1.data.toList
theorem Ent.ne {x : S29} (h : Ent x) : x.f1.data.toList ≠ [] := by
  have := h.ok
  unfold okV at this
  rw [Bool.and_eq_true, Lib.toList_data] at this
  simpa using this.1
theorem Ent.all {x : S29} (h : Ent x) : ∀ c ∈ x.f1.data.toList, okC c = true := by
  have := h.ok
  unfold okV at this
  rw [Bool.and_eq_true, Bool.and_eq_true, List.all_eq_true] at this
  exact this.2.2
theorem small_id (l : List UInt8) (h : ∀ c ∈ l, low c = c) : small l = l := by
  unfold small
  conv => rhs; rw [← List.map_id l]
  exact List.map_congr_left h
theorem trimS_none (l : List UInt8) (h : ∀ c ∈ l, wh.contains c = false) : Lib.trimS l wh = l :=
  trimS_id l (fun c r e => h c (by simp [e])) (fun c r e => h c (by simp [e]))
/-- A name, a colon, and any value behind it: one declaration. -/
theorem declOf_pair {n : ByteArray} (hn : n ∈ nmL) (v : List UInt8) : declOf (n.data.toList ++ 58 :: v) = if Lib.trimS v wh ≠ [] then [⟨n, B (Lib.trimS v wh)⟩] else [] := by
  obtain ⟨h0, hf⟩ := nm_facts hn
  have hc : Lib.cut (n.data.toList ++ 58 :: v) [58] = (n.data.toList, v, true) := by
    rw [brk1_cut]
    exact brk1_hit 58 _ _ (fun hm => (hf 58 hm).2.2.1 rfl)
  have e1 : nmOf (n.data.toList ++ 58 :: v) = n.data.toList := by
    unfold nmOf
    rw [hc]
    show small (Lib.trimS n.data.toList wh) = _
    rw [trimS_none _ (fun c hm => (hf c hm).2.2.2.1), small_id _ (fun c hm => (hf c hm).2.2.2.2)]
  have e2 : vlOf (n.data.toList ++ 58 :: v) = Lib.trimS v wh := by unfold vlOf; rw [hc]
  unfold declOf
  rw [e1, e2, ← B_of n]
  by_cases hv : Lib.trimS v wh = []
  · rw [if_neg (fun h => h.2 hv), if_neg (by simp [hv])]
  · rw [if_pos ⟨h0, hv⟩, if_pos hv]
theorem line_list (x : S29) : (line x).data.toList = x.f0.data.toList ++ 58 :: 32 :: x.f1.data.toList := by
  unfold line
  simp
theorem Ent.decl {x : S29} (h : Ent x) : declOf (x.f0.data.toList ++ 58 :: 32 :: x.f1.data.toList) = [x] := by
  rw [declOf_pair h.nm, trimS_white 32 _ (by decide), h.tr, if_pos h.ne, ← B_of]
theorem line_plain {x : S29} (h : Ent x) : (x.f0.data.toList ++ 58 :: 32 :: x.f1.data.toList).all noOpen = true ∧ (59 : UInt8) ∉ x.f0.data.toList ++ 58 :: 32 :: x.f1.data.toList := by
  have h1 := (nm_facts h.nm).2
  have h2 := h.all
  constructor
  · rw [List.all_eq_true]
    intro c hc
    rcases List.mem_append.1 hc with hc | hc
    · exact (h1 c hc).1
    · rcases List.mem_cons.1 hc with rfl | hc
      · decide
      · rcases List.mem_cons.1 hc with rfl | hc
        · decide
        · exact (ok_facts (h2 c hc)).1
  · intro hc
    rcases List.mem_append.1 hc with hc | hc
    · exact (h1 59 hc).2.1 rfl
    · rcases List.mem_cons.1 hc with hc | hc
      · exact absurd hc (by decide)
      · rcases List.mem_cons.1 hc with hc | hc
        · exact absurd hc (by decide)
        · exact (ok_facts (h2 59 hc)).2.1 rfl
theorem cutV_one (l : List UInt8) (h : l.all noOpen = true) (h9 : (59 : UInt8) ∉ l) : cutV l = declOf l := cutV_last (by rw [endQ_full l h h9]; omega)
def joinE (E : List S29) : List UInt8 := Lib.join (E.map fun x => x.f0.data.toList ++ 58 :: 32 :: x.f1.data.toList) [59, 32]
theorem cutV_join : ∀ E : List S29, (∀ x ∈ E, Ent x) → cutV (joinE E) = E
  | [], _ => by
    show cutV (Lib.join [] [59, 32]) = []
    rw [show Lib.join [] [59, 32] = [] from by simp [Lib.join, List.intercalate], cutV_last (by simp)]
    rfl
  | [x], h => by
    have hx := h x (by simp)
    show cutV (Lib.join [_] _) = _
    rw [Lib.join_one, cutV_one _ (line_plain hx).1 (line_plain hx).2, hx.decl]
  | x :: y :: r, h => by
    have hx := h x (by simp)
    have ih := cutV_join (y :: r) (fun z hz => h z (by simp [hz]))
    have e : joinE (x :: y :: r) = (x.f0.data.toList ++ 58 :: 32 :: x.f1.data.toList) ++ 59 :: 32 :: joinE (y :: r) := by
      unfold joinE
      rw [List.map_cons, List.map_cons, join_two]
      simp
    rw [e, cutV_semi _ _ (line_plain hx).1, cutV_one _ (line_plain hx).1 (line_plain hx).2, hx.decl, cutV_white 32 _ (by decide), ih]
    rfl
/-! ### Of each name the last -/
def lastE : List S29 → List S29
  | [] => []
  | x :: r => (if r.any (fun e => e.f0.toList == x.f0.toList) then [] else [x]) ++ lastE r
theorem lastE_of : ∀ L : List S29, (lastOf L).map (·.data.toList) = (lastE L).map fun x => x.f0.data.toList ++ 58 :: 32 :: x.f1.data.toList
  | [] => rfl
  | x :: r => by
    rw [lastOf, lastE, List.map_append, List.map_append, lastE_of r]
    split
    · rfl
    · rw [List.map_cons, List.map_nil, List.map_cons, List.map_nil, line_list]
theorem lastE_sub : ∀ L : List S29, (lastE L).Sublist L
  | [] => List.Sublist.slnil
  | x :: r => by
    rw [lastE]
    split
    · exact (lastE_sub r).cons x
    · exact (lastE_sub r).cons_cons x
theorem lastE_any (x : S29) : ∀ L : List S29, L.any (fun e => e.f0.toList == x.f0.toList) = false → (lastE L).any (fun e => e.f0.toList == x.f0.toList) = false := by
  intro L h
  rw [Bool.eq_false_iff] at h ⊢
  intro ha
  obtain ⟨e, he, h2⟩ := List.any_eq_true.1 ha
  exact h (List.any_eq_true.2 ⟨e, (lastE_sub L).subset he, h2⟩)
/-- Each name once. -/
def Uniq : List S29 → Prop
  | [] => True
  | x :: r => r.any (fun e => e.f0.toList == x.f0.toList) = false ∧ Uniq r
theorem lastE_uniq : ∀ L : List S29, Uniq (lastE L)
  | [] => trivial
  | x :: r => by
    rw [lastE]
    cases hq : r.any (fun e => e.f0.toList == x.f0.toList) with
    | true => rw [if_pos rfl]; exact lastE_uniq r
    | false => rw [if_neg (by simp)]; exact ⟨lastE_any x r hq, lastE_uniq r⟩
theorem lastE_id : ∀ L : List S29, Uniq L → lastE L = L
  | [], _ => rfl
  | x :: r, h => by rw [lastE, h.1, if_neg (by simp), lastE_id r h.2]; rfl
theorem cleanV_join (l : List UInt8) : cleanV l = B (joinE (lastE (keepL (cutV l)))) := by
  unfold cleanV joinE
  rw [lastE_of]; rfl
section
variable (p : UInt8 → Bool)
def tl (l : List UInt8) : List UInt8 := l.dropWhile p
def tr (l : List UInt8) : List UInt8 := (l.reverse.dropWhile p).reverse
theorem tr_cons (x : UInt8) (l : List UInt8) : tr p (x :: l) = if tr p l = [] then (if p x then [] else [x]) else x :: tr p l := by
  unfold tr
  rw [List.reverse_cons, List.dropWhile_append]
  by_cases h : l.reverse.dropWhile p = []
  · rw [h]
    simp only [List.isEmpty_nil, if_true, List.reverse_nil]
    cases hp : p x <;> simp [List.dropWhile, hp]
  · have h2 : (l.reverse.dropWhile p).isEmpty = false := by cases hq : l.reverse.dropWhile p with
      | nil => exact absurd hq h
      | cons _ _ => rfl
    rw [h2]
    simp [h]
theorem tl_tr : ∀ l : List UInt8, tl p (tr p l) = tr p (tl p l)
  | [] => rfl
  | x :: l => by
    have ih := tl_tr l
    rw [tr_cons]
    cases hp : p x with
    | true =>
      have e : tl p (x :: l) = tl p l := by unfold tl; rw [List.dropWhile_cons, hp]; rfl
      rw [e, ← ih]
      by_cases h : tr p l = []
      · rw [if_pos h, h]; rfl
      · rw [if_neg h]
        unfold tl
        rw [List.dropWhile_cons, hp]; rfl
    | false =>
      have e : tl p (x :: l) = x :: l := by unfold tl; rw [List.dropWhile_cons, hp]; rfl
      rw [e, tr_cons, hp]
      by_cases h : tr p l = []
      · rw [if_pos h]
        unfold tl
        simp [List.dropWhile_cons, hp]
      · rw [if_neg h]
        unfold tl
        rw [List.dropWhile_cons, hp]; rfl
end
section
variable (p : UInt8 → Bool)
theorem tl_idem : ∀ l : List UInt8, tl p (tl p l) = tl p l
  | [] => rfl
  | x :: l => by
    cases hp : p x with
    | true =>
      have e : tl p (x :: l) = tl p l := by unfold tl; rw [List.dropWhile_cons, hp]; rfl
      rw [e, tl_idem l]
    | false =>
      have e : tl p (x :: l) = x :: l := by unfold tl; rw [List.dropWhile_cons, hp]; rfl
      rw [e, e]
theorem tr_idem (l : List UInt8) : tr p (tr p l) = tr p l := by
  have := tl_idem p l.reverse
  unfold tl at this
  unfold tr
  rw [List.reverse_reverse, this]
end
theorem trimS_idem (l : List UInt8) : Lib.trimS (Lib.trimS l wh) wh = Lib.trimS l wh := by
  show tl (fun c => wh.contains c) (tr (fun c => wh.contains c) (tl (fun c => wh.contains c) (tr (fun c => wh.contains c) l))) = tl (fun c => wh.contains c) (tr (fun c => wh.contains c) l)
  rw [tl_tr _ l, tr_idem, ← tl_tr, tl_idem]
theorem ent_of (l : List UInt8) {x : S29} (hx : x ∈ keepL (cutV l)) : Ent x := by
  obtain ⟨h1, h2⟩ := List.mem_filter.1 hx
  rw [safeB_eq, Bool.and_eq_true] at h2
  refine ⟨mem_isNm _ h2.1, h2.2, ?_⟩
  obtain ⟨p, _, hp⟩ := List.mem_flatMap.1 h1
  unfold declOf at hp
  split at hp
  · rw [List.mem_singleton.1 hp, B_data]
    exact trimS_idem _
  · cases hp
theorem Ent.safe {x : S29} (h : Ent x) : safeB x.f0 x.f1 = true := by rw [safeB_eq, isNm_mem _ h.nm, h.ok]; rfl
theorem keepL_id (E : List S29) (h : ∀ x ∈ E, Ent x) : keepL E = E := List.filter_eq_self.2 (fun x hx => (h x hx).safe)
/-- What css.Clean leaves of a style. -/
def entsOf (l : List UInt8) : List S29 := lastE (keepL (cutV l))
theorem ents_ent (l : List UInt8) : ∀ x ∈ entsOf l, Ent x := fun x hx => ent_of l ((lastE_sub _).subset hx)
theorem ents_uniq (l : List UInt8) : Uniq (entsOf l) := lastE_uniq _
theorem clean_ents (l : List UInt8) : cleanV l = B (joinE (entsOf l)) := cleanV_join l
theorem clean_again (E : List S29) (h : ∀ x ∈ E, Ent x) (hu : Uniq E) : entsOf (joinE E) = E := by
  unfold entsOf
  rw [cutV_join E h, keepL_id E h, lastE_id E hu]
def wt (l : List S29) : Nat := (l.map fun x => x.f0.size + x.f1.size).sum
theorem wt_append (a b : List S29) : wt (a ++ b) = wt a + wt b := by simp [wt]
theorem wt_cons (x : S29) (b : List S29) : wt (x :: b) = x.f0.size + x.f1.size + wt b := by simp [wt]
theorem wt_sub {a b : List S29} (h : a.Sublist b) : wt a ≤ wt b := by
  induction h with
  | slnil => exact Nat.le_refl _
  | cons x _ ih => rw [wt_cons]; omega
  | cons_cons x _ ih => rw [wt_cons, wt_cons]; omega
theorem cut58_sum (l : List UInt8) : (Lib.cut l [58]).1.length + (Lib.cut l [58]).2.1.length ≤ l.length := by
  unfold Lib.cut
  split
  · simp only [List.length_take, List.length_drop]; omega
  · simp
theorem declOf_wt (p : List UInt8) : wt (declOf p) ≤ p.length := by
  unfold declOf
  split
  · have h1 := cut58_sum p
    have h2 := (trimS_sub (Lib.cut p [58]).1 wh).length_le
    have h3 := (trimS_sub (Lib.cut p [58]).2.1 wh).length_le
    simp only [wt, List.map_cons, List.map_nil, List.sum_cons, List.sum_nil, B_size]
    unfold nmOf vlOf
    rw [small_length]
    omega
  · simp [wt]
theorem cutV_wt : ∀ (n : Nat) (l : List UInt8), l.length < n → wt (cutV l) ≤ l.length := by
  intro n
  induction n with
  | zero => intro l h; omega
  | succ n ih =>
    intro l h
    by_cases hm : endQ l 0 0 < l.length
    · rw [cutV_more hm, wt_append]
      have h1 := declOf_wt (l.take (endQ l 0 0))
      have h2 := ih (l.drop (endQ l 0 0 + 1)) (by rw [List.length_drop]; omega)
      rw [List.length_take] at h1
      rw [List.length_drop] at h2
      omega
    · rw [cutV_last hm]
      exact declOf_wt l
theorem joinE_len : ∀ E : List S29, (joinE E).length ≤ wt E + 4 * E.length
  | [] => by
    show (Lib.join [] [59, 32]).length ≤ _
    simp [Lib.join, List.intercalate]
  | [x] => by
    show (Lib.join [_] _).length ≤ _
    rw [Lib.join_one, wt_cons]
    simp
    omega
  | x :: y :: r => by
    have ih := joinE_len (y :: r)
    have e : joinE (x :: y :: r) = (x.f0.data.toList ++ 58 :: 32 :: x.f1.data.toList) ++ 59 :: 32 :: joinE (y :: r) := by
      unfold joinE
      rw [List.map_cons, List.map_cons, join_two]
      simp
    rw [e, wt_cons]
    have e1 : x.f0.data.toList.length = x.f0.size := by simp
    have e2 : x.f1.data.toList.length = x.f1.size := by simp
    simp only [List.length_append, List.length_cons] at ih ⊢
    omega
theorem ents_sub (l : List UInt8) : (entsOf l).Sublist (cutV l) := (lastE_sub _).trans List.filter_sublist
theorem clean_len (l : List UInt8) : (joinE (entsOf l)).length ≤ l.length + 4 * (l.length + 1) := by
  have h1 := joinE_len (entsOf l)
  have h2 := wt_sub (ents_sub l)
  have h3 := cutV_wt _ l (Nat.lt_succ_self _)
  have h4 := (ents_sub l).length_le
  have h5 := cutV_len l
  omega
end Go.Proofs.YtollfaphadcnnaaDoor.Pure
