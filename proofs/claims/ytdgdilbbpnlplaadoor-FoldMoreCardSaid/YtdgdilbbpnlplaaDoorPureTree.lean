/- A tree is the same as itself; how many nodes there are, as the reference walks them. -/
import Derived.Test.YtdgdilbbpnlplaaDoorPrx0
import Derived.Lib.CutLaws
import Derived.Lib.IndexBytes
import Derived.Lib.Strings
import Derived.Test.YtdgdilbbpnlplaaDoorPrx3
import Derived.Test.YtdgdilbbpnlplaaDoorPrx5
set_option linter.unusedVariables false
set_option linter.unusedSimpArgs false
namespace Go.Proofs.YtdgdilbbpnlplaaDoor.Pure
open Go Go.RowKit Go.Proofs.YtdgdilbbpnlplaaDoor.Pr Go.Proofs.YtdgdilbbpnlplaaDoorW.PrintWords Go.Proofs.YtdgdilbbpnlplaaDoorW.PrintLast

/-! ### An answer from some number of rounds on -/
def Ev {α : Type} (f : Nat → Option α) (v : α) : Prop := ∃ n, ∀ k, n ≤ k → f k = some v
section
variable {α β : Type} {f g : Nat → Option α} {v : α} {p : Prop} [Decidable p]
theorem Ev.pure (v : α) : Ev (fun _ => some v) v := ⟨0, fun _ _ => rfl⟩
theorem Ev.of {o : Option α} (h : o = some v) : Ev (fun _ => o) v := ⟨0, fun _ _ => h⟩
theorem Ev.succ (h : Ev (fun k => f (k + 1)) v) : Ev f v := by
  obtain ⟨n, hn⟩ := h
  refine ⟨n + 1, fun k hk => ?_⟩
  obtain ⟨k, rfl⟩ : ∃ m, k = m + 1 := ⟨k - 1, by omega⟩
  exact hn k (by omega)
theorem Ev.bind {F : Nat → Option β} {G : Nat → β → Option α} {a : β} (h : Ev F a) (h2 : Ev (fun k => G k a) v) : Ev (fun k => (F k).bind fun x => G k x) v := by
  obtain ⟨n, hn⟩ := h
  obtain ⟨m, hm⟩ := h2
  exact ⟨n + m, fun k hk => by show (F k).bind _ = _; rw [hn k (by omega)]; exact hm k (by omega)⟩
theorem Ev.bindc {o : Option β} {G : Nat → β → Option α} {a : β} (h : o = some a) (h2 : Ev (fun k => G k a) v) : Ev (fun k => o.bind fun x => G k x) v := Ev.bind (Ev.of h) h2
theorem Ev.ifp (h : p) (h2 : Ev f v) : Ev (fun k => if p then f k else g k) v := by
  obtain ⟨n, hn⟩ := h2
  exact ⟨n, fun k hk => by show (if p then f k else g k) = _; rw [if_pos h]; exact hn k hk⟩
theorem Ev.ifn (h : ¬ p) (h2 : Ev g v) : Ev (fun k => if p then f k else g k) v := by
  obtain ⟨n, hn⟩ := h2
  exact ⟨n, fun k hk => by show (if p then f k else g k) = _; rw [if_neg h]; exact hn k hk⟩
theorem Ev.ex (h : Ev f v) : ∃ k, f k = some v := by
  obtain ⟨n, hn⟩ := h
  exact ⟨n, hn n (Nat.le_refl _)⟩
theorem Ev.cast {v' : α} (h : Ev f v) (e : v = v') : Ev f v' := e ▸ h
end
theorem w64 {i : Int} (h0 : -9223372036854775808 ≤ i) (h1 : i ≤ 9223372036854775807) : wrap64 i = i := by unfold wrap64; omega

/-! ### Byte strings as lists -/
/-- The string of bytes. -/
def B (l : List UInt8) : ByteArray := ⟨l.toArray⟩
theorem B_of (s : ByteArray) : s = B s.data.toList := (Lib.mk_data s).symm
@[simp] theorem B_size (l : List UInt8) : (B l).size = l.length := by rw [Lib.size_eq]; rfl
@[simp] theorem B_data (l : List UInt8) : (B l).data.toList = l := rfl
@[simp] theorem B_list (l : List UInt8) : (B l).toList = l := by rw [Lib.toList_data]; rfl
@[simp] theorem B_append (a b : List UInt8) : B a ++ B b = B (a ++ b) := by
  have : (B a ++ B b).data.toList = a ++ b := by simp
  rw [B_of (B a ++ B b), this]
@[simp] theorem B_extract (l : List UInt8) (i j : Nat) : (B l).extract i j = B ((l.drop i).take (j - i)) := by
  rw [B_of ((B l).extract i j), Lib.extract_data, B_data]
theorem B_from (l : List UInt8) (i : Nat) : (B l).extract i l.length = B (l.drop i) := by
  rw [B_extract, List.take_of_length_le (by simp)]
theorem B_upto (l : List UInt8) (i : Nat) : (B l).extract 0 i = B (l.take i) := by rw [B_extract]; rfl
theorem B_inj {a b : List UInt8} (h : B a = B b) : a = b := by have := congrArg (fun s : ByteArray => s.data.toList) h; exact this
theorem lit (l : List UInt8) : (⟨l.toArray⟩ : ByteArray) = B l := rfl
theorem B_bt (l : List UInt8) (j : Nat) : bt (B l) (j : Int) = ((l.getD j 0).toNat : Int) := by
  unfold bt
  rw [Int.toNat_natCast]
  split
  · rename_i h
    rw [List.getD_eq_getElem?_getD, List.getElem?_eq_getElem (by simpa using h)]
    rfl
  · rename_i h
    rw [List.getD_eq_getElem?_getD, List.getElem?_eq_none (by simpa using h)]
    rfl
theorem drop_cons_get (l : List UInt8) (j : Nat) (h : j < l.length) : l.drop j = l.getD j 0 :: l.drop (j + 1) := by
  rw [List.drop_eq_getElem_cons h, List.getD_eq_getElem?_getD, List.getElem?_eq_getElem h]
  rfl
theorem get_drop (l : List UInt8) (j : Nat) (c : UInt8) (r : List UInt8) (h : l.drop j = c :: r) : j < l.length ∧ l.getD j 0 = c ∧ l.drop (j + 1) = r := by
  have hj : j < l.length := by
    rcases Nat.lt_or_ge j l.length with h1 | h1
    · exact h1
    · rw [List.drop_eq_nil_of_le h1] at h; cases h
  rw [drop_cons_get l j hj] at h
  injection h with h1 h2
  exact ⟨hj, h1, h2⟩
theorem drop_nil_le (l : List UInt8) (j : Nat) (h : l.drop j = []) : l.length ≤ j := by simpa using h
theorem u8_int (c : UInt8) (n : UInt8) : ((c.toNat : Int) = (n.toNat : Int)) ↔ c = n := by
  constructor
  · intro h; exact UInt8.toNat_inj.1 (by omega)
  · rintro rfl; rfl
theorem u8_all {p : UInt8 → Prop} (h : ∀ n : Fin 256, p (UInt8.ofFin n)) (c : UInt8) : p c := h c.toFin

/-! ### A cut at one byte -/
def brk1 (c : UInt8) : List UInt8 → List UInt8 × List UInt8 × Bool
  | [] => ([], [], false)
  | x :: r => if x = c then ([], r, true) else (x :: (brk1 c r).1, (brk1 c r).2.1, (brk1 c r).2.2)
theorem brk1_cut (c : UInt8) : ∀ l : List UInt8, Lib.cut l [c] = brk1 c l
  | [] => by
    have h : Lib.index [] [c] = -1 := by unfold Lib.index; rfl
    unfold Lib.cut
    rw [h]; rfl
  | x :: r => by
    have ih := brk1_cut c r
    by_cases hx : x = c
    · have h : Lib.index (x :: r) [c] = 0 := by unfold Lib.index; rw [if_pos (by simp [hx])]
      unfold Lib.cut brk1
      rw [h, if_pos hx]; simp
    · have hp : [c].isPrefixOf (x :: r) = false := by
        rw [Bool.eq_false_iff]; intro h; simp at h; exact hx h.symm
      have h : Lib.index (x :: r) [c] = if Lib.index r [c] == -1 then -1 else Lib.index r [c] + 1 := by
        conv => lhs; unfold Lib.index
        rw [hp]; rfl
      have hg := Lib.index_ge r [c]
      unfold brk1
      rw [if_neg hx, ← ih]
      unfold Lib.cut
      rw [h]
      by_cases h0 : Lib.index r [c] = -1
      · rw [h0]; rfl
      · have h1 : (Lib.index r [c] == -1) = false := by rw [beq_eq_false_iff_ne]; exact h0
        rw [h1]
        obtain ⟨i, hi⟩ : ∃ i : Nat, Lib.index r [c] = (i : Int) := ⟨(Lib.index r [c]).toNat, by omega⟩
        rw [hi]
        have e1 : (0 : Int) ≤ (i : Int) + 1 := by omega
        have e2 : ((i : Int) + 1).toNat = i + 1 := by omega
        simp [e1, e2]
theorem brk1_no (c : UInt8) : ∀ l : List UInt8, c ∉ l → brk1 c l = (l, [], false)
  | [], _ => rfl
  | x :: r, h => by
    have h1 : x ≠ c := fun e => h (by simp [e])
    have h2 : c ∉ r := fun e => h (List.mem_cons_of_mem _ e)
    unfold brk1
    rw [if_neg h1, brk1_no c r h2]
theorem brk1_hit (c : UInt8) : ∀ a b : List UInt8, c ∉ a → brk1 c (a ++ c :: b) = (a, b, true)
  | [], b, _ => by show brk1 c (c :: b) = _; unfold brk1; rw [if_pos rfl]
  | x :: a, b, h => by
    have h1 : x ≠ c := fun e => h (by simp [e])
    have h2 : c ∉ a := fun e => h (List.mem_cons_of_mem _ e)
    show brk1 c (x :: (a ++ c :: b)) = _
    unfold brk1
    rw [if_neg h1, brk1_hit c a b h2]
theorem brk1_spec (c : UInt8) : ∀ l : List UInt8, c ∉ (brk1 c l).1 ∧ ((brk1 c l).2.2 = true → l = (brk1 c l).1 ++ c :: (brk1 c l).2.1) ∧ ((brk1 c l).2.2 = false → l = (brk1 c l).1 ∧ (brk1 c l).2.1 = [])
  | [] => ⟨by simp [brk1], fun h => by simp [brk1] at h, fun _ => ⟨rfl, rfl⟩⟩
  | x :: r => by
    have ih := brk1_spec c r
    unfold brk1
    by_cases hx : x = c
    · rw [if_pos hx]
      exact ⟨by simp, fun _ => by simp [hx], fun h => by simp at h⟩
    · rw [if_neg hx]
      refine ⟨?_, fun h => ?_, fun h => ?_⟩
      · simp only [List.mem_cons, not_or]
        exact ⟨fun e => hx e.symm, ih.1⟩
      · have := ih.2.1 h
        simp only [List.cons_append, List.cons.injEq, true_and]
        exact this
      · have := ih.2.2 h
        exact ⟨by rw [← this.1], this.2⟩
/-! ### A tree is the same as itself -/
def Fit : Nat → List S32 → Prop
  | 0, l => l = []
  | d + 1, l => l.length ≤ 1000000 ∧ ∀ x ∈ l, x.f1.length ≤ 1000000 ∧ Fit d x.f3
theorem Fit_nil (d : Nat) : Fit d [] := by cases d <;> simp [Fit]
theorem rd_mem (l : List S32) (i : Nat) (h : i < l.length) : rd_T32 l (i : Int) ∈ l ∧ l.drop i = rd_T32 l (i : Int) :: l.drop (i + 1) := by
  unfold rd_T32
  rw [Int.toNat_natCast, List.getD_eq_getElem?_getD, List.getElem?_eq_getElem h, List.drop_eq_getElem_cons h]
  exact ⟨List.getElem_mem h, rfl⟩
theorem sameAttrs_refl (l : List S41) (h : l.length ≤ 1000000) : Ev (fun k => muslinref13_SameAttrs.f k l l) true := by
  have go : ∀ (d i : Nat), l.length - i = d → i ≤ l.length → Ev (fun k => muslinref13_SameAttrs.l0 k l l (i : Int)) true := by
    intro d
    induction d with
    | zero =>
      intro i hd hi
      refine .succ ?_
      simp only [muslinref13_SameAttrs.l0]
      exact .ifn (by omega) (.pure _)
    | succ d ih =>
      intro i hd hi
      refine .succ ?_
      simp only [muslinref13_SameAttrs.l0]
      refine .ifp (by omega) (.ifp (by omega) (.ifp (by omega) (.ifn (by simp) ?_)))
      have e1 : wrap64 ((i : Int) + 1) = ((i + 1 : Nat) : Int) := by rw [w64 (by omega) (by omega)]; omega
      rw [e1]
      exact ih (i + 1) (by omega) (by omega)
  simp only [muslinref13_SameAttrs.f]
  exact .ifp (by trivial) (go _ 0 rfl (Nat.zero_le _))
theorem same_refl : ∀ (d : Nat) (l : List S32), Fit d l → Ev (fun k => muslinref14_Same.f k l l) true := by
  intro d
  induction d with
  | zero =>
    rintro l rfl
    refine .succ ?_
    simp only [muslinref14_Same.f]
    refine .ifp (by trivial) (.succ ?_)
    simp only [muslinref14_Same.l0]
    exact .ifn (by simp) (.pure _)
  | succ d ih =>
    rintro l ⟨hl, hx⟩
    have go : ∀ (n i : Nat), l.length - i = n → i ≤ l.length → Ev (fun k => muslinref14_Same.l0 k l l (i : Int)) true := by
      intro n
      induction n with
      | zero =>
        intro i hn hi
        refine .succ ?_
        simp only [muslinref14_Same.l0]
        exact .ifn (by omega) (.pure _)
      | succ n ih2 =>
        intro i hn hi
        have hm := (rd_mem l i (by omega)).1
        obtain ⟨h1, h2⟩ := hx _ hm
        refine .succ ?_
        simp only [muslinref14_Same.l0]
        refine .ifp (by omega) (.ifp (by omega) (.ifp (by omega) (.ifp (by trivial) (.ifp (by trivial) (.bind (sameAttrs_refl _ h1) (.ifp (by trivial) (.bind (ih _ h2) (.ifp (by trivial) ?_))))))))
        have e1 : wrap64 ((i : Int) + 1) = ((i + 1 : Nat) : Int) := by rw [w64 (by omega) (by omega)]; omega
        rw [e1]
        exact ih2 (i + 1) (by omega) (by omega)
    refine .succ ?_
    simp only [muslinref14_Same.f]
    exact .ifp (by trivial) (go _ 0 rfl (Nat.zero_le _))
/-! ### How many nodes there are -/
def bigA (l : List S41) : Bool := l.any fun a => decide (a.f0.size > 300) || decide (a.f1.size > 300)
def bigN (x : S32) : Bool := decide (x.f0.size > 300) || decide (x.f2.size > 300) || decide (x.f1.length > 40) || bigA x.f1
def wkLoop (q : List S32 → Nat) : Nat → List S32 → Nat
  | n, [] => n
  | n, x :: r => if n > 60 then n else if bigN x then 61 else wkLoop q (n + 1 + q x.f3) r
def wk : Nat → List S32 → Nat
  | 0, l => if l = [] then 0 else 61
  | d + 1, l => if l = [] then 0 else if l.length > 60 then 61 else wkLoop (wk d) 0 l
theorem wk_succ (d : Nat) (l : List S32) : wk (d + 1) l = if l = [] then 0 else if l.length > 60 then 61 else wkLoop (wk d) 0 l := rfl
theorem wkLoop_nil (q : List S32 → Nat) (n : Nat) : wkLoop q n [] = n := rfl
theorem wkLoop_cons (q : List S32 → Nat) (n : Nat) (x : S32) (r : List S32) : wkLoop q n (x :: r) = if n > 60 then n else if bigN x then 61 else wkLoop q (n + 1 + q x.f3) r := rfl
theorem wkLoop_le (q : List S32 → Nat) (C : Nat) (hq : ∀ l, q l ≤ C) : ∀ (l : List S32) (n : Nat), n ≤ 61 + C → wkLoop q n l ≤ 61 + C
  | [], n, h => h
  | x :: r, n, h => by
    rw [wkLoop_cons]
    split
    · exact h
    · split
      · omega
      · exact wkLoop_le q C hq r _ (by have := hq x.f3; omega)
theorem wk_le : ∀ (d : Nat) (l : List S32), wk d l ≤ 61 * (d + 1)
  | 0, l => by unfold wk; split <;> omega
  | d + 1, l => by
    unfold wk
    split
    · omega
    · split
      · omega
      · have := wkLoop_le (wk d) _ (wk_le d) l 0 (by omega)
        omega
theorem rd41 (l : List S41) (j : Nat) (h : j < l.length) : l.drop j = rd_T41 l (j : Int) :: l.drop (j + 1) := by
  unfold rd_T41
  rw [Int.toNat_natCast, List.getD_eq_getElem?_getD, List.getElem?_eq_getElem h, List.drop_eq_getElem_cons h]
  rfl
theorem bigA_cons (a : S41) (l : List S41) : bigA (a :: l) = ((decide (a.f0.size > 300) || decide (a.f1.size > 300)) || bigA l) := rfl
theorem walk_ev : ∀ (d : Nat) (l : List S32), d ≤ 35 → Ev (fun k => muslinref14_walk.f k l (d : Int)) ((wk d l : Nat) : Int) := by
  intro d
  induction d with
  | zero =>
    intro l _
    refine .succ ?_
    simp only [muslinref14_walk.f]
    by_cases hl : l = []
    · subst hl; exact .ifp rfl (.of rfl)
    · have hlp : 0 < l.length := List.length_pos_iff.2 hl
      refine .ifn (by omega) (.ifp rfl (.succ ?_))
      simp only [muslinref14_walk.j0]
      refine .ifp (by trivial) (.of ?_)
      unfold wk; rw [if_neg hl]; rfl
  | succ d ih =>
    intro l hd
    refine .succ ?_
    simp only [muslinref14_walk.f]
    by_cases hl : l = []
    · subst hl; exact .ifp rfl (.of rfl)
    · have hlp : 0 < l.length := List.length_pos_iff.2 hl
      refine .ifn (by omega) (.ifn (by omega) ?_)
      by_cases h60 : l.length > 60
      · rw [show decide ((l.length : Int) > 60) = true from decide_eq_true (by omega)]
        refine .succ ?_
        simp only [muslinref14_walk.j0]
        refine .ifp (by trivial) (.of ?_)
        unfold wk; rw [if_neg hl, if_pos h60]; rfl
      · rw [show decide ((l.length : Int) > 60) = false from decide_eq_false (by omega)]
        refine .succ ?_
        simp only [muslinref14_walk.j0]
        refine .ifn (by simp) ?_
        have hwk : wk (d + 1) l = wkLoop (wk d) 0 l := by rw [wk_succ, if_neg hl, if_neg h60]
        rw [hwk]
        clear hwk hl hlp
        suffices go : ∀ (e i n : Nat), l.length - i = e → i ≤ l.length → n ≤ 61 * (d + 3) → Ev (fun k => muslinref14_walk.l0 k l ((d + 1 : Nat) : Int) (n : Int) (i : Int)) ((wkLoop (wk d) n (l.drop i) : Nat) : Int) from
          go _ 0 0 rfl (Nat.zero_le _) (by omega)
        intro e
        induction e with
        | zero =>
          intro i n he hi hn
          refine .succ ?_
          simp only [muslinref14_walk.l0]
          refine .ifn (by omega) (.succ ?_)
          simp only [muslinref14_walk.j2]
          refine .ifn (by simp) (.of ?_)
          rw [List.drop_eq_nil_of_le (by omega)]; rfl
        | succ e ih2 =>
          intro i n he hi hn
          have hdr := (rd_mem l i (by omega)).2
          rw [hdr, wkLoop_cons]
          refine .succ ?_
          simp only [muslinref14_walk.l0]
          refine .ifp (by omega) ?_
          by_cases hn60 : n > 60
          · rw [if_pos hn60, show decide ((n : Int) ≤ 60) = false from decide_eq_false (by omega)]
            refine .succ ?_
            simp only [muslinref14_walk.j2]
            exact .ifn (by simp) (.of rfl)
          · rw [if_neg hn60, show decide ((n : Int) ≤ 60) = true from decide_eq_true (by omega)]
            have hnext := ih2 (i + 1) (n + 1 + wk d (rd_T32 l (i : Int)).f3) (by omega) (by omega) (by have := wk_le d (rd_T32 l (i : Int)).f3; omega)
            have hkid := ih (rd_T32 l (i : Int)).f3 (by omega)
            have hwb := wk_le d (rd_T32 l (i : Int)).f3
            have bad : Ev (fun k => muslinref14_walk.j3 k l ((d + 1 : Nat) : Int) (n : Int) (i : Int) true) 61 := by
              refine .succ ?_
              simp only [muslinref14_walk.j3]
              exact .ifp (by trivial) (.of rfl)
            have l1 (h40 : (rd_T32 l (i : Int)).f1.length ≤ 40) : ∀ (a j : Nat), (rd_T32 l (i : Int)).f1.length - j = a → j ≤ (rd_T32 l (i : Int)).f1.length → Ev (fun k => muslinref14_walk.l1 k l ((d + 1 : Nat) : Int) (n : Int) (i : Int) (j : Int)) (((if bigA ((rd_T32 l (i : Int)).f1.drop j) then 61 else wkLoop (wk d) (n + 1 + wk d (rd_T32 l (i : Int)).f3) (l.drop (i + 1)) : Nat)) : Int) := by
              intro a
              induction a with
              | zero =>
                intro j ha hj
                refine .succ ?_
                simp only [muslinref14_walk.l1]
                rw [show wrap64 (((d + 1 : Nat) : Int) - 1) = (d : Int) from by rw [w64 (by omega) (by omega)]; omega]
                rw [show wrap64 ((i : Int) + 1) = ((i + 1 : Nat) : Int) from by rw [w64 (by omega) (by omega)]; omega]
                rw [show wrap64 ((n : Int) + 1) = ((n + 1 : Nat) : Int) from by rw [w64 (by omega) (by omega)]; omega]
                refine .ifp (by omega) (.ifp (by omega) (.ifn (by omega) (.bind hkid ?_)))
                rw [show wrap64 (((n + 1 : Nat) : Int) + ((wk d (rd_T32 l (i : Int)).f3 : Nat) : Int)) = ((n + 1 + wk d (rd_T32 l (i : Int)).f3 : Nat) : Int) from by rw [w64 (by omega) (by omega)]; omega]
                rw [List.drop_eq_nil_of_le (by omega)]
                exact hnext
              | succ a ih3 =>
                intro j ha hj
                have h51 := rd41 _ j (by omega : j < (rd_T32 l (i : Int)).f1.length)
                rw [h51, bigA_cons]
                refine .succ ?_
                simp only [muslinref14_walk.l1]
                rw [show wrap64 ((j : Int) + 1) = ((j + 1 : Nat) : Int) from by rw [w64 (by omega) (by omega)]; omega]
                refine .ifp (by omega) (.ifp (by omega) (.ifp (by omega) (.ifp (by omega) ?_)))
                by_cases hb1 : (rd_T41 (rd_T32 l (i : Int)).f1 (j : Int)).f0.size > 300
                · rw [decide_eq_true hb1]
                  exact .ifp (by omega) (.of rfl)
                · refine .ifn (by omega) ?_
                  by_cases hb2 : (rd_T41 (rd_T32 l (i : Int)).f1 (j : Int)).f1.size > 300
                  · rw [decide_eq_true hb2, Bool.or_true]
                    exact .ifp (by omega) (.of rfl)
                  · rw [decide_eq_false hb1, decide_eq_false hb2, Bool.or_false, Bool.false_or]
                    exact .ifn (by omega) (ih3 (j + 1) (by omega) (by omega))
            refine .succ ?_
            simp only [muslinref14_walk.j2]
            refine .ifp (by trivial) (.ifp (by omega) (.ifp (by omega) ?_))
            unfold bigN
            by_cases hb1 : (rd_T32 l (i : Int)).f0.size > 300
            · rw [decide_eq_true hb1]
              exact .ifp (by omega) bad
            · refine .ifn (by omega) ?_
              by_cases hb2 : (rd_T32 l (i : Int)).f2.size > 300
              · rw [decide_eq_true hb2, Bool.or_true]
                exact .ifp (by omega) bad
              · refine .ifn (by omega) ?_
                by_cases hb3 : (rd_T32 l (i : Int)).f1.length > 40
                · rw [decide_eq_true hb3, Bool.or_true, show decide (((rd_T32 l (i : Int)).f1.length : Int) > 40) = true from decide_eq_true (by omega)]
                  exact bad
                · rw [show decide (((rd_T32 l (i : Int)).f1.length : Int) > 40) = false from decide_eq_false (by omega), decide_eq_false hb1, decide_eq_false hb2, decide_eq_false hb3, Bool.or_false, Bool.or_false, Bool.false_or]
                  refine .succ ?_
                  simp only [muslinref14_walk.j3]
                  refine .ifn (by simp) ?_
                  have := l1 (by omega) _ 0 rfl (Nat.zero_le _)
                  exact this

end Go.Proofs.YtdgdilbbpnlplaaDoor.Pure
