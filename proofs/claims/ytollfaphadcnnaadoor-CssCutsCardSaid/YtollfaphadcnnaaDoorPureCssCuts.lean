/- CssCuts: any style's declarations, and what is let through of it. -/
import Derived.Test.YtollfaphadcnnaaDoorPureRefCut
set_option linter.unusedVariables false
set_option linter.unusedSimpArgs false
set_option linter.unusedSectionVars false
namespace Go.Proofs.YtollfaphadcnnaaDoor.Pure
open Go Go.RowKit Go.Proofs.YtollfaphadcnnaaDoor.Pr Go.Proofs.YtollfaphadcnnaaDoorW.PrintWords Go.Proofs.YtollfaphadcnnaaDoorW.PrintLast Plain Go.Proofs.YtollfaphadcnnaaDoor
theorem refSmallF (l : List UInt8) (h : l.length ≤ 1000000000) : muslinref03_Small.f (B l) = some (B (small l)) := by
  unfold muslinref03_Small.f
  rw [if_pos (by rw [B_size]; omega)]; rfl
theorem refCut_l0 (ps : List (List UInt8)) (hp : ∀ p ∈ ps, p.length ≤ 1000000) (hn : ps.length ≤ 2000000) : ∀ (d i : Nat) (X : List S29), i + d = ps.length → X.length ≤ i → Ev (fun k => muslinref17_Cut.l0 k (bytesOf ps) X (i : Int)) (X ++ (ps.drop i).flatMap declOf) := by
  intro d
  induction d with
  | zero =>
    intro i X hi hX
    refine .succ ?_
    simp only [muslinref17_Cut.l0]
    refine .ifn (by rw [bytesOf_len]; omega) (.of ?_)
    rw [List.drop_of_length_le (by omega)]; simp
  | succ d ih =>
    intro i X hi hX
    have h1 : i < ps.length := by omega
    have hpl := hp ps[i] (List.getElem_mem h1)
    refine .succ ?_
    simp only [muslinref17_Cut.l0]
    refine .ifp (by rw [bytesOf_len]; omega) ?_
    rw [List.drop_eq_getElem_cons h1, List.flatMap_cons, ← List.append_assoc]
    have hl1 : ∀ (e j : Nat), j + e = (brk1 58 ps[i]).1.length → Ev (fun k => muslinref17_Cut.l1 k (bytesOf ps) X (i : Int) (j : Int)) (X ++ declOf ps[i] ++ (ps.drop (i + 1)).flatMap declOf) := by
      intro e
      induction e with
      | zero =>
        intro j hj
        refine .succ ?_
        simp only [muslinref17_Cut.l1]
        refine .ifp (by omega) (.ifp (by rw [bytesOf_len]; omega) ?_)
        rw [rd_bytes ps i h1, w64 (i := (i : Int) + 1) (by omega) (by omega)]
        cases hf : (brk1 58 ps[i]).2.2 with
        | false =>
          obtain ⟨e1, e2⟩ := brk_none _ 58 hf
          rw [e1] at hj
          have hd : declOf ps[i] = [] := by
            unfold declOf
            rw [if_neg]
            intro h
            apply h.2
            unfold vlOf
            rw [brk1_cut, e2]; rfl
          rw [hd, List.append_nil]
          exact .ifn (by rw [B_size]; omega) (ih (i + 1) X (by omega) (by omega))
        | true =>
          obtain ⟨e1, e2, e3, e4⟩ := brk_at _ 58 hf
          obtain rfl : j = (brk1 58 ps[i]).1.length := by omega
          refine .ifp (by rw [B_size]; omega) (.ifp (by omega) (.ifp (by rw [B_bt, e2]; rfl) (.ifp (by rw [B_size]; omega) ?_)))
          rw [Int.toNat_natCast, B_upto, e3, w64 (by omega) (by omega)]
          have hnm : nmOf ps[i] = small (Lib.trimS (brk1 58 ps[i]).1 wh) := by unfold nmOf; rw [brk1_cut]
          have hvl : vlOf ps[i] = Lib.trimS (brk1 58 ps[i]).2.1 wh := by unfold vlOf; rw [brk1_cut]
          have hz1 := (trimS_sub (brk1 58 ps[i]).1 wh).length_le
          refine .bind (trim_ev _ (by omega)) (.bindc (refSmallF _ (by omega)) (.ifp (by omega) (.ifp (by rw [B_size]; omega) ?_)))
          have ex : (B ps[i]).extract (((brk1 58 ps[i]).1.length : Int) + 1).toNat (B ps[i]).size = B (brk1 58 ps[i]).2.1 := by
            rw [show (((brk1 58 ps[i]).1.length : Int) + 1).toNat = (brk1 58 ps[i]).1.length + 1 by omega, B_size, B_from, e4]
          rw [ex]
          have hz2 : (brk1 58 ps[i]).2.1.length ≤ ps[i].length := by rw [← e4, List.length_drop]; omega
          refine .bind (trim_ev _ (by omega)) ?_
          rw [← hnm, ← hvl, B_list, B_list]
          refine ev_ite (fun hn0 => ?_) (fun hn0 => ev_ite (fun hv0 => ?_) (fun hv0 => ?_))
          · have hd : declOf ps[i] = [] := by unfold declOf; rw [if_neg (fun h => h.1 hn0)]
            rw [hd, List.append_nil]
            exact ih (i + 1) X (by omega) (by omega)
          · have hd : declOf ps[i] = [] := by unfold declOf; rw [if_neg (fun h => h.2 hv0)]
            rw [hd, List.append_nil]
            exact ih (i + 1) X (by omega) (by omega)
          · have hd : declOf ps[i] = [⟨B (nmOf ps[i]), B (vlOf ps[i])⟩] := by unfold declOf; rw [if_pos ⟨hn0, hv0⟩]
            rw [hd]
            exact .ifp (by omega) (ih (i + 1) _ (by omega) (by simp; omega))
      | succ e ihe =>
        intro j hj
        have hle : (brk1 58 ps[i]).1.length ≤ ps[i].length := by
          cases hf : (brk1 58 ps[i]).2.2 with
          | false => rw [(brk_none _ 58 hf).1]; exact Nat.le_refl _
          | true => exact Nat.le_of_lt (brk_at _ 58 hf).1
        refine .succ ?_
        simp only [muslinref17_Cut.l1]
        refine .ifp (by omega) (.ifp (by rw [bytesOf_len]; omega) ?_)
        rw [rd_bytes ps i h1]
        refine .ifp (by rw [B_size]; omega) (.ifp (by omega) (.ifn ?_ ?_))
        · rw [B_bt]
          exact fun h => brk_get ps[i] 58 j (by omega) ((u8_int _ 58).1 h)
        · rw [w64 (i := (j : Int) + 1) (by omega) (by omega)]
          exact ihe (j + 1) (by omega)
    exact hl1 _ 0 (Nat.zero_add _)
theorem refCut_ev (l : List UInt8) (hl : l.length ≤ 1000000) : Ev (fun k => muslinref17_Cut.f k (B l)) (cutV l) := by
  unfold muslinref17_Cut.f
  refine .bind (pieces_ev l hl) ?_
  have hp : ∀ p ∈ piecesL l, p.length ≤ 1000000 := fun p hp => Nat.le_trans (piecesL_mem _ l p (Nat.lt_succ_self _) hp) hl
  have hn := piecesL_len _ l (Nat.lt_succ_self _)
  have := refCut_l0 (piecesL l) hp (by omega) _ 0 [] (Nat.zero_add _) (by simp)
  rw [List.drop_zero, List.nil_append] at this
  exact this
/-! ### What is let through -/
theorem rd29 (l : List S29) (i : Nat) (h : i < l.length) : rd_T29 l (i : Int) = l[i] := by
  unfold rd_T29
  rw [Int.toNat_natCast, List.getD_eq_getElem?_getD, List.getElem?_eq_getElem h]
  rfl
def lineL (x : S29) : List UInt8 := x.f0.data.toList ++ 58 :: 32 :: x.f1.data.toList
def selB (A : List S29) (i : Nat) (x : S29) : Bool := safeB x.f0 x.f1 && !(A.drop (i + 1)).any (fun e => e.f0.toList == x.f0.toList && safeB e.f0 e.f1)
def selL : List S29 → List S29
  | [] => []
  | x :: r => (if safeB x.f0 x.f1 && !r.any (fun e => e.f0.toList == x.f0.toList && safeB e.f0 e.f1) then [x] else []) ++ selL r
theorem selL_eq : ∀ A : List S29, selL A = lastE (keepL A)
  | [] => rfl
  | x :: r => by
    have ih := selL_eq r
    rw [selL, ih]
    unfold keepL
    rw [List.filter_cons]
    cases hs : safeB x.f0 x.f1 with
    | false => simp
    | true =>
      rw [if_pos rfl, lastE]
      have : (r.filter fun x => safeB x.f0 x.f1).any (fun e => e.f0.toList == x.f0.toList) = r.any (fun e => e.f0.toList == x.f0.toList && safeB e.f0 e.f1) := by
        rw [List.any_filter]
        congr 1
        funext e
        rw [Bool.and_comm]
      rw [this]
      cases r.any (fun e => e.f0.toList == x.f0.toList && safeB e.f0 e.f1) <;> rfl
def accL (out t : List UInt8) : List UInt8 := if out = [] then t else out ++ 59 :: 32 :: t
theorem acc_join : ∀ (E : List S29) (out : List UInt8), (∀ x ∈ E, x.f0.data.toList ≠ []) → (E.foldl (fun o x => accL o (lineL x)) out) = if out = [] then joinE E else out ++ (E.map fun x => 59 :: 32 :: lineL x).flatten
  | [], out, _ => by
    split
    · rename_i h; rw [h]; simp [joinE, Lib.join, List.intercalate]
    · simp
  | x :: r, out, h => by
    have hne : lineL x ≠ [] := by unfold lineL; simp
    have ih := acc_join r (accL out (lineL x)) (fun y hy => h y (by simp [hy]))
    rw [List.foldl_cons, ih]
    have h0 : accL out (lineL x) ≠ [] := by
      unfold accL
      split
      · exact hne
      · simp
    rw [if_neg h0]
    unfold accL
    split
    · have := Lib.join_cons (lineL x) (r.map lineL) [59, 32]
      unfold joinE
      rw [List.map_cons]
      show _ = Lib.join (lineL x :: r.map lineL) [59, 32]
      rw [this]
      unfold Lib.joinTail
      rw [List.map_map]
      rfl
    · simp
section
variable (A : List S29) (hA : A.length ≤ 2000000) (hm : ∀ x ∈ A, x.f0.size ≤ 1000000 ∧ x.f1.size ≤ 1000000)
include hA hm
theorem clean_l1 (i : Nat) (hi : i < A.length) (out : List UInt8) (ho : out.length ≤ i * 3000000) (V : ByteArray)
    (hnext : Ev (fun k => muslinref17_Clean.l0 k A (B (if selB A i A[i] then accL out (lineL A[i]) else out)) ((i + 1 : Nat) : Int)) V) :
    ∀ (d j : Nat) (q : Bool), j + d = A.length → (selB A i A[i] = (q && !(A.drop j).any (fun e => e.f0.toList == A[i].f0.toList && safeB e.f0 e.f1))) → Ev (fun k => muslinref17_Clean.l1 k A (B out) (i : Int) q (j : Int)) V := by
  intro d
  induction d with
  | zero =>
    intro j q hj hq
    rw [List.drop_of_length_le (by omega)] at hq
    have hq' : selB A i A[i] = q := by rw [hq]; simp
    rw [hq'] at hnext
    have hsz := hm A[i] (List.getElem_mem hi)
    have s1 : (⟨#[58, 32]⟩ : ByteArray).size = 2 := rfl
    have s2 : (⟨#[59, 32]⟩ : ByteArray).size = 2 := rfl
    refine .succ ?_
    simp only [muslinref17_Clean.l1]
    rw [rd29 A i hi, w64 (i := (i : Int) + 1) (by omega) (by omega)]
    refine .ifn (by omega) ?_
    cases q with
    | false =>
      refine .ifn (by simp) ?_
      simp only [Bool.false_eq_true, if_false] at hnext
      exact hnext
    | true =>
      rw [if_pos rfl] at hnext
      refine .ifp rfl ?_
      unfold accL at hnext
      refine ev_ite (fun h0 => ?_) (fun h0 => ?_)
      · rw [B_list] at h0
        rw [if_pos h0] at hnext
        have e : B out ++ A[i].f0 ++ (⟨#[58, 32]⟩ : ByteArray) ++ A[i].f1 = B (lineL A[i]) := by
          rw [h0, B_of A[i].f0, B_of A[i].f1, show (⟨#[58, 32]⟩ : ByteArray) = B [58, 32] from rfl, B_append, B_append, B_append]
          simp [lineL]
        rw [e]
        refine .ifp (by omega) (.ifp (by omega) (.ifp (by rw [B_size]; omega) (.ifp (by rw [ByteArray.size_append, B_size]; omega) (.ifp (by rw [ByteArray.size_append, ByteArray.size_append, s1, B_size]; omega) hnext))))
      · rw [B_list] at h0
        rw [if_neg h0] at hnext
        have e : B out ++ (⟨#[59, 32]⟩ : ByteArray) ++ A[i].f0 ++ (⟨#[58, 32]⟩ : ByteArray) ++ A[i].f1 = B (out ++ 59 :: 32 :: lineL A[i]) := by
          rw [B_of A[i].f0, B_of A[i].f1, show (⟨#[58, 32]⟩ : ByteArray) = B [58, 32] from rfl, show (⟨#[59, 32]⟩ : ByteArray) = B [59, 32] from rfl, B_append, B_append, B_append, B_append]
          simp [lineL]
        rw [e]
        refine .ifp (by rw [B_size]; omega) (.ifp (by omega) (.ifp (by omega) (.ifp (by rw [ByteArray.size_append, s2, B_size]; omega) (.ifp (by rw [ByteArray.size_append, ByteArray.size_append, s2, B_size]; omega) (.ifp (by rw [ByteArray.size_append, ByteArray.size_append, ByteArray.size_append, s1, s2, B_size]; omega) hnext)))))
  | succ d ih =>
    intro j q hj hq
    have h1 : j < A.length := by omega
    refine .succ ?_
    simp only [muslinref17_Clean.l1]
    rw [rd29 A i hi, rd29 A j h1, w64 (i := (j : Int) + 1) (by omega) (by omega)]
    rw [List.drop_eq_getElem_cons h1, List.any_cons] at hq
    refine .ifp (by omega) (.ifp (by omega) (.ifp (by omega) (.ifp (by omega) (ev_ite (fun he => ?_) (fun he => ?_)))))
    · have hb : (A[j].f0.toList == A[i].f0.toList) = true := by rw [he]; simp
      rw [hb, Bool.true_and] at hq
      have hsz := hm A[j] (List.getElem_mem h1)
      refine .bind (refSafe _ _ (by omega)) (ev_ite (fun hs => ?_) (fun hs => ?_))
      · rw [hs] at hq
        exact ih (j + 1) false (by omega) (by rw [hq]; simp)
      · rw [Bool.eq_false_iff.2 hs, Bool.false_or] at hq
        exact ih (j + 1) q (by omega) hq
    · have hb : (A[j].f0.toList == A[i].f0.toList) = false := by rw [beq_eq_false_iff_ne]; exact he
      rw [hb, Bool.false_and, Bool.false_or] at hq
      exact ih (j + 1) q (by omega) hq
theorem clean_l0 : ∀ (d i : Nat) (out : List UInt8), i + d = A.length → out.length ≤ i * 3000000 → Ev (fun k => muslinref17_Clean.l0 k A (B out) (i : Int)) (B ((selL (A.drop i)).foldl (fun o x => accL o (lineL x)) out)) := by
  intro d
  induction d with
  | zero =>
    intro i out hi ho
    refine .succ ?_
    simp only [muslinref17_Clean.l0]
    refine .ifn (by omega) (.of ?_)
    rw [List.drop_of_length_le (by omega)]; rfl
  | succ d ih =>
    intro i out hi ho
    have h1 : i < A.length := by omega
    have hsz := hm A[i] (List.getElem_mem h1)
    have e1 : A[i].f0.data.toList.length = A[i].f0.size := by simp
    have e2 : A[i].f1.data.toList.length = A[i].f1.size := by simp
    refine .succ ?_
    simp only [muslinref17_Clean.l0]
    rw [rd29 A i h1, w64 (i := (i : Int) + 1) (by omega) (by omega)]
    refine .ifp (by omega) (.ifp (by omega) (.bind (refSafe _ _ (by omega)) ?_))
    have hstep : (selL (A.drop i)).foldl (fun o x => accL o (lineL x)) out = (selL (A.drop (i + 1))).foldl (fun o x => accL o (lineL x)) (if selB A i A[i] then accL out (lineL A[i]) else out) := by
      rw [List.drop_eq_getElem_cons h1, selL]
      unfold selB
      split <;> rfl
    rw [hstep]
    have hl : (lineL A[i]).length ≤ 2000002 := by
      unfold lineL
      simp only [List.length_append, List.length_cons]
      omega
    have hacc : (accL out (lineL A[i])).length ≤ (i + 1) * 3000000 := by
      unfold accL
      by_cases h0 : out = []
      · rw [if_pos h0]; omega
      · rw [if_neg h0, List.length_append, List.length_cons, List.length_cons]; omega
    have hlen : (if selB A i A[i] then accL out (lineL A[i]) else out).length ≤ (i + 1) * 3000000 := by
      cases selB A i A[i] with
      | true => simp only [if_true]; exact hacc
      | false => simp only [Bool.false_eq_true, if_false]; exact Nat.le_trans ho (Nat.mul_le_mul_right _ (Nat.le_succ i))
    have hsel : selB A i A[i] = (safeB A[i].f0 A[i].f1 && !(A.drop (i + 1)).any (fun e => e.f0.toList == A[i].f0.toList && safeB e.f0 e.f1)) := by unfold selB; rfl
    have hih := ih (i + 1) _ (by omega) hlen
    exact clean_l1 A hA hm i h1 out ho _ hih (A.length - (i + 1)) (i + 1) (safeB A[i].f0 A[i].f1) (by omega) hsel
end
theorem refClean_ev (l : List UInt8) (hl : l.length ≤ 1000000) : Ev (fun k => muslinref17_Clean.f k (B l)) (cleanV l) := by
  unfold muslinref17_Clean.f
  refine .bind (refCut_ev l hl) ?_
  have h1 := cutV_len l
  have h := clean_l0 (cutV l) (by omega) (fun x hx => by have := cutV_mem l x hx; omega) _ 0 [] (Nat.zero_add _) (by simp)
  rw [List.drop_zero, selL_eq, acc_join (lastE (keepL (cutV l))) [] (fun x hx => (nm_facts (ents_ent l x hx).nm).1), if_pos rfl] at h
  rw [clean_ents]
  exact h
theorem CssCuts : muslinlaw17_CssCuts.Pure := by
  intro a0 _
  refine Ev.ex ?_
  unfold muslinlaw17_CssCuts.f muslinlaw17_short.f
  rw [B_of a0]
  generalize a0.data.toList = l
  refine .bindc rfl ?_
  by_cases h : l.length ≤ 3000
  · have h1 := cutV_len l
    refine .ifp (by rw [B_size]; exact decide_eq_true (by omega)) (.bind (cut_ev l (by omega)) (.bind (refCut_ev l (by omega)) (.bind (same_refl _ (by omega)) (.ifp rfl (.bindc (cleanEq l (by omega)) (.bind (refClean_ev l (by omega)) ?_))))))
    exact .ifp rfl (.bind live_ev (.pure _))
  · exact .ifn (by rw [B_size]; simp; omega) (.bind live_ev (.pure _))
end Go.Proofs.YtollfaphadcnnaaDoor.Pure
