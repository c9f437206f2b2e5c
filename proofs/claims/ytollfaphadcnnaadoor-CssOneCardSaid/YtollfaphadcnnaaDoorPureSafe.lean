/- css.Safe: the reference answers alike. -/
import Derived.Test.YtollfaphadcnnaaDoorPureCut
import Derived.Test.YtollfaphadcnnaaDoorGiven
import Derived.Test.YtollfaphadcnnaaDoorPrx6
set_option linter.unusedVariables false
set_option linter.unusedSimpArgs false
namespace Go.Proofs.YtollfaphadcnnaaDoor.Pure
open Go Go.RowKit Go.Proofs.YtollfaphadcnnaaDoor.Pr Go.Proofs.YtollfaphadcnnaaDoorW.PrintWords Go.Proofs.YtollfaphadcnnaaDoorW.PrintLast Plain Go.Proofs.YtollfaphadcnnaaDoor
theorem ev_ite {α : Type} {f g : Nat → Option α} {v : α} {p : Prop} [Decidable p] (h1 : p → Ev f v) (h2 : ¬ p → Ev g v) : Ev (fun k => if p then f k else g k) v := by
  by_cases h : p
  · exact .ifp h (h1 h)
  · exact .ifn h (h2 h)
theorem mem_lit {n : ByteArray} {l : List UInt8} (h : n.toList = l) (hm : (⟨l.toArray⟩ : ByteArray) ∈ nmL) : n ∈ nmL := by
  rw [Lib.toList_data] at h
  have : n = ⟨l.toArray⟩ := by rw [← h]
  rw [this]; exact hm
theorem isNm_data (n : ByteArray) : isNm n = decide (Lib.bsGo (fun t => Op.bytesLess (nmAt t).data.toList n.data.toList) 38 0 38 < 38 ∧ nmAt (Lib.bsGo (fun t => Op.bytesLess (nmAt t).data.toList n.data.toList) 38 0 38) = n) := by
  unfold isNm bsI
  simp only [Lib.toList_data]
theorem isNm_mem (n : ByteArray) (h : n ∈ nmL) : isNm n = true := by
  have hall : ∀ n ∈ nmL, decide (Lib.bsGo (fun t => Op.bytesLess (nmAt t).data.toList n.data.toList) 38 0 38 < 38 ∧ nmAt (Lib.bsGo (fun t => Op.bytesLess (nmAt t).data.toList n.data.toList) 38 0 38) = n) = true := by decide +kernel
  rw [isNm_data]
  exact hall n h
theorem mem_isNm (n : ByteArray) (h : isNm n = true) : n ∈ nmL := by
  unfold isNm at h
  obtain ⟨h1, h2⟩ := of_decide_eq_true h
  rw [← h2]
  unfold nmAt
  have hl : bsI n < nmL.length := h1
  rw [List.getD_eq_getElem?_getD, List.getElem?_eq_getElem hl]
  exact List.getElem_mem hl
theorem isNm_iff (n : ByteArray) : isNm n = true ↔ n ∈ nmL := ⟨mem_isNm n, isNm_mem n⟩
def letterB (c : UInt8) : Bool := (decide (97 ≤ c) && decide (c ≤ 122)) || (decide (65 ≤ c) && decide (c ≤ 90))
def digitB (c : UInt8) : Bool := decide (48 ≤ c) && decide (c ≤ 57)
theorem letter_eq : ∀ c : UInt8, muslinref03_Letter.f (c.toNat : Int) = some (letterB c) := u8_all (by decide +kernel)
theorem digit_eq : ∀ c : UInt8, muslinref03_Digit.f (c.toNat : Int) = some (digitB c) := u8_all (by decide +kernel)
def okC (c : UInt8) : Bool := letB.contains c
def spB (c : UInt8) : Bool := [32, 35, 46, 37, 44, 45, 43, 33].contains c
theorem okC_eq : ∀ c : UInt8, okC c = (spB c || (letterB c || digitB c)) := u8_all (by decide +kernel)
theorem okC_no (c : UInt8) (a1 : ¬ (c.toNat : Int) = 32) (a2 : ¬ (c.toNat : Int) = 35) (a3 : ¬ (c.toNat : Int) = 46) (a4 : ¬ (c.toNat : Int) = 37) (a5 : ¬ (c.toNat : Int) = 44) (a6 : ¬ (c.toNat : Int) = 45) (a7 : ¬ (c.toNat : Int) = 43) (a8 : ¬ (c.toNat : Int) = 33) : okC c = (letterB c || digitB c) := by
  have hs : spB c = false := by
    have e : ∀ n : UInt8, ¬ (c.toNat : Int) = (n.toNat : Int) → ¬ c = n := fun n h hc => h ((u8_int c n).2 hc)
    have b1 := e 32 a1
    have b2 := e 35 a2
    have b3 := e 46 a3
    have b4 := e 37 a4
    have b5 := e 44 a5
    have b6 := e 45 a6
    have b7 := e 43 a7
    have b8 := e 33 a8
    simp [spB, b1, b2, b3, b4, b5, b6, b7, b8]
  rw [okC_eq, hs, Bool.false_or]
theorem okC_at (c : UInt8) (n : UInt8) (h : (c.toNat : Int) = (n.toNat : Int)) (hn : okC n = true) : okC c = true := by
  rw [(u8_int c n).1 h]; exact hn
theorem safe_l0 (l : List UInt8) (hl : l.length ≤ 1000) : ∀ (d i : Nat), i + d = l.length → Ev (fun k => muslinref17_Safe.l0 k (B l) (i : Int)) ((l.drop i).all okC) := by
  intro d
  induction d with
  | zero =>
    intro i hi
    refine .succ ?_
    simp only [muslinref17_Safe.l0]
    refine .ifn (by rw [B_size]; omega) (.of ?_)
    rw [List.drop_of_length_le (by omega)]; rfl
  | succ d ih =>
    intro i hi
    refine .succ ?_
    simp only [muslinref17_Safe.l0]
    have h1 : i < l.length := by omega
    refine .ifp (by rw [B_size]; omega) (.ifp (by omega) ?_)
    rw [B_bt, w64 (by omega) (by omega), drop_cons_get l i h1, List.all_cons]
    have hn := ih (i + 1) (by omega)
    generalize l.getD i 0 = c at *
    have hy : okC c = true → Ev (fun k => muslinref17_Safe.l0 k (B l) ((i : Int) + 1)) (okC c && (l.drop (i + 1)).all okC) := fun h => by
      rw [h, Bool.true_and]; exact hn
    refine ev_ite (fun h => hy (okC_at c 32 h (by decide))) (fun a1 => ?_)
    refine ev_ite (fun h => hy (okC_at c 35 h (by decide))) (fun a2 => ?_)
    refine ev_ite (fun h => hy (okC_at c 46 h (by decide))) (fun a3 => ?_)
    refine ev_ite (fun h => hy (okC_at c 37 h (by decide))) (fun a4 => ?_)
    refine ev_ite (fun h => hy (okC_at c 44 h (by decide))) (fun a5 => ?_)
    refine ev_ite (fun h => hy (okC_at c 45 h (by decide))) (fun a6 => ?_)
    refine ev_ite (fun h => hy (okC_at c 43 h (by decide))) (fun a7 => ?_)
    refine ev_ite (fun h => hy (okC_at c 33 h (by decide))) (fun a8 => ?_)
    have hno := okC_no c a1 a2 a3 a4 a5 a6 a7 a8
    refine .bindc (letter_eq c) (ev_ite (fun h => hy (by rw [hno, h]; rfl)) (fun b1 => ?_))
    refine .bindc (digit_eq c) (ev_ite (fun h => hy (by rw [hno, h, Bool.or_true])) (fun b2 => .of ?_))
    rw [hno, Bool.eq_false_iff.2 b1, Bool.eq_false_iff.2 b2]; rfl
theorem trimS_all (l cs : List UInt8) : (Lib.trimS l cs).isEmpty = l.all (fun c => cs.contains c) := by
  have h1 : ∀ l : List UInt8, (l.dropWhile (fun c => cs.contains c)).isEmpty = l.all (fun c => cs.contains c) := by
    intro l
    induction l with
    | nil => rfl
    | cons x l ih =>
      rw [List.dropWhile_cons, List.all_cons]
      cases cs.contains x with
      | true => simpa using ih
      | false => simp
  have h2 : Lib.trimS l cs = (l.reverse.dropWhile (fun c => cs.contains c)).reverse.dropWhile (fun c => cs.contains c) := rfl
  rw [h2, h1, List.all_reverse]
  have h3 : ∀ l : List UInt8, (l.dropWhile (fun c => cs.contains c)).all (fun c => cs.contains c) = l.all (fun c => cs.contains c) := by
    intro l
    induction l with
    | nil => rfl
    | cons x l ih =>
      rw [List.dropWhile_cons, List.all_cons]
      cases hx : cs.contains x with
      | true => simpa using ih
      | false => simp only [Bool.false_eq_true, if_false, List.all_cons, hx, Bool.false_and]
  rw [h3, List.all_reverse]
def okV (v : ByteArray) : Bool := !v.toList.isEmpty && (decide (v.size ≤ 100) && v.data.toList.all okC)
theorem safeB_eq (n v : ByteArray) : safeB n v = (isNm n && okV v) := by
  unfold safeB okV
  rw [trimS_all]; rfl
theorem safe_j0 (v : ByteArray) (hv : v.size ≤ 1000000000) : Ev (fun k => muslinref17_Safe.j0 k v) (okV v) := by
  refine .succ ?_
  simp only [muslinref17_Safe.j0]
  have he : v.toList.isEmpty = decide (v.size = 0) := by
    rw [Lib.toList_data, Bool.eq_iff_iff, List.isEmpty_iff, decide_eq_true_eq]
    constructor
    · intro h; have := congrArg List.length h; simpa using this
    · intro h; exact List.eq_nil_of_length_eq_zero (by simpa using h)
  unfold okV
  rw [he]
  by_cases h0 : v.size = 0
  · refine .ifp (by omega) (.succ ?_)
    simp only [muslinref17_Safe.j1]
    refine .ifp (by first | rfl | trivial) (.of ?_)
    rw [decide_eq_true h0]; rfl
  · refine .ifn (by omega) (.succ ?_)
    simp only [muslinref17_Safe.j1]
    rw [decide_eq_false h0]
    by_cases h1 : v.size ≤ 100
    · refine .ifn (by simp; omega) ?_
      rw [decide_eq_true h1]
      have := safe_l0 v.data.toList (by rw [show v.data.toList.length = v.size by simp]; omega) _ 0 (Nat.zero_add _)
      rw [← B_of v] at this
      simpa using this
    · refine .ifp (by simp; omega) (.of ?_)
      rw [decide_eq_false h1]; rfl
theorem refSafe (n v : ByteArray) (hv : v.size ≤ 1000000000) : Ev (fun k => muslinref17_Safe.f k n v) (safeB n v) := by
  rw [safeB_eq]
  have hj := safe_j0 v hv
  have hyes : n ∈ nmL → Ev (fun k => muslinref17_Safe.j0 k v) (isNm n && okV v) := fun h => by
    rw [isNm_mem n h, Bool.true_and]; exact hj
  unfold muslinref17_Safe.f
  refine ev_ite (fun h => hyes (mem_lit h (by unfold nmL; repeat (first | exact List.Mem.head _ | apply List.Mem.tail)))) (fun n0 => ?_)
  refine ev_ite (fun h => hyes (mem_lit h (by unfold nmL; repeat (first | exact List.Mem.head _ | apply List.Mem.tail)))) (fun n1 => ?_)
  refine ev_ite (fun h => hyes (mem_lit h (by unfold nmL; repeat (first | exact List.Mem.head _ | apply List.Mem.tail)))) (fun n2 => ?_)
  refine ev_ite (fun h => hyes (mem_lit h (by unfold nmL; repeat (first | exact List.Mem.head _ | apply List.Mem.tail)))) (fun n3 => ?_)
  refine ev_ite (fun h => hyes (mem_lit h (by unfold nmL; repeat (first | exact List.Mem.head _ | apply List.Mem.tail)))) (fun n4 => ?_)
  refine ev_ite (fun h => hyes (mem_lit h (by unfold nmL; repeat (first | exact List.Mem.head _ | apply List.Mem.tail)))) (fun n5 => ?_)
  refine ev_ite (fun h => hyes (mem_lit h (by unfold nmL; repeat (first | exact List.Mem.head _ | apply List.Mem.tail)))) (fun n6 => ?_)
  refine ev_ite (fun h => hyes (mem_lit h (by unfold nmL; repeat (first | exact List.Mem.head _ | apply List.Mem.tail)))) (fun n7 => ?_)
  refine ev_ite (fun h => hyes (mem_lit h (by unfold nmL; repeat (first | exact List.Mem.head _ | apply List.Mem.tail)))) (fun n8 => ?_)
  refine ev_ite (fun h => hyes (mem_lit h (by unfold nmL; repeat (first | exact List.Mem.head _ | apply List.Mem.tail)))) (fun n9 => ?_)
  refine ev_ite (fun h => hyes (mem_lit h (by unfold nmL; repeat (first | exact List.Mem.head _ | apply List.Mem.tail)))) (fun n10 => ?_)
  refine ev_ite (fun h => hyes (mem_lit h (by unfold nmL; repeat (first | exact List.Mem.head _ | apply List.Mem.tail)))) (fun n11 => ?_)
  refine ev_ite (fun h => hyes (mem_lit h (by unfold nmL; repeat (first | exact List.Mem.head _ | apply List.Mem.tail)))) (fun n12 => ?_)
  refine ev_ite (fun h => hyes (mem_lit h (by unfold nmL; repeat (first | exact List.Mem.head _ | apply List.Mem.tail)))) (fun n13 => ?_)
  refine ev_ite (fun h => hyes (mem_lit h (by unfold nmL; repeat (first | exact List.Mem.head _ | apply List.Mem.tail)))) (fun n14 => ?_)
  refine ev_ite (fun h => hyes (mem_lit h (by unfold nmL; repeat (first | exact List.Mem.head _ | apply List.Mem.tail)))) (fun n15 => ?_)
  refine ev_ite (fun h => hyes (mem_lit h (by unfold nmL; repeat (first | exact List.Mem.head _ | apply List.Mem.tail)))) (fun n16 => ?_)
  refine ev_ite (fun h => hyes (mem_lit h (by unfold nmL; repeat (first | exact List.Mem.head _ | apply List.Mem.tail)))) (fun n17 => ?_)
  refine ev_ite (fun h => hyes (mem_lit h (by unfold nmL; repeat (first | exact List.Mem.head _ | apply List.Mem.tail)))) (fun n18 => ?_)
  refine ev_ite (fun h => hyes (mem_lit h (by unfold nmL; repeat (first | exact List.Mem.head _ | apply List.Mem.tail)))) (fun n19 => ?_)
  refine ev_ite (fun h => hyes (mem_lit h (by unfold nmL; repeat (first | exact List.Mem.head _ | apply List.Mem.tail)))) (fun n20 => ?_)
  refine ev_ite (fun h => hyes (mem_lit h (by unfold nmL; repeat (first | exact List.Mem.head _ | apply List.Mem.tail)))) (fun n21 => ?_)
  refine ev_ite (fun h => hyes (mem_lit h (by unfold nmL; repeat (first | exact List.Mem.head _ | apply List.Mem.tail)))) (fun n22 => ?_)
  refine ev_ite (fun h => hyes (mem_lit h (by unfold nmL; repeat (first | exact List.Mem.head _ | apply List.Mem.tail)))) (fun n23 => ?_)
  refine ev_ite (fun h => hyes (mem_lit h (by unfold nmL; repeat (first | exact List.Mem.head _ | apply List.Mem.tail)))) (fun n24 => ?_)
  refine ev_ite (fun h => hyes (mem_lit h (by unfold nmL; repeat (first | exact List.Mem.head _ | apply List.Mem.tail)))) (fun n25 => ?_)
  refine ev_ite (fun h => hyes (mem_lit h (by unfold nmL; repeat (first | exact List.Mem.head _ | apply List.Mem.tail)))) (fun n26 => ?_)
  refine ev_ite (fun h => hyes (mem_lit h (by unfold nmL; repeat (first | exact List.Mem.head _ | apply List.Mem.tail)))) (fun n27 => ?_)
  refine ev_ite (fun h => hyes (mem_lit h (by unfold nmL; repeat (first | exact List.Mem.head _ | apply List.Mem.tail)))) (fun n28 => ?_)
  refine ev_ite (fun h => hyes (mem_lit h (by unfold nmL; repeat (first | exact List.Mem.head _ | apply List.Mem.tail)))) (fun n29 => ?_)
  refine ev_ite (fun h => hyes (mem_lit h (by unfold nmL; repeat (first | exact List.Mem.head _ | apply List.Mem.tail)))) (fun n30 => ?_)
  refine ev_ite (fun h => hyes (mem_lit h (by unfold nmL; repeat (first | exact List.Mem.head _ | apply List.Mem.tail)))) (fun n31 => ?_)
  refine ev_ite (fun h => hyes (mem_lit h (by unfold nmL; repeat (first | exact List.Mem.head _ | apply List.Mem.tail)))) (fun n32 => ?_)
  refine ev_ite (fun h => hyes (mem_lit h (by unfold nmL; repeat (first | exact List.Mem.head _ | apply List.Mem.tail)))) (fun n33 => ?_)
  refine ev_ite (fun h => hyes (mem_lit h (by unfold nmL; repeat (first | exact List.Mem.head _ | apply List.Mem.tail)))) (fun n34 => ?_)
  refine ev_ite (fun h => hyes (mem_lit h (by unfold nmL; repeat (first | exact List.Mem.head _ | apply List.Mem.tail)))) (fun n35 => ?_)
  refine ev_ite (fun h => hyes (mem_lit h (by unfold nmL; repeat (first | exact List.Mem.head _ | apply List.Mem.tail)))) (fun n36 => ?_)
  refine ev_ite (fun h => hyes (mem_lit h (by unfold nmL; repeat (first | exact List.Mem.head _ | apply List.Mem.tail)))) (fun n37 => ?_)
  refine .of ?_
  have hno : isNm n = false := by
    rw [Bool.eq_false_iff]
    intro h
    have hm := mem_isNm n h
    clear hyes hj h
    simp only [nmL, List.mem_cons, List.not_mem_nil, or_false] at hm
    rcases hm with rfl | rfl | rfl | rfl | rfl | rfl | rfl | rfl | rfl | rfl | rfl | rfl | rfl | rfl | rfl | rfl | rfl | rfl | rfl | rfl | rfl | rfl | rfl | rfl | rfl | rfl | rfl | rfl | rfl | rfl | rfl | rfl | rfl | rfl | rfl | rfl | rfl | rfl
    · exact n0 (Lib.toList_data _)
    · exact n1 (Lib.toList_data _)
    · exact n2 (Lib.toList_data _)
    · exact n3 (Lib.toList_data _)
    · exact n4 (Lib.toList_data _)
    · exact n5 (Lib.toList_data _)
    · exact n6 (Lib.toList_data _)
    · exact n7 (Lib.toList_data _)
    · exact n8 (Lib.toList_data _)
    · exact n9 (Lib.toList_data _)
    · exact n10 (Lib.toList_data _)
    · exact n11 (Lib.toList_data _)
    · exact n12 (Lib.toList_data _)
    · exact n13 (Lib.toList_data _)
    · exact n14 (Lib.toList_data _)
    · exact n15 (Lib.toList_data _)
    · exact n16 (Lib.toList_data _)
    · exact n17 (Lib.toList_data _)
    · exact n18 (Lib.toList_data _)
    · exact n19 (Lib.toList_data _)
    · exact n20 (Lib.toList_data _)
    · exact n21 (Lib.toList_data _)
    · exact n22 (Lib.toList_data _)
    · exact n23 (Lib.toList_data _)
    · exact n24 (Lib.toList_data _)
    · exact n25 (Lib.toList_data _)
    · exact n26 (Lib.toList_data _)
    · exact n27 (Lib.toList_data _)
    · exact n28 (Lib.toList_data _)
    · exact n29 (Lib.toList_data _)
    · exact n30 (Lib.toList_data _)
    · exact n31 (Lib.toList_data _)
    · exact n32 (Lib.toList_data _)
    · exact n33 (Lib.toList_data _)
    · exact n34 (Lib.toList_data _)
    · exact n35 (Lib.toList_data _)
    · exact n36 (Lib.toList_data _)
    · exact n37 (Lib.toList_data _)
  rw [hno]; rfl
end Go.Proofs.YtollfaphadcnnaaDoor.Pure
