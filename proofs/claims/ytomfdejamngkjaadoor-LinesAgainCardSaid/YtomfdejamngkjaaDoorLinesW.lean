/- What lines.all's iterator and lines.Cut come to at this program: walks. -/
import Derived.Test.YtomfdejamngkjaaDoorLines
import Derived.Test.YtomfdejamngkjaaDoorRange
import Derived.Test.YtomfdejamngkjaaDoorShelf
import Derived.Shelf.Abstract
import Derived.Shelf.RegionOpen
import Derived.WalkKit
import Derived.OwnWalkIn
import Derived.TacticsInMore
import Derived.LoopNIn
import Derived.LoopIn
import Derived.Lib.Hide
import Derived.Lib.CutLaws
import Derived.Deep.QuietTactic
import Derived.BigQuiet
import Derived.Maps.AppendAt
import Derived.RangeFuncBox
set_option linter.unusedVariables false
namespace Go.Proofs.YtomfdejamngkjaaDoor
open Go.RowKit Go.Shelf Plain Range
attribute [local go_sem] Oper.semAt_some

theorem below_drewN' {B : Nat} {w W : World} (h : Below B w W) (n : Nat) : Below B w (W.drewN n) := ⟨h.os, h.tape, h.output, h.size, h.block⟩

set_option maxHeartbeats 2000000 in
theorem liteCut_one (s : ByteArray) (c : UInt8) (w : World) (hs : s.size ≤ 140737488351232) :
    Calls Tryd.prog 53 #[.string s, .string ⟨#[c]⟩] w fun e w' => e = .returned (.tuple #[.string ⟨(Lib.cut s.data.toList [c]).1.toArray⟩, .string ⟨(Lib.cut s.data.toList [c]).2.1.toArray⟩, .bool (Lib.cut s.data.toList [c]).2.2]) ∧ ∃ n, w' = w.drewN n := by
  have hidx : Lib.indexByte s.data.toList c = Lib.indexB s ⟨#[c]⟩ := (Lib.index_one s.data.toList c).symm
  rcases Lib.indexB_cases s ⟨#[c]⟩ with hix | ⟨i, hix, hroom⟩
  · obtain ⟨e1, e2, e3⟩ := Lib.cutB_miss s ⟨#[c]⟩ hix
    simp only at e1 e2 e3
    rw [e1, e2, e3]
    have hI := Lib.hid (hidx.trans hix)
    clear e1 e2 e3 hidx hix
    go_enter Tryd.func53, Tryd.ntmps53
    go_wp2_with fail
    refine (Tryd.stringslite_Index_one _ _ _).mono ?_
    rintro e w' ⟨rfl, rfl⟩
    rw [hI.out]
    go_wp2
    go_ret3
    exact ⟨rfl, 0, rfl⟩
  · obtain ⟨e1, e2, e3⟩ := Lib.cutB_hit s ⟨#[c]⟩ i hix
    simp only at e1 e2 e3
    rw [e1, e2, e3]
    have hI := Lib.hid (hidx.trans hix)
    have hroom' : i + 1 ≤ s.size := hroom
    have c1 : (0 : Int) ≤ ↑i := by omega
    have c2 : (↑i : Int) ≤ ↑s.size := by omega
    have c3 : (0 : Int) ≤ ↑i + 1 := by omega
    have c4 : (↑i + 1 : Int) ≤ ↑s.size := by omega
    clear e1 e2 e3 hidx hix
    go_enter Tryd.func53, Tryd.ntmps53
    go_wp2_with fail
    refine (Tryd.stringslite_Index_one _ _ _).mono ?_
    rintro e w' ⟨rfl, rfl⟩
    rw [hI.out]
    go_wp2_with fail
    go_quiet (fail)
    go_wp2
    go_ret3
    exact ⟨rfl, _, rfl⟩

set_option maxHeartbeats 1000000 in
theorem cut_one (s : ByteArray) (c : UInt8) (w : World) (hs : s.size ≤ 140737488351232) :
    Calls Tryd.prog 30 #[.string s, .string ⟨#[c]⟩] w fun e w' => e = .returned (.tuple #[.string ⟨(Lib.cut s.data.toList [c]).1.toArray⟩, .string ⟨(Lib.cut s.data.toList [c]).2.1.toArray⟩, .bool (Lib.cut s.data.toList [c]).2.2]) ∧ ∃ n, w' = w.drewN n := by
  go_enter Tryd.func30, Tryd.ntmps30
  go_wp2_with fail
  refine (liteCut_one s c w hs).mono ?_
  rintro e w' ⟨rfl, n, rfl⟩
  go_wp2
  go_ret3
  exact ⟨rfl, n, rfl⟩

def boxLen (X : Nat) (W : World) : Nat := match W.cell? ⟨X, 0, none⟩ with
  | some (.string b) => b.size
  | _ => 0
theorem boxLen_eq {X : Nat} {W : World} {b : ByteArray} (h : Boxed W X 9 (.string b)) : boxLen X W = b.size := by
  unfold boxLen; rw [h.cell]
/-- How a line is handed to a round. -/
def lnV (x : Ln) : Value := .agg #[.string ⟨x.1.toArray⟩, .string ⟨x.2.1.toArray⟩, .bool x.2.2]
theorem bears_drewN {β : Type} {X : Nat} {J : β → World → Prop} (h : Bears X J) {s : β} {W : World} (hs : J s W) (n : Nat) : J s (W.drewN n) :=
  h s W _ none hs ⟨rfl, rfl, rfl, Nat.le_refl _, fun _ _ _ => rfl⟩ (fun r e => by cases e)
theorem bears_set {β : Type} {X : Nat} {J : β → World → Prop} (h : Bears X J) {s : β} {W : World} (hs : J s W) (v : Value) : J s (W.setCell ⟨X, 0, none⟩ v) :=
  h s W _ (some X) hs (grownBy_setCell' W X v) (fun r e => by cases e; rfl)

theorem boxed_set {W : World} {B : Nat} {t : TypeId} {v : Value} (h : Boxed W B t v) (u : Value) : Boxed (W.setCell ⟨B, 0, none⟩ u) B t u := by
  obtain ⟨hlt, hk⟩ := Array.getElem?_eq_some_iff.1 h
  show (W.heap.modify B _)[B]? = _
  rw [Array.getElem?_eq_getElem (by rw [Array.size_modify]; exact hlt), Array.getElem_modify_self, hk]
  rfl

set_option maxRecDepth 100000 in
set_option maxHeartbeats 2000000 in
theorem all_iter (n X : Nat) (hn : 2 ≤ n) (s : ByteArray) (hs : s.size ≤ 140737488351232) (w : World) (hX : Boxed w X 9 (.string s)) :
    Iter Fence.wide n Tryd.prog 42 #[.pointer (some ⟨X, 0, none⟩)] (fun x : Ln => #[lnV x]) X (fun ys => ys = linesL s.data.toList) (fun pre => pre <+: linesL s.data.toList) (linesL s.data.toList).length w := by
  intro l J Jx W hW hJ hJx hY h0
  have hXW : Boxed W X 9 (.string s) := (hW.block X hX.lt).trans hX
  refine callsIn_of_wp Tryd.func42 rfl trivial ?_ rfl
  simp only [Tryd.ntmps42, List.size_toArray, List.length_cons, List.length_nil, Nat.reduceAdd, Nat.reduceSub, Array.replicate_succ, Array.replicate_zero, List.push_toArray, List.append_toArray, List.nil_append, List.cons_append]
  gi_wp2
  gi_loopw [3] (fun _ wr => ∃ (pre : List Ln) (t : ByteArray), t.size ≤ s.size ∧ Hid (pre ++ linesL t.data.toList = linesL s.data.toList) ∧ Hid (Boxed wr X 9 (.string t)) ∧ Hid (J pre wr)) (fun _ wr => boxLen X wr)
  case atStart => exact ⟨[], s, Nat.le_refl _, Lib.hid (by simp), Lib.hid hXW, Lib.hid h0⟩
  case round =>
    obtain ⟨pre, t, hts, HL, HX, HJ⟩ := hrel
    have hc := HX.out.cell
    by_cases h0 : t.size = 0
    · have e0 : t.data.toList = [] := by apply List.eq_nil_of_length_eq_zero; simpa using h0
      have e1 : (!t.toList.isEmpty) = false := by rw [Lib.toList_data, e0]; rfl
      have HE : Hid (pre = linesL s.data.toList) := Lib.hid (by rw [← HL.out, e0, linesL_nil, List.append_nil])
      clear h0 e0
      gi_wp2
      go_end0
      exact ⟨⟨_, rfl⟩, .inl ⟨pre, HE.out, HJ.out⟩⟩
    · have e1 : (!t.toList.isEmpty) = true := by
        rw [Lib.toList_data, Bool.not_eq_true', List.isEmpty_eq_false_iff]
        intro h
        apply h0
        have := congrArg List.length h
        simpa using this
      have hne : t.data.toList ≠ [] := by
        intro h
        rw [Lib.toList_data, h] at e1
        cases e1
      have HN := Lib.hid (linesL_cons hne)
      have HLen := Lib.hid (lineOf_len t.data.toList)
      clear hne h0
      have hts' : t.size ≤ 140737488351232 := by omega
      gi_wp2_with fail
      refine ⟨trivial, fun _ => by omega, (callsIn_wide.2 (cut_one t 10 _ hts')).mono ?_⟩
      rintro e w1 ⟨rfl, nd, rfl⟩
      have hc1 : (wr.drewN nd).cell? ⟨X, 0, none⟩ = some (.string t) := hc
      have hf1 : (wr.drewN nd).frozen? ⟨X, 0, none⟩ = false := HX.out.frozen
      have HX1 : Hid (Boxed (wr.drewN nd) X 9 (.string t)) := Lib.hid HX.out
      have HJ1 : Hid (J pre (wr.drewN nd)) := Lib.hid (bears_drewN hJ HJ.out nd)
      have hlt : Hid (pre.length < (linesL s.data.toList).length) := Lib.hid (by rw [← HL.out, HN.out]; simp)
      have HS : Hid ((lineOf t.data.toList).2.1.length < t.size) := Lib.hid (by
        have := HLen.out.2.2 (by
          intro h
          rw [Lib.toList_data, h] at e1
          cases e1)
        simpa using this)
      clear hc HJ
      obtain ⟨fn, tmps, assign, body, hy, hR⟩ := hY pre (lineOf t.data.toList) (wr.drewN nd) HJ1.out hlt.out
      generalize wr.drewN nd = W1 at *
      cases hfd : (Lib.cut t.data.toList [10]).2.2 with
      | true =>
        have hln : lineOf t.data.toList = (Lib.trimSuffix (Lib.cut t.data.toList [10]).1 [13], (Lib.cut t.data.toList [10]).2.1, true) := by unfold lineOf; rw [hfd]; rfl
        have hsz : (⟨(Lib.cut t.data.toList [10]).1.toArray⟩ : ByteArray).size ≤ 9223372036854775807 := by
          have := (cut_len t.data.toList 10).1
          have e : t.data.toList.length = t.size := by simp
          simp only [ByteArray.size, List.size_toArray]
          omega
        have HLN := Lib.hid hln
        rw [hln] at hy
        unfold lnV at hy
        clear hfd hln
        gi_wp2_with fail
        refine ⟨trivial, fun _ => by omega, (callsIn_wide.2 (Tryd.strings_TrimSuffix _ _ W1 hsz)).mono ?_⟩
        rintro e w1 ⟨rfl, rfl⟩
        gi_wp2
        refine ⟨fun _ => by omega, hR.mono ?_⟩
        rintro e W3 (⟨rfl, hJ3, hk3⟩ | ⟨rfl, hJx3⟩)
        · have HX3 : Hid (Boxed W3 X 9 (.string t)) := Lib.hid (hk3.1.trans HX1.out)
          have hf3 := HX3.out.frozen
          have hc3 := HX3.out.cell
          have HJ3 := Lib.hid hJ3
          have HR : Hid (pre ++ [lineOf t.data.toList] ++ linesL (Lib.cut t.data.toList [10]).2.1 = linesL s.data.toList) := Lib.hid (by
            have h2 : (lineOf t.data.toList).2.1 = (Lib.cut t.data.toList [10]).2.1 := by rw [HLN.out]
            rw [← HL.out, HN.out, h2, List.append_assoc]; rfl)
          have HZ : Hid ((Lib.cut t.data.toList [10]).2.1.length < t.size) := Lib.hid (by
            have h2 : (lineOf t.data.toList).2.1 = (Lib.cut t.data.toList [10]).2.1 := by rw [HLN.out]
            rw [← h2]; exact HS.out)
          clear hk3 hJ3
          gi_wp2
          go_roundw
          case rel =>
            refine ⟨pre ++ [lineOf t.data.toList], ⟨(Lib.cut t.data.toList [10]).2.1.toArray⟩, ?_, HR, Lib.hid ?_, Lib.hid (bears_set hJ HJ3.out _)⟩
            · have := HZ.out
              simp only [ByteArray.size, List.size_toArray] at *
              omega
            · exact boxed_set HX3.out _
          case measure =>
            rw [boxLen_eq (boxed_set HX3.out _), boxLen_eq HX.out]
            have := HZ.out
            simp only [ByteArray.size, List.size_toArray] at *
            omega
        · gi_wp2
          refine bodyPost_ret (results_none rfl _ _ _) rfl ?_
          refine ⟨⟨_, rfl⟩, .inr ⟨pre ++ [lineOf t.data.toList], ⟨linesL (lineOf t.data.toList).2.1, ?_⟩, hJx3⟩⟩
          rw [← HL.out, HN.out, List.append_assoc]; rfl
      | false =>
        have hln : lineOf t.data.toList = ((Lib.cut t.data.toList [10]).1, (Lib.cut t.data.toList [10]).2.1, false) := by unfold lineOf; rw [hfd]; rfl
        have HLN := Lib.hid hln
        rw [hln] at hy
        unfold lnV at hy
        clear hfd hln
        gi_wp2
        refine ⟨fun _ => by omega, hR.mono ?_⟩
        rintro e W3 (⟨rfl, hJ3, hk3⟩ | ⟨rfl, hJx3⟩)
        · have HX3 : Hid (Boxed W3 X 9 (.string t)) := Lib.hid (hk3.1.trans HX1.out)
          have hf3 := HX3.out.frozen
          have hc3 := HX3.out.cell
          have HJ3 := Lib.hid hJ3
          have HR : Hid (pre ++ [lineOf t.data.toList] ++ linesL (Lib.cut t.data.toList [10]).2.1 = linesL s.data.toList) := Lib.hid (by
            have h2 : (lineOf t.data.toList).2.1 = (Lib.cut t.data.toList [10]).2.1 := by rw [HLN.out]
            rw [← HL.out, HN.out, h2, List.append_assoc]; rfl)
          have HZ : Hid ((Lib.cut t.data.toList [10]).2.1.length < t.size) := Lib.hid (by
            have h2 : (lineOf t.data.toList).2.1 = (Lib.cut t.data.toList [10]).2.1 := by rw [HLN.out]
            rw [← h2]; exact HS.out)
          clear hk3 hJ3
          gi_wp2
          go_roundw
          case rel =>
            refine ⟨pre ++ [lineOf t.data.toList], ⟨(Lib.cut t.data.toList [10]).2.1.toArray⟩, ?_, HR, Lib.hid ?_, Lib.hid (bears_set hJ HJ3.out _)⟩
            · have := HZ.out
              simp only [ByteArray.size, List.size_toArray] at *
              omega
            · exact boxed_set HX3.out _
          case measure =>
            rw [boxLen_eq (boxed_set HX3.out _), boxLen_eq HX.out]
            have := HZ.out
            simp only [ByteArray.size, List.size_toArray] at *
            omega
        · gi_wp2
          refine bodyPost_ret (results_none rfl _ _ _) rfl ?_
          refine ⟨⟨_, rfl⟩, .inr ⟨pre ++ [lineOf t.data.toList], ⟨linesL (lineOf t.data.toList).2.1, ?_⟩, hJx3⟩⟩
          rw [← HL.out, HN.out, List.append_assoc]; rfl
set_option maxHeartbeats 1000000 in
theorem all_in (n : Nat) (hn : 1 ≤ n) (s : ByteArray) (w : World) :
    CallsIn Fence.wide n Tryd.prog 22 #[.string s] w fun e w' => e = .returned (.func (.func 42) #[] #[.pointer (some ⟨w.heap.size, 0, none⟩)]) ∧ w' = w.alloc (.cells #[.string s] 9) := by
  refine callsIn_of_wp Tryd.func22 rfl trivial ?_ rfl
  simp only [Tryd.ntmps22, List.size_toArray, List.length_cons, List.length_nil, Nat.reduceAdd, Nat.reduceSub, Array.replicate_succ, Array.replicate_zero, List.push_toArray, List.append_toArray, List.nil_append, List.cons_append]
  gi_wp2
  go_ret
  exact ⟨rfl, rfl⟩

theorem row_weaken {W : World} {base base' : Nat} {e : TypeId} {size : Nat} {v : Value} {k : Nat} {xs : List Value} (h : W.ownsRow base e size v k xs) (hb : base' ≤ base) : W.ownsRow base' e size v k xs := by
  refine ⟨h.1, ?_⟩
  rcases h.2 with hn | ⟨g, cap, cur, hv, hbg, rest⟩
  · exact .inl hn
  · exact .inr ⟨g, cap, cur, hv, Nat.le_trans hb hbg, rest⟩
theorem row_bears {W W' : World} {base : Nat} {e : TypeId} {size : Nat} {v : Value} {k : Nat} {xs : List Value} {X : Nat} {row : Option Nat} (h : W.ownsRow base e size v k xs) (hX : X < base) (hg : W.grownBy W' row) (hr : ∀ r, row = some r → r = X) : W'.ownsRow base e size v k xs := by
  refine h.kept hg ?_
  rcases h.2 with ⟨rfl, _⟩ | ⟨g, cap, cur, rfl, hb, _⟩
  · exact .inl rfl
  · refine .inr fun e' => ?_
    have := hr g e'.symm
    omega

theorem own_base' {w : World} {base : Nat} {e : TypeId} {size n : Nat} {v : Value} {xs : List Value} (h : w.ownsRow base e size v n xs) (k : Nat) (hk : v.ownBlock = some k) : base ≤ k := by
  rcases h.2 with ⟨rfl, _⟩ | ⟨g, cap, cur, rfl, hb, _⟩
  · simp [Value.ownBlock] at hk
  · have : g = k := by simpa [Value.ownBlock] using hk
    omega
theorem infoStr : (Tryd.prog.info? 9).map (fun i => (i.zero, i.size, i.bytes)) = some (some (.string ⟨#[]⟩), 1, 16) := by kernel_rfl
def textV (x : Ln) : Value := .string ⟨x.1.toArray⟩
/-- What holds between two rounds of lines.Cut. -/
def CutAt (w : World) (pre : List Ln) (W : World) : Prop :=
  ((∃ v, Boxed W w.heap.size 24 v ∧ W.ownsRow (w.heap.size + 2) 9 1 v pre.length (pre.map textV) ∧ True) ∧ Below w.heap.size w W) ∧ w.heap.size + 2 ≤ W.heap.size

set_option maxRecDepth 100000 in
set_option maxHeartbeats 4000000 in
theorem cutLines_in (s : ByteArray) (w : World) (hs : s.size ≤ 8796093022207) :
    CallsIn Fence.wide 6 Tryd.prog 11 #[.string s] w fun e w' => ∃ v, e = .returned v ∧ w'.ownsRow w.heap.size 9 1 v (linesL s.data.toList).length ((linesL s.data.toList).map textV) ∧ Below w.heap.size w w' := by
  obtain ⟨i0, hi, hz0, hz1, hz2⟩ := info_parts infoStr
  refine callsIn_of_wp_marks Tryd.func11 rfl trivial ?_ rfl
  simp only [Tryd.ntmps11, List.size_toArray, List.length_cons, List.length_nil, Nat.reduceAdd, Nat.reduceSub, Array.replicate_succ, Array.replicate_zero, List.push_toArray, List.append_toArray, List.nil_append, List.cons_append]
  gi_wp2_with fail
  refine ⟨trivial, (all_in _ (by omega) s _).mono ?_⟩
  rintro e w' ⟨rfl, rfl⟩
  have bL := (Boxed.new w 24 (.slice none 0 0)).alloc (.cells #[.string s] 9)
  have bX := Boxed.new (w.alloc (.cells #[.slice none 0 0] 24)) 9 (.string s)
  simp only [World.size_alloc] at bX
  have hB0 : Below w.heap.size w ((w.alloc (.cells #[.slice none 0 0] 24)).alloc (.cells #[.string s] 9)) := ((Below.refl _ w).alloc (Nat.le_refl _) _).alloc (by simp) _
  have hsz : ((w.alloc (.cells #[.slice none 0 0] 24)).alloc (.cells #[.string s] 9)).heap.size = w.heap.size + 2 := by simp
  gi_wp2_with fail
  obtain ⟨W0, hW0⟩ : ∃ W0, (w.alloc (.cells #[.slice none 0 0] 24)).alloc (.cells #[.string s] 9) = W0 := ⟨_, rfl⟩
  rw [hW0] at bL bX hB0 hsz ⊢
  clear hW0
  have hIX : Bears (w.heap.size + 1) (CutAt w) := by
    rintro pre A B row ⟨⟨⟨v, hv, hrow, _⟩, hb⟩, hz⟩ hg hr
    exact ⟨⟨⟨v, hv.kept hg (fun e => by have := hr _ e.symm; omega), row_bears hrow (by omega) hg hr, trivial⟩, hb.grown hg hb.size (fun k e => by have := hr k e; omega)⟩, Nat.le_trans hz hg.size⟩
  have hIO : OwnFrom W0.heap.size (fun (pre : List Ln) W => (∃ v, Boxed W w.heap.size 24 v ∧ W.ownsRow (w.heap.size + 2) 9 1 v pre.length (pre.map textV) ∧ True) ∧ Below w.heap.size w W) :=
    OwnFrom.and (Own.from (holdsRow_own (w.heap.size + 2) w.heap.size 24 9 1 (fun pre : List Ln => pre.length) (fun pre => pre.map textV) (fun _ _ => True)) _) (ownFrom_below (Nat.le_refl _) (by omega))
  have hIO : OwnFrom W0.heap.size (CutAt w) := OwnFrom.and hIO (fun _ _ _ _ hz hg _ => Nat.le_trans hz hg.size)
  refine range_iter rfl (by omega) (gf := 42) (lb := #[.pointer (some ⟨w.heap.size + 1, 0, none⟩)]) rfl trivial (enters_of Tryd.func42 (by kernel_rfl) rfl)
    (all_iter 5 (w.heap.size + 1) (by omega) s (by omega) W0 bX) (by omega) (Below.refl _ _) (fun _ => rfl)
    (CutAt w) (fun _ _ _ => False) hIO (fun _ _ _ _ _ h _ _ => h) hIX (fun _ _ _ _ _ h _ _ => h)
    ⟨⟨⟨_, bL, ⟨rfl, .inl ⟨rfl, rfl⟩⟩, trivial⟩, hB0⟩, by omega⟩
    (fun x a' W => ∃ Bv, w.heap.size + 2 ≤ Bv ∧ W.heap[Bv]? = some (.cells #[.string ⟨x.1.toArray⟩, .string ⟨x.2.1.toArray⟩, .bool x.2.2] 46 (0, 0)) ∧
      a' = { tmps := #[.string s, undef, .slice none 0 0, .pointer (some ⟨w.heap.size, 0, none⟩), .pointer (some ⟨Bv, 0, none⟩), .string s, .func (.func 42) #[] #[.pointer (some ⟨w.heap.size + 1, 0, none⟩)], lnV x, undef, undef, undef, undef, undef, undef], defers := [] })
    ?hAx ?assign ?body ?done ?stop
  case hAx =>
    rintro x a' _ A B row ⟨Bv, h1, h2, h3⟩ hg hr
    refine ⟨Bv, h1, (hg.block Bv (Array.getElem?_eq_some_iff.1 h2).1 (fun e => ?_)).trans h2, h3⟩
    obtain ⟨_, o, ho, hc⟩ := hr Bv e.symm
    rw [h2] at ho; cases ho; cases hc
  case assign =>
    rintro l pre x W K hi hK
    unfold lnV
    have HI := Lib.hid hi
    have hWs : Hid (w.heap.size + 2 ≤ W.heap.size) := Lib.hid hi.2
    clear hi
    gi_wp2
    refine hK _ _ ((KeepsOthers.alloc W _).from _) ⟨?_, by simp⟩ (hIO.alloc _ HI.out) ⟨W.heap.size, hWs.out, World.alloc_heap_new W _, rfl⟩
    exact Below.heap_alloc W _ _ (by have := hWs.out; omega)
  case body =>
    rintro l pre x a' W hl hr hi ⟨Bv, hBv, hcv, rfl⟩ hlen
    obtain ⟨⟨⟨v, hv, hrow, _⟩, hb⟩, hz⟩ := hi
    have hcx : W.cell? ⟨Bv, 0, none⟩ = some (.string ⟨x.1.toArray⟩) := by simp [World.cell?, hcv]
    have hcl := hv.cell
    have hBvl := (Array.getElem?_eq_some_iff.1 hcv).1
    have hlen2 : pre.length < s.size := by
      have := linesL_len _ s.data.toList (Nat.le_refl _)
      have e : s.data.toList.length = s.size := by simp
      omega
    have HB := Lib.hid hb
    clear hb
    gi_wp2_with (gi_at_builtin
                 refine wpListIn_append_own _ rfl _ _ 24 rfl (w.heap.size + 2) 9 i0 (.string ⟨#[]⟩) 1 16 Tryd.underlying24 hi hz0 hz1 hz2 rfl (by decide) _ _ _ rfl (hrow.alloc _) ⟨W.heap.size, 0, none⟩ 1 1 [textV x] rfl rfl (cell_one_new _ _ _) (by simp [Value.oneCell', textV]) (by unfold maxLen; omega) (by omega) (by simp; omega) ?_
                 intro v' w1 hown' hgrow _
                 obtain ⟨g', cap', rfl⟩ := ownsRow_succ hown'
                 have hne := (hv.alloc (.cells #[textV x] 9)).kept hgrow (hv.not_row (by decide) hrow)
                 obtain ⟨hv1, hv2, hr2, hk2, hb2⟩ := hv.appended (by decide) (row_weaken hrow (show w.heap.size ≤ w.heap.size + 2 by omega)) (by omega) (Nat.le_refl _) (row_weaken hown' (show w.heap.size ≤ w.heap.size + 2 by omega)) hgrow
                 have hrow2 := hown'.kept (grownBy_setCell' w1 w.heap.size (.slice (some ⟨g', 0, none⟩) (pre.length + 1) cap')) (.inr (hv1.not_row (by decide) hown').symm)
                 have hX1 : w1.heap[w.heap.size + 1]? = W.heap[w.heap.size + 1]? := by
                   rw [hgrow.block (w.heap.size + 1) (by simp; omega) (fun e => by have := hrow.lt _ e.symm; have h2 := (own_base' hrow _ e.symm); omega), Below.heap_alloc W _ _ (by omega)]
                 have hc1 := hv1.cell
                 have hf1 := hv1.frozen
                 have HX1 := Lib.hid hX1
                 have HK2 := Lib.hid hk2
                 have HR2 := Lib.hid hrow2
                 have HB2 := Lib.hid hb2
                 have HV2 := Lib.hid hv2
                 clear hX1 hk2 hrow2 hb2 hv2 hne hr2 hgrow hown')
    refine ⟨HK2.out.from _, ⟨?_, HK2.out.size⟩, ⟨⟨⟨_, HV2.out, ?_, trivial⟩, HB.out.trans HB2.out⟩, Nat.le_trans hz HK2.out.size⟩⟩
    · exact (Below.heap_setCell w1 ⟨w.heap.size, 0, none⟩ _ (w.heap.size + 1) (by simp)).trans HX1.out
    · have := HR2.out
      rw [List.length_append, List.map_append]
      exact this
  case done =>
    rintro D ys W hD rfl ⟨⟨⟨v, hv, hrow, _⟩, hb⟩, hz⟩ hK
    have hcl := hv.cell
    have HR := Lib.hid hrow
    have HB := Lib.hid hb
    have HV := Lib.hid hv
    clear hrow hb hv
    gi_wp2
    refine ⟨by simp, .inl ⟨_, _, rfl, run_takeDeferred hK, ?_⟩⟩
    exact ⟨_, results_tmp rfl _ _ _, v, rfl, by simpa using row_weaken (ownsRow_putObj HR.out _ hK rfl) (show w.heap.size ≤ w.heap.size + 2 by omega), HB.out.grown (grownBy_putObj' W D _) HB.out.size (fun k e => by cases e; omega)⟩
  case stop =>
    rintro D c pre W _ _ h _
    exact h.elim

theorem cutLines_any (s : ByteArray) (w : World) (hs : s.size ≤ 8796093022207) :
    Calls Tryd.prog 11 #[.string s] w fun e w' => ∃ v, e = .returned v ∧ w'.ownsRow w.heap.size 9 1 v (linesL s.data.toList).length ((linesL s.data.toList).map textV) ∧ Below w.heap.size w w' :=
  callsIn_wide.1 (cutLines_in s w hs)
end Go.Proofs.YtomfdejamngkjaaDoor
