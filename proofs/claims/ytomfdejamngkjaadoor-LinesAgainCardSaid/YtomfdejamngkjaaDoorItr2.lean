/- The iterator of lines.all, its rounds told which line comes next. -/
import Derived.Test.YtomfdejamngkjaaDoorLinesW
import Derived.Test.YtomfdejamngkjaaDoorRng2
set_option linter.unusedVariables false
namespace Go.Proofs.YtomfdejamngkjaaDoor
open Go.RowKit Go.Shelf Plain Range
set_option maxRecDepth 100000 in
set_option maxHeartbeats 2000000 in
theorem all_iter2 (n X : Nat) (hn : 2 ≤ n) (s : ByteArray) (hs : s.size ≤ 140737488351232) (w : World) (hX : Boxed w X 9 (.string s)) :
    Iter2 Fence.wide n Tryd.prog 42 #[.pointer (some ⟨X, 0, none⟩)] (fun x : Ln => #[lnV x]) X (fun ys => ys = linesL s.data.toList) (fun pre => pre <+: linesL s.data.toList) (fun pre x => pre ++ [x] <+: linesL s.data.toList) w := by
  intro l J Jx W hW hJ hJx hY h0
  have hXW : Boxed W X 9 (.string s) := (hW.block X hX.lt).trans hX
  refine callsIn_of_wp Tryd.func42 rfl trivial ?_ rfl
  simp only [Tryd.ntmps42, List.size_toArray, List.length_cons, List.length_nil, Nat.reduceAdd, Nat.reduceSub, Array.replicate_succ, Array.replicate_zero, List.push_toArray, List.append_toArray, List.nil_append, List.cons_append]
  gi_wp2
  gi_loopw [3] (fun _ wr => ∃ (pre : List Ln) (t : ByteArray), t.size ≤ s.size ∧ Hid (pre ++ linesL t.data.toList = linesL s.data.toList) ∧ Hid (Boxed wr X 9 (.string t)) ∧ Hid (J pre wr)) (fun _ wr => boxLen X wr)
  case atStart => exact ⟨[], s, Nat.le_refl _, Lib.hid (by simp), Lib.hid hXW, Lib.hid h0⟩
  case round =>
    obtain ⟨pre, t, hts, HL, HX, HJ⟩ := hrel
    have hc := HX.out.cell
    by_cases h0 : t.size = 0
    · have e0 : t.data.toList = [] := by apply List.eq_nil_of_length_eq_zero; simpa using h0
      have e1 : (!t.toList.isEmpty) = false := by rw [Lib.toList_data, e0]; rfl
      have HE : Hid (pre = linesL s.data.toList) := Lib.hid (by rw [← HL.out, e0, linesL_nil, List.append_nil])
      clear h0 e0
      gi_wp2
      go_end0
      exact ⟨⟨_, rfl⟩, .inl ⟨pre, HE.out, HJ.out⟩⟩
    · have e1 : (!t.toList.isEmpty) = true := by
        rw [Lib.toList_data, Bool.not_eq_true', List.isEmpty_eq_false_iff]
        intro h
        apply h0
        have := congrArg List.length h
        simpa using this
      have hne : t.data.toList ≠ [] := by
        intro h
        rw [Lib.toList_data, h] at e1
        cases e1
      have HN := Lib.hid (linesL_cons hne)
      have HLen := Lib.hid (lineOf_len t.data.toList)
      clear hne h0
      have hts' : t.size ≤ 140737488351232 := by omega
      gi_wp2_with fail
      refine ⟨trivial, fun _ => by omega, (callsIn_wide.2 (cut_one t 10 _ hts')).mono ?_⟩
      rintro e w1 ⟨rfl, nd, rfl⟩
      have hc1 : (wr.drewN nd).cell? ⟨X, 0, none⟩ = some (.string t) := hc
      have hf1 : (wr.drewN nd).frozen? ⟨X, 0, none⟩ = false := HX.out.frozen
      have HX1 : Hid (Boxed (wr.drewN nd) X 9 (.string t)) := Lib.hid HX.out
      have HJ1 : Hid (J pre (wr.drewN nd)) := Lib.hid (bears_drewN hJ HJ.out nd)
      have hlt : Hid (pre ++ [lineOf t.data.toList] <+: linesL s.data.toList) := Lib.hid (by rw [← HL.out, HN.out]; exact ⟨_, by rw [List.append_assoc]; rfl⟩)
      have HS : Hid ((lineOf t.data.toList).2.1.length < t.size) := Lib.hid (by
        have := HLen.out.2.2 (by
          intro h
          rw [Lib.toList_data, h] at e1
          cases e1)
        simpa using this)
      clear hc HJ
      obtain ⟨fn, tmps, assign, body, hy, hR⟩ := hY pre (lineOf t.data.toList) (wr.drewN nd) HJ1.out hlt.out
      generalize wr.drewN nd = W1 at *
      cases hfd : (Lib.cut t.data.toList [10]).2.2 with
      | true =>
        have hln : lineOf t.data.toList = (Lib.trimSuffix (Lib.cut t.data.toList [10]).1 [13], (Lib.cut t.data.toList [10]).2.1, true) := by unfold lineOf; rw [hfd]; rfl
        have hsz : (⟨(Lib.cut t.data.toList [10]).1.toArray⟩ : ByteArray).size ≤ 9223372036854775807 := by
          have := (cut_len t.data.toList 10).1
          have e : t.data.toList.length = t.size := by simp
          simp only [ByteArray.size, List.size_toArray]
          omega
        have HLN := Lib.hid hln
        rw [hln] at hy
        unfold lnV at hy
        clear hfd hln
        gi_wp2_with fail
        refine ⟨trivial, fun _ => by omega, (callsIn_wide.2 (Tryd.strings_TrimSuffix _ _ W1 hsz)).mono ?_⟩
        rintro e w1 ⟨rfl, rfl⟩
        gi_wp2
        refine ⟨fun _ => by omega, hR.mono ?_⟩
        rintro e W3 (⟨rfl, hJ3, hk3⟩ | ⟨rfl, hJx3⟩)
        · have HX3 : Hid (Boxed W3 X 9 (.string t)) := Lib.hid (hk3.1.trans HX1.out)
          have hf3 := HX3.out.frozen
          have hc3 := HX3.out.cell
          have HJ3 := Lib.hid hJ3
          have HR : Hid (pre ++ [lineOf t.data.toList] ++ linesL (Lib.cut t.data.toList [10]).2.1 = linesL s.data.toList) := Lib.hid (by
            have h2 : (lineOf t.data.toList).2.1 = (Lib.cut t.data.toList [10]).2.1 := by rw [HLN.out]
            rw [← HL.out, HN.out, h2, List.append_assoc]; rfl)
          have HZ : Hid ((Lib.cut t.data.toList [10]).2.1.length < t.size) := Lib.hid (by
            have h2 : (lineOf t.data.toList).2.1 = (Lib.cut t.data.toList [10]).2.1 := by rw [HLN.out]
            rw [← h2]; exact HS.out)
          clear hk3 hJ3
          gi_wp2
          go_roundw
          case rel =>
            refine ⟨pre ++ [lineOf t.data.toList], ⟨(Lib.cut t.data.toList [10]).2.1.toArray⟩, ?_, HR, Lib.hid ?_, Lib.hid (bears_set hJ HJ3.out _)⟩
            · have := HZ.out
              simp only [ByteArray.size, List.size_toArray] at *
              omega
            · exact boxed_set HX3.out _
          case measure =>
            rw [boxLen_eq (boxed_set HX3.out _), boxLen_eq HX.out]
            have := HZ.out
            simp only [ByteArray.size, List.size_toArray] at *
            omega
        · gi_wp2
          refine bodyPost_ret (results_none rfl _ _ _) rfl ?_
          refine ⟨⟨_, rfl⟩, .inr ⟨pre ++ [lineOf t.data.toList], ⟨linesL (lineOf t.data.toList).2.1, ?_⟩, hJx3⟩⟩
          rw [← HL.out, HN.out, List.append_assoc]; rfl
      | false =>
        have hln : lineOf t.data.toList = ((Lib.cut t.data.toList [10]).1, (Lib.cut t.data.toList [10]).2.1, false) := by unfold lineOf; rw [hfd]; rfl
        have HLN := Lib.hid hln
        rw [hln] at hy
        unfold lnV at hy
        clear hfd hln
        gi_wp2
        refine ⟨fun _ => by omega, hR.mono ?_⟩
        rintro e W3 (⟨rfl, hJ3, hk3⟩ | ⟨rfl, hJx3⟩)
        · have HX3 : Hid (Boxed W3 X 9 (.string t)) := Lib.hid (hk3.1.trans HX1.out)
          have hf3 := HX3.out.frozen
          have hc3 := HX3.out.cell
          have HJ3 := Lib.hid hJ3
          have HR : Hid (pre ++ [lineOf t.data.toList] ++ linesL (Lib.cut t.data.toList [10]).2.1 = linesL s.data.toList) := Lib.hid (by
            have h2 : (lineOf t.data.toList).2.1 = (Lib.cut t.data.toList [10]).2.1 := by rw [HLN.out]
            rw [← HL.out, HN.out, h2, List.append_assoc]; rfl)
          have HZ : Hid ((Lib.cut t.data.toList [10]).2.1.length < t.size) := Lib.hid (by
            have h2 : (lineOf t.data.toList).2.1 = (Lib.cut t.data.toList [10]).2.1 := by rw [HLN.out]
            rw [← h2]; exact HS.out)
          clear hk3 hJ3
          gi_wp2
          go_roundw
          case rel =>
            refine ⟨pre ++ [lineOf t.data.toList], ⟨(Lib.cut t.data.toList [10]).2.1.toArray⟩, ?_, HR, Lib.hid ?_, Lib.hid (bears_set hJ HJ3.out _)⟩
            · have := HZ.out
              simp only [ByteArray.size, List.size_toArray] at *
              omega
            · exact boxed_set HX3.out _
          case measure =>
            rw [boxLen_eq (boxed_set HX3.out _), boxLen_eq HX.out]
            have := HZ.out
            simp only [ByteArray.size, List.size_toArray] at *
            omega
        · gi_wp2
          refine bodyPost_ret (results_none rfl _ _ _) rfl ?_
          refine ⟨⟨_, rfl⟩, .inr ⟨pre ++ [lineOf t.data.toList], ⟨linesL (lineOf t.data.toList).2.1, ?_⟩, hJx3⟩⟩
          rw [← HL.out, HN.out, List.append_assoc]; rfl
end Go.Proofs.YtomfdejamngkjaaDoor
