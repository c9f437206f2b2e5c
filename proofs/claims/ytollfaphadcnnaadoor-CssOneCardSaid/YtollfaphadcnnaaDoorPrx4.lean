/- Written by a program of this session (printa.py), with functions proved by hand counted as printed; Lean checks it. -/
import Derived.Test.YtollfaphadcnnaaDoorPrx0
import Derived.Test.YtollfaphadcnnaaDoorPrx2
import Derived.Test.YtollfaphadcnnaaDoorPrx3
import Derived.Test.YtollfaphadcnnaaDoorPrxC
import Derived.Test.YtollfaphadcnnaaDoorGiven
namespace Go.Proofs.YtollfaphadcnnaaDoor.Pr
open Go.RowKit Go.Proofs.YtollfaphadcnnaaDoorW.PrintWords Go.Proofs.YtollfaphadcnnaaDoorW.PrintLast Go.Proofs.YtollfaphadcnnaaDoorW.PrintMore
attribute [local go_sem] max2_int min2_int max_two min_two max_three min_three max_four min_four   -- for this text's walks alone
set_option linter.unusedVariables false
set_option linter.unusedSimpArgs false

/-! ### muslinlaw17_live: function 10 -/
def muslinlaw17_live.f (k : Nat)  : Option (Bool) := (css_Clean.f (⟨#[67, 79, 76, 79, 82, 58, 32, 114, 101, 100, 59, 32, 98, 97, 99, 107, 103, 114, 111, 117, 110, 100, 58, 32, 117, 114, 108, 40, 120, 59, 121, 41, 59, 32, 120, 59, 32, 99, 111, 108, 111, 114, 58, 98, 108, 117, 101, 32, 59, 119, 105, 100, 116, 104, 58, 49, 112, 120]⟩ : ByteArray)).bind fun t123 => (if t123.toList = ([99, 111, 108, 111, 114, 58, 32, 98, 108, 117, 101, 59, 32, 119, 105, 100, 116, 104, 58, 32, 49, 112, 120] : List UInt8) then ((css_Clean.f (⟨#[99, 111, 108, 111, 114, 58, 32, 34, 97, 59, 98, 34, 59, 32, 119, 105, 100, 116, 104, 58, 32, 101, 120, 112, 114, 101, 115, 115, 105, 111, 110, 40, 49, 41]⟩ : ByteArray)).bind fun t124 => (if t124.toList = ([] : List UInt8) then ((css_Safe.f (⟨#[99, 111, 108, 111, 114]⟩ : ByteArray) (⟨#[35, 102, 102, 102]⟩ : ByteArray)).bind fun t125 => (if t125 = true then ((css_Safe.f (⟨#[67, 111, 108, 111, 114]⟩ : ByteArray) (⟨#[114, 101, 100]⟩ : ByteArray)).bind fun t126 => (if t126 = true then (some false) else ((css_Cut.f k (⟨#[97, 58, 39, 98, 59, 39, 59, 99, 58, 100, 58, 101]⟩ : ByteArray)).bind fun t127 => ((muslinref17_Same.f k t127 (([(⟨(⟨#[97]⟩ : ByteArray), (⟨#[39, 98, 59, 39]⟩ : ByteArray)⟩ : S29), (⟨(⟨#[99]⟩ : ByteArray), (⟨#[100, 58, 101]⟩ : ByteArray)⟩ : S29)] : List (S29)))).bind fun t133 => (some t133))))) else (some false))) else (some false))) else (some false))
theorem muslinlaw17_live.mono : ∀ k, LeO (muslinlaw17_live.f k ) (muslinlaw17_live.f (k + 1) ) := by
  intro  k
  unfold muslinlaw17_live.f
  repeat' first
      | (with_reducible exact css_Cut.mono _ _)
      | (with_reducible exact muslinref17_Same.mono _ _ _)
      | (with_reducible exact LeO.refl _)
      | (with_reducible exact LeO.none _)
      | (with_reducible refine LeO.ite ?_ ?_)
      | (with_reducible refine LeO.bind ?_ (fun _ => ?_))
      | exact css_Cut.mono _ _
      | exact muslinref17_Same.mono _ _ _
      | exact LeO.none _
      | refine LeO.ite ?_ ?_
      | refine LeO.bind ?_ (fun _ => ?_)
set_option maxHeartbeats 8000000 in
set_option maxRecDepth 100000 in
theorem muslinlaw17_live.calls (k : Nat)  (r : Bool) (w : World) (h : muslinlaw17_live.f k  = some r) (hN : NmAt w) :
    Calls Tryd.prog 10 #[] w fun e w' => e = .returned (.bool r) ∧ Below w.heap.size w w' := by
  have HN := Aside0.mk hN
  clear hN
  have hu29 := Tryd.underlying29
  have HB := Aside0.mk (Below.refl w.heap.size w)
  have H : ((css_Clean.f (⟨#[67, 79, 76, 79, 82, 58, 32, 114, 101, 100, 59, 32, 98, 97, 99, 107, 103, 114, 111, 117, 110, 100, 58, 32, 117, 114, 108, 40, 120, 59, 121, 41, 59, 32, 120, 59, 32, 99, 111, 108, 111, 114, 58, 98, 108, 117, 101, 32, 59, 119, 105, 100, 116, 104, 58, 49, 112, 120]⟩ : ByteArray)).bind fun t123 => (if t123.toList = ([99, 111, 108, 111, 114, 58, 32, 98, 108, 117, 101, 59, 32, 119, 105, 100, 116, 104, 58, 32, 49, 112, 120] : List UInt8) then ((css_Clean.f (⟨#[99, 111, 108, 111, 114, 58, 32, 34, 97, 59, 98, 34, 59, 32, 119, 105, 100, 116, 104, 58, 32, 101, 120, 112, 114, 101, 115, 115, 105, 111, 110, 40, 49, 41]⟩ : ByteArray)).bind fun t124 => (if t124.toList = ([] : List UInt8) then ((css_Safe.f (⟨#[99, 111, 108, 111, 114]⟩ : ByteArray) (⟨#[35, 102, 102, 102]⟩ : ByteArray)).bind fun t125 => (if t125 = true then ((css_Safe.f (⟨#[67, 111, 108, 111, 114]⟩ : ByteArray) (⟨#[114, 101, 100]⟩ : ByteArray)).bind fun t126 => (if t126 = true then (some false) else ((css_Cut.f k (⟨#[97, 58, 39, 98, 59, 39, 59, 99, 58, 100, 58, 101]⟩ : ByteArray)).bind fun t127 => ((muslinref17_Same.f k t127 (([(⟨(⟨#[97]⟩ : ByteArray), (⟨#[39, 98, 59, 39]⟩ : ByteArray)⟩ : S29), (⟨(⟨#[99]⟩ : ByteArray), (⟨#[100, 58, 101]⟩ : ByteArray)⟩ : S29)] : List (S29)))).bind fun t133 => (some t133))))) else (some false))) else (some false))) else (some false))) = some r := h
  clear h
  replace H := Option.bind_eq_some_iff.mp H
  obtain ⟨t123, A10, H⟩ := H
  replace H : (if t123.toList = ([99, 111, 108, 111, 114, 58, 32, 98, 108, 117, 101, 59, 32, 119, 105, 100, 116, 104, 58, 32, 49, 112, 120] : List UInt8) then ((css_Clean.f (⟨#[99, 111, 108, 111, 114, 58, 32, 34, 97, 59, 98, 34, 59, 32, 119, 105, 100, 116, 104, 58, 32, 101, 120, 112, 114, 101, 115, 115, 105, 111, 110, 40, 49, 41]⟩ : ByteArray)).bind fun t124 => (if t124.toList = ([] : List UInt8) then ((css_Safe.f (⟨#[99, 111, 108, 111, 114]⟩ : ByteArray) (⟨#[35, 102, 102, 102]⟩ : ByteArray)).bind fun t125 => (if t125 = true then ((css_Safe.f (⟨#[67, 111, 108, 111, 114]⟩ : ByteArray) (⟨#[114, 101, 100]⟩ : ByteArray)).bind fun t126 => (if t126 = true then (some false) else ((css_Cut.f k (⟨#[97, 58, 39, 98, 59, 39, 59, 99, 58, 100, 58, 101]⟩ : ByteArray)).bind fun t127 => ((muslinref17_Same.f k t127 (([(⟨(⟨#[97]⟩ : ByteArray), (⟨#[39, 98, 59, 39]⟩ : ByteArray)⟩ : S29), (⟨(⟨#[99]⟩ : ByteArray), (⟨#[100, 58, 101]⟩ : ByteArray)⟩ : S29)] : List (S29)))).bind fun t133 => (some t133))))) else (some false))) else (some false))) else (some false)) = some r := H
  have A1 := Aside0.mk A10
  clear A10
  by_cases c2 : t123.toList = ([99, 111, 108, 111, 114, 58, 32, 98, 108, 117, 101, 59, 32, 119, 105, 100, 116, 104, 58, 32, 49, 112, 120] : List UInt8)
  · rw [if_pos c2] at H
    have c2b0 : (t123.toList == ([99, 111, 108, 111, 114, 58, 32, 98, 108, 117, 101, 59, 32, 119, 105, 100, 116, 104, 58, 32, 49, 112, 120] : List UInt8)) = true := beq_iff_eq.mpr c2
    have c2b1 : (t123.toList != ([99, 111, 108, 111, 114, 58, 32, 98, 108, 117, 101, 59, 32, 119, 105, 100, 116, 104, 58, 32, 49, 112, 120] : List UInt8)) = false := bne_eq_false_iff_eq.mpr c2
    clear c2
    replace H := Option.bind_eq_some_iff.mp H
    obtain ⟨t124, A30, H⟩ := H
    replace H : (if t124.toList = ([] : List UInt8) then ((css_Safe.f (⟨#[99, 111, 108, 111, 114]⟩ : ByteArray) (⟨#[35, 102, 102, 102]⟩ : ByteArray)).bind fun t125 => (if t125 = true then ((css_Safe.f (⟨#[67, 111, 108, 111, 114]⟩ : ByteArray) (⟨#[114, 101, 100]⟩ : ByteArray)).bind fun t126 => (if t126 = true then (some false) else ((css_Cut.f k (⟨#[97, 58, 39, 98, 59, 39, 59, 99, 58, 100, 58, 101]⟩ : ByteArray)).bind fun t127 => ((muslinref17_Same.f k t127 (([(⟨(⟨#[97]⟩ : ByteArray), (⟨#[39, 98, 59, 39]⟩ : ByteArray)⟩ : S29), (⟨(⟨#[99]⟩ : ByteArray), (⟨#[100, 58, 101]⟩ : ByteArray)⟩ : S29)] : List (S29)))).bind fun t133 => (some t133))))) else (some false))) else (some false)) = some r := H
    have A3 := Aside0.mk A30
    clear A30
    by_cases c4 : t124.toList = ([] : List UInt8)
    · rw [if_pos c4] at H
      have c4b0 : (t124.toList == ([] : List UInt8)) = true := beq_iff_eq.mpr c4
      have c4b1 : (t124.toList != ([] : List UInt8)) = false := bne_eq_false_iff_eq.mpr c4
      clear c4
      replace H := Option.bind_eq_some_iff.mp H
      obtain ⟨t125, A50, H⟩ := H
      replace H : (if t125 = true then ((css_Safe.f (⟨#[67, 111, 108, 111, 114]⟩ : ByteArray) (⟨#[114, 101, 100]⟩ : ByteArray)).bind fun t126 => (if t126 = true then (some false) else ((css_Cut.f k (⟨#[97, 58, 39, 98, 59, 39, 59, 99, 58, 100, 58, 101]⟩ : ByteArray)).bind fun t127 => ((muslinref17_Same.f k t127 (([(⟨(⟨#[97]⟩ : ByteArray), (⟨#[39, 98, 59, 39]⟩ : ByteArray)⟩ : S29), (⟨(⟨#[99]⟩ : ByteArray), (⟨#[100, 58, 101]⟩ : ByteArray)⟩ : S29)] : List (S29)))).bind fun t133 => (some t133))))) else (some false)) = some r := H
      have A5 := Aside0.mk A50
      clear A50
      by_cases c6 : t125 = true
      · subst c6
        have H1 : ((css_Safe.f (⟨#[67, 111, 108, 111, 114]⟩ : ByteArray) (⟨#[114, 101, 100]⟩ : ByteArray)).bind fun t126 => (if t126 = true then (some false) else ((css_Cut.f k (⟨#[97, 58, 39, 98, 59, 39, 59, 99, 58, 100, 58, 101]⟩ : ByteArray)).bind fun t127 => ((muslinref17_Same.f k t127 (([(⟨(⟨#[97]⟩ : ByteArray), (⟨#[39, 98, 59, 39]⟩ : ByteArray)⟩ : S29), (⟨(⟨#[99]⟩ : ByteArray), (⟨#[100, 58, 101]⟩ : ByteArray)⟩ : S29)] : List (S29)))).bind fun t133 => (some t133))))) = some r := by rw [if_pos rfl] at H; exact H
        clear H
        have H := H1
        clear H1
        replace H := Option.bind_eq_some_iff.mp H
        obtain ⟨t126, A70, H⟩ := H
        replace H : (if t126 = true then (some false) else ((css_Cut.f k (⟨#[97, 58, 39, 98, 59, 39, 59, 99, 58, 100, 58, 101]⟩ : ByteArray)).bind fun t127 => ((muslinref17_Same.f k t127 (([(⟨(⟨#[97]⟩ : ByteArray), (⟨#[39, 98, 59, 39]⟩ : ByteArray)⟩ : S29), (⟨(⟨#[99]⟩ : ByteArray), (⟨#[100, 58, 101]⟩ : ByteArray)⟩ : S29)] : List (S29)))).bind fun t133 => (some t133)))) = some r := H
        have A7 := Aside0.mk A70
        clear A70
        by_cases c8 : t126 = true
        · subst c8
          have H1 : (some false) = some r := by rw [if_pos rfl] at H; exact H
          clear H
          have H := H1
          clear H1
          obtain rfl := Option.some.inj H
          go_enter Tryd.func10, Tryd.ntmps10
          go_wp2_with (first | ((with_reducible refine gate_callee (f := 14) rfl ?_); refine goesL_ (some 1) rfl rfl Tryd.func14 (by kernel_rfl) rfl #[.string (⟨#[67, 79, 76, 79, 82, 58, 32, 114, 101, 100, 59, 32, 98, 97, 99, 107, 103, 114, 111, 117, 110, 100, 58, 32, 117, 114, 108, 40, 120, 59, 121, 41, 59, 32, 120, 59, 32, 99, 111, 108, 111, 114, 58, 98, 108, 117, 101, 32, 59, 119, 105, 100, 116, 104, 58, 49, 112, 120]⟩ : ByteArray)] rfl (by (try simp only [List.map_toArray, List.map_cons, List.map_nil]); first | done | rfl | (simp only [List.length_drop, List.length_take]; rfl)) ?_; (with_reducible refine (css_Clean.calls (⟨#[67, 79, 76, 79, 82, 58, 32, 114, 101, 100, 59, 32, 98, 97, 99, 107, 103, 114, 111, 117, 110, 100, 58, 32, 117, 114, 108, 40, 120, 59, 121, 41, 59, 32, 120, 59, 32, 99, 111, 108, 111, 114, 58, 98, 108, 117, 101, 32, 59, 119, 105, 100, 116, 104, 58, 49, 112, 120]⟩ : ByteArray) t123 _ A1.out (NmAt.below HN.out (by repeat (first | (with_reducible first | exact HB.out | apply below_alloc | apply pw_below_drewN | apply below_drew1) | exact HB.out)))).mono ?_); rintro e w9 ⟨rfl, hb⟩; refine ⟨_, rfl, ?_⟩; have n0_ := Aside0.mk (below_step (by repeat (first | (with_reducible first | exact HB.out | apply below_alloc | apply pw_below_drewN | apply below_drew1) | exact HB.out)) hb); clear HB; have HB := n0_; clear n0_; (try clear hb); (try clear hb2); (try clear hk); (try clear hi)) | (go_at_call 14; (with_reducible refine (css_Clean.calls (⟨#[99, 111, 108, 111, 114, 58, 32, 34, 97, 59, 98, 34, 59, 32, 119, 105, 100, 116, 104, 58, 32, 101, 120, 112, 114, 101, 115, 115, 105, 111, 110, 40, 49, 41]⟩ : ByteArray) t124 _ A3.out (NmAt.below HN.out (by repeat (first | (with_reducible first | exact HB.out | apply below_alloc | apply pw_below_drewN | apply below_drew1) | exact HB.out)))).mono ?_); rintro e w10 ⟨rfl, hb⟩; have n0_ := Aside0.mk (below_step (by repeat (first | (with_reducible first | exact HB.out | apply below_alloc | apply pw_below_drewN | apply below_drew1) | exact HB.out)) hb); clear HB; have HB := n0_; clear n0_; (try clear hb); (try clear hb2); (try clear hk); (try clear hi)) | (go_at_call 16; (with_reducible refine (css_Safe.calls (⟨#[99, 111, 108, 111, 114]⟩ : ByteArray) (⟨#[35, 102, 102, 102]⟩ : ByteArray) true _ A5.out (NmAt.below HN.out (by repeat (first | (with_reducible first | exact HB.out | apply below_alloc | apply pw_below_drewN | apply below_drew1) | exact HB.out)))).mono ?_); rintro e w11 ⟨rfl, hb⟩; have n0_ := Aside0.mk (below_step (by repeat (first | (with_reducible first | exact HB.out | apply below_alloc | apply pw_below_drewN | apply below_drew1) | exact HB.out)) hb); clear HB; have HB := n0_; clear n0_; (try clear hb); (try clear hb2); (try clear hk); (try clear hi)) | (go_at_call 16; (with_reducible refine (css_Safe.calls (⟨#[67, 111, 108, 111, 114]⟩ : ByteArray) (⟨#[114, 101, 100]⟩ : ByteArray) true _ A7.out (NmAt.below HN.out (by repeat (first | (with_reducible first | exact HB.out | apply below_alloc | apply pw_below_drewN | apply below_drew1) | exact HB.out)))).mono ?_); rintro e w12 ⟨rfl, hb⟩; have n0_ := Aside0.mk (below_step (by repeat (first | (with_reducible first | exact HB.out | apply below_alloc | apply pw_below_drewN | apply below_drew1) | exact HB.out)) hb); clear HB; have HB := n0_; clear n0_; (try clear hb); (try clear hb2); (try clear hk); (try clear hi)))
          go_ret
          exact ⟨by first | rfl | (simp [errW_none, errW_some] <;> rfl) | (simp [*, errW_none, errW_some] <;> rfl), by repeat (first | (with_reducible first | exact HB.out | apply below_alloc | apply pw_below_drewN | apply below_drew1) | exact HB.out)⟩
        · replace c8 := Bool.eq_false_iff.mpr c8
          subst c8
          have H1 : ((css_Cut.f k (⟨#[97, 58, 39, 98, 59, 39, 59, 99, 58, 100, 58, 101]⟩ : ByteArray)).bind fun t127 => ((muslinref17_Same.f k t127 (([(⟨(⟨#[97]⟩ : ByteArray), (⟨#[39, 98, 59, 39]⟩ : ByteArray)⟩ : S29), (⟨(⟨#[99]⟩ : ByteArray), (⟨#[100, 58, 101]⟩ : ByteArray)⟩ : S29)] : List (S29)))).bind fun t133 => (some t133))) = some r := by rw [if_neg (show ¬ (false = true) by decide)] at H; exact H
          clear H
          have H := H1
          clear H1
          replace H := Option.bind_eq_some_iff.mp H
          obtain ⟨t127, A130, H⟩ := H
          replace H : ((muslinref17_Same.f k t127 (([(⟨(⟨#[97]⟩ : ByteArray), (⟨#[39, 98, 59, 39]⟩ : ByteArray)⟩ : S29), (⟨(⟨#[99]⟩ : ByteArray), (⟨#[100, 58, 101]⟩ : ByteArray)⟩ : S29)] : List (S29)))).bind fun t133 => (some t133)) = some r := H
          have A13 := Aside0.mk A130
          clear A130
          obtain ⟨y130, hy130⟩ : ∃ y_ : List (S29), y_ = (([(⟨(⟨#[97]⟩ : ByteArray), (⟨#[39, 98, 59, 39]⟩ : ByteArray)⟩ : S29), (⟨(⟨#[99]⟩ : ByteArray), (⟨#[100, 58, 101]⟩ : ByteArray)⟩ : S29)] : List (S29))) := ⟨_, rfl⟩
          replace H : ((muslinref17_Same.f k t127 y130).bind fun t133 => (some t133)) = some r := by first | (rw [hy130]; with_reducible exact H) | (have H2_ := (Option.bind_some _ _).symm.trans H; rw [hy130]; with_reducible exact H2_) | (have H2_ := (Option.bind_some _ _).symm.trans H; with_reducible exact H2_) | with_reducible exact H | (rw [hy130]; exact H) | exact H
          have Ny130 := Aside0.mk hy130
          clear hy130
          replace H := Option.bind_eq_some_iff.mp H
          obtain ⟨t133, A140, H⟩ := H
          replace H : (some t133) = some r := H
          have A14 := Aside0.mk A140
          clear A140
          obtain rfl := Option.some.inj H
          go_enter Tryd.func10, Tryd.ntmps10
          go_wp2_with (first | ((with_reducible refine gate_callee (f := 14) rfl ?_); refine goesL_ (some 1) rfl rfl Tryd.func14 (by kernel_rfl) rfl #[.string (⟨#[67, 79, 76, 79, 82, 58, 32, 114, 101, 100, 59, 32, 98, 97, 99, 107, 103, 114, 111, 117, 110, 100, 58, 32, 117, 114, 108, 40, 120, 59, 121, 41, 59, 32, 120, 59, 32, 99, 111, 108, 111, 114, 58, 98, 108, 117, 101, 32, 59, 119, 105, 100, 116, 104, 58, 49, 112, 120]⟩ : ByteArray)] rfl (by (try simp only [List.map_toArray, List.map_cons, List.map_nil]); first | done | rfl | (simp only [List.length_drop, List.length_take]; rfl)) ?_; (with_reducible refine (css_Clean.calls (⟨#[67, 79, 76, 79, 82, 58, 32, 114, 101, 100, 59, 32, 98, 97, 99, 107, 103, 114, 111, 117, 110, 100, 58, 32, 117, 114, 108, 40, 120, 59, 121, 41, 59, 32, 120, 59, 32, 99, 111, 108, 111, 114, 58, 98, 108, 117, 101, 32, 59, 119, 105, 100, 116, 104, 58, 49, 112, 120]⟩ : ByteArray) t123 _ A1.out (NmAt.below HN.out (by repeat (first | (with_reducible first | exact HB.out | apply below_alloc | apply pw_below_drewN | apply below_drew1) | exact HB.out)))).mono ?_); rintro e w15 ⟨rfl, hb⟩; refine ⟨_, rfl, ?_⟩; have n0_ := Aside0.mk (below_step (by repeat (first | (with_reducible first | exact HB.out | apply below_alloc | apply pw_below_drewN | apply below_drew1) | exact HB.out)) hb); clear HB; have HB := n0_; clear n0_; (try clear hb); (try clear hb2); (try clear hk); (try clear hi)) | (go_at_call 14; (with_reducible refine (css_Clean.calls (⟨#[99, 111, 108, 111, 114, 58, 32, 34, 97, 59, 98, 34, 59, 32, 119, 105, 100, 116, 104, 58, 32, 101, 120, 112, 114, 101, 115, 115, 105, 111, 110, 40, 49, 41]⟩ : ByteArray) t124 _ A3.out (NmAt.below HN.out (by repeat (first | (with_reducible first | exact HB.out | apply below_alloc | apply pw_below_drewN | apply below_drew1) | exact HB.out)))).mono ?_); rintro e w16 ⟨rfl, hb⟩; have n0_ := Aside0.mk (below_step (by repeat (first | (with_reducible first | exact HB.out | apply below_alloc | apply pw_below_drewN | apply below_drew1) | exact HB.out)) hb); clear HB; have HB := n0_; clear n0_; (try clear hb); (try clear hb2); (try clear hk); (try clear hi)) | (go_at_call 16; (with_reducible refine (css_Safe.calls (⟨#[99, 111, 108, 111, 114]⟩ : ByteArray) (⟨#[35, 102, 102, 102]⟩ : ByteArray) true _ A5.out (NmAt.below HN.out (by repeat (first | (with_reducible first | exact HB.out | apply below_alloc | apply pw_below_drewN | apply below_drew1) | exact HB.out)))).mono ?_); rintro e w17 ⟨rfl, hb⟩; have n0_ := Aside0.mk (below_step (by repeat (first | (with_reducible first | exact HB.out | apply below_alloc | apply pw_below_drewN | apply below_drew1) | exact HB.out)) hb); clear HB; have HB := n0_; clear n0_; (try clear hb); (try clear hb2); (try clear hk); (try clear hi)) | (go_at_call 16; (with_reducible refine (css_Safe.calls (⟨#[67, 111, 108, 111, 114]⟩ : ByteArray) (⟨#[114, 101, 100]⟩ : ByteArray) false _ A7.out (NmAt.below HN.out (by repeat (first | (with_reducible first | exact HB.out | apply below_alloc | apply pw_below_drewN | apply below_drew1) | exact HB.out)))).mono ?_); rintro e w18 ⟨rfl, hb⟩; have n0_ := Aside0.mk (below_step (by repeat (first | (with_reducible first | exact HB.out | apply below_alloc | apply pw_below_drewN | apply below_drew1) | exact HB.out)) hb); clear HB; have HB := n0_; clear n0_; (try clear hb); (try clear hb2); (try clear hk); (try clear hi)) | (go_at_call 12; (with_reducible refine (css_Cut.calls k (⟨#[97, 58, 39, 98, 59, 39, 59, 99, 58, 100, 58, 101]⟩ : ByteArray) t127 _ A13.out).mono ?_); rintro e w19 ⟨v128, rfl, ho0, hb⟩; have n0_ := Aside0.mk (Kd.R_lower ho0 (below_size (by repeat (first | (with_reducible first | exact HB.out | apply below_alloc | apply pw_below_drewN | apply below_drew1) | exact HB.out)))); have n1_ := Aside0.mk (below_step (by repeat (first | (with_reducible first | exact HB.out | apply below_alloc | apply pw_below_drewN | apply below_drew1) | exact HB.out)) hb); clear HB; have HO129 := n0_; have HB := n1_; clear n0_ n1_; (try clear hb); (try clear hb2); (try clear hk); (try clear hi); (try clear ho0)) | ((with_reducible refine gate_dst (N := 18) rfl ?_); (try (refine gate_guard (by rfl) ?_; dsimp only)); refine Kd.R_lit k29 _ 29 ?hg (N := 18) ?hd (xs := ([(⟨(⟨#[97]⟩ : ByteArray), (⟨#[39, 98, 59, 39]⟩ : ByteArray)⟩ : S29), (⟨(⟨#[99]⟩ : ByteArray), (⟨#[100, 58, 101]⟩ : ByteArray)⟩ : S29)] : List (S29))) (inner := [.string (⟨#[97]⟩ : ByteArray), .string (⟨#[39, 98, 59, 39]⟩ : ByteArray), .string (⟨#[99]⟩ : ByteArray), .string (⟨#[100, 58, 101]⟩ : ByteArray)]) (ok := fun _ => True) (okp := fun _ => True) ?hr ?hp (fun _ hk => hk) trivial (Below.refl _ _) (Nat.le_refl _) (by simp) ?_; (case hd => rfl); (case hg => rfl); (case hr => first | (go_simp; done) | (go_simp; rfl)); (case hp => exact (Reps.c2 (show Kd.M k29 _ _ _ (⟨(⟨#[97]⟩ : ByteArray), (⟨#[39, 98, 59, 39]⟩ : ByteArray)⟩ : S29) [.string (⟨#[97]⟩ : ByteArray), .string (⟨#[39, 98, 59, 39]⟩ : ByteArray)] from (k29_mkM _ _ _ (⟨(⟨#[97]⟩ : ByteArray), (⟨#[39, 98, 59, 39]⟩ : ByteArray)⟩ : S29) )) (Reps.c2 (show Kd.M k29 _ _ _ (⟨(⟨#[99]⟩ : ByteArray), (⟨#[100, 58, 101]⟩ : ByteArray)⟩ : S29) [.string (⟨#[99]⟩ : ByteArray), .string (⟨#[100, 58, 101]⟩ : ByteArray)] from (k29_mkM _ _ _ (⟨(⟨#[99]⟩ : ByteArray), (⟨#[100, 58, 101]⟩ : ByteArray)⟩ : S29) )) (Reps.none _ _)))); intro v131 w20 ho21 hb hg_ hnew_; clear hg_ hnew_; (first | rw [← Ny130.out] at ho21 | (simp only [Int.reduceToNat] at ho21; rw [← Ny130.out] at ho21)); have n0_ := Aside0.mk (Kd.R_elder' (by (with_reducible repeat (first | apply Kd.R_alloc | apply Kd.R_drewN | apply Kd.R_drew)); exact HO129.out) (Kd.R_base ho21) hb); have n1_ := Aside0.mk (Kd.R_lower (Kd.R_new' ho21 (Kd.R_lt (by (with_reducible repeat (first | apply Kd.R_alloc | apply Kd.R_drewN | apply Kd.R_drew)); exact HO129.out))) (below_size (by repeat (first | (with_reducible first | exact HB.out | apply below_alloc | apply pw_below_drewN | apply below_drew1) | exact HB.out)))); have n2_ := Aside0.mk (below_step (by repeat (first | (with_reducible first | exact HB.out | apply below_alloc | apply pw_below_drewN | apply below_drew1) | exact HB.out)) hb); clear HO129; clear HB; have HO129 := n0_; have HO132 := n1_; have HB := n2_; clear n0_ n1_ n2_; clear hb ho21; obtain ⟨Ao22, co22, eo22⟩ := Kd.R_slice HO129.out; subst eo22; obtain ⟨Ao23, co23, eo23⟩ := Kd.R_slice HO132.out; subst eo23) | (go_at_call 11; (with_reducible refine (muslinref17_Same.calls k _ _ t127 _ _ y130 t133 _ ?side1 ?side2 ?side3 ?side4 A14.out).mono ?_); (case side1 => repeat (first | exact (Kd.R_reads' HO129.out).2.2 | (with_reducible refine Kd.C_alloc ?_ _) | (with_reducible refine Kd.C_drewN ?_ _) | (with_reducible refine Kd.C_drew ?_))); (case side2 => exact (Kd.R_reads' HO129.out).2.1); (case side3 => repeat (first | exact (Kd.R_reads' HO132.out).2.2 | (with_reducible refine Kd.C_alloc ?_ _) | (with_reducible refine Kd.C_drewN ?_ _) | (with_reducible refine Kd.C_drew ?_))); (case side4 => exact (Kd.R_reads' HO132.out).2.1); rintro e w' ⟨rfl, ⟨nd, rfl⟩⟩))
          go_ret
          exact ⟨by first | rfl | (simp [errW_none, errW_some] <;> rfl) | (simp [*, errW_none, errW_some] <;> rfl), by repeat (first | (with_reducible first | exact HB.out | apply below_alloc | apply pw_below_drewN | apply below_drew1) | exact HB.out)⟩
      · replace c6 := Bool.eq_false_iff.mpr c6
        subst c6
        have H1 : (some false) = some r := by rw [if_neg (show ¬ (false = true) by decide)] at H; exact H
        clear H
        have H := H1
        clear H1
        obtain rfl := Option.some.inj H
        go_enter Tryd.func10, Tryd.ntmps10
        go_wp2_with (first | ((with_reducible refine gate_callee (f := 14) rfl ?_); refine goesL_ (some 1) rfl rfl Tryd.func14 (by kernel_rfl) rfl #[.string (⟨#[67, 79, 76, 79, 82, 58, 32, 114, 101, 100, 59, 32, 98, 97, 99, 107, 103, 114, 111, 117, 110, 100, 58, 32, 117, 114, 108, 40, 120, 59, 121, 41, 59, 32, 120, 59, 32, 99, 111, 108, 111, 114, 58, 98, 108, 117, 101, 32, 59, 119, 105, 100, 116, 104, 58, 49, 112, 120]⟩ : ByteArray)] rfl (by (try simp only [List.map_toArray, List.map_cons, List.map_nil]); first | done | rfl | (simp only [List.length_drop, List.length_take]; rfl)) ?_; (with_reducible refine (css_Clean.calls (⟨#[67, 79, 76, 79, 82, 58, 32, 114, 101, 100, 59, 32, 98, 97, 99, 107, 103, 114, 111, 117, 110, 100, 58, 32, 117, 114, 108, 40, 120, 59, 121, 41, 59, 32, 120, 59, 32, 99, 111, 108, 111, 114, 58, 98, 108, 117, 101, 32, 59, 119, 105, 100, 116, 104, 58, 49, 112, 120]⟩ : ByteArray) t123 _ A1.out (NmAt.below HN.out (by repeat (first | (with_reducible first | exact HB.out | apply below_alloc | apply pw_below_drewN | apply below_drew1) | exact HB.out)))).mono ?_); rintro e w24 ⟨rfl, hb⟩; refine ⟨_, rfl, ?_⟩; have n0_ := Aside0.mk (below_step (by repeat (first | (with_reducible first | exact HB.out | apply below_alloc | apply pw_below_drewN | apply below_drew1) | exact HB.out)) hb); clear HB; have HB := n0_; clear n0_; (try clear hb); (try clear hb2); (try clear hk); (try clear hi)) | (go_at_call 14; (with_reducible refine (css_Clean.calls (⟨#[99, 111, 108, 111, 114, 58, 32, 34, 97, 59, 98, 34, 59, 32, 119, 105, 100, 116, 104, 58, 32, 101, 120, 112, 114, 101, 115, 115, 105, 111, 110, 40, 49, 41]⟩ : ByteArray) t124 _ A3.out (NmAt.below HN.out (by repeat (first | (with_reducible first | exact HB.out | apply below_alloc | apply pw_below_drewN | apply below_drew1) | exact HB.out)))).mono ?_); rintro e w25 ⟨rfl, hb⟩; have n0_ := Aside0.mk (below_step (by repeat (first | (with_reducible first | exact HB.out | apply below_alloc | apply pw_below_drewN | apply below_drew1) | exact HB.out)) hb); clear HB; have HB := n0_; clear n0_; (try clear hb); (try clear hb2); (try clear hk); (try clear hi)) | (go_at_call 16; (with_reducible refine (css_Safe.calls (⟨#[99, 111, 108, 111, 114]⟩ : ByteArray) (⟨#[35, 102, 102, 102]⟩ : ByteArray) false _ A5.out (NmAt.below HN.out (by repeat (first | (with_reducible first | exact HB.out | apply below_alloc | apply pw_below_drewN | apply below_drew1) | exact HB.out)))).mono ?_); rintro e w26 ⟨rfl, hb⟩; have n0_ := Aside0.mk (below_step (by repeat (first | (with_reducible first | exact HB.out | apply below_alloc | apply pw_below_drewN | apply below_drew1) | exact HB.out)) hb); clear HB; have HB := n0_; clear n0_; (try clear hb); (try clear hb2); (try clear hk); (try clear hi)))
        go_ret
        exact ⟨by first | rfl | (simp [errW_none, errW_some] <;> rfl) | (simp [*, errW_none, errW_some] <;> rfl), by repeat (first | (with_reducible first | exact HB.out | apply below_alloc | apply pw_below_drewN | apply below_drew1) | exact HB.out)⟩
    · rw [if_neg c4] at H
      have c4b0 : (t124.toList == ([] : List UInt8)) = false := beq_eq_false_iff_ne.mpr c4
      have c4b1 : (t124.toList != ([] : List UInt8)) = true := bne_iff_ne.mpr c4
      obtain rfl := Option.some.inj H
      go_enter Tryd.func10, Tryd.ntmps10
      go_wp2_with (first | ((with_reducible refine gate_callee (f := 14) rfl ?_); refine goesL_ (some 1) rfl rfl Tryd.func14 (by kernel_rfl) rfl #[.string (⟨#[67, 79, 76, 79, 82, 58, 32, 114, 101, 100, 59, 32, 98, 97, 99, 107, 103, 114, 111, 117, 110, 100, 58, 32, 117, 114, 108, 40, 120, 59, 121, 41, 59, 32, 120, 59, 32, 99, 111, 108, 111, 114, 58, 98, 108, 117, 101, 32, 59, 119, 105, 100, 116, 104, 58, 49, 112, 120]⟩ : ByteArray)] rfl (by (try simp only [List.map_toArray, List.map_cons, List.map_nil]); first | done | rfl | (simp only [List.length_drop, List.length_take]; rfl)) ?_; (with_reducible refine (css_Clean.calls (⟨#[67, 79, 76, 79, 82, 58, 32, 114, 101, 100, 59, 32, 98, 97, 99, 107, 103, 114, 111, 117, 110, 100, 58, 32, 117, 114, 108, 40, 120, 59, 121, 41, 59, 32, 120, 59, 32, 99, 111, 108, 111, 114, 58, 98, 108, 117, 101, 32, 59, 119, 105, 100, 116, 104, 58, 49, 112, 120]⟩ : ByteArray) t123 _ A1.out (NmAt.below HN.out (by repeat (first | (with_reducible first | exact HB.out | apply below_alloc | apply pw_below_drewN | apply below_drew1) | exact HB.out)))).mono ?_); rintro e w27 ⟨rfl, hb⟩; refine ⟨_, rfl, ?_⟩; have n0_ := Aside0.mk (below_step (by repeat (first | (with_reducible first | exact HB.out | apply below_alloc | apply pw_below_drewN | apply below_drew1) | exact HB.out)) hb); clear HB; have HB := n0_; clear n0_; (try clear hb); (try clear hb2); (try clear hk); (try clear hi)) | (go_at_call 14; (with_reducible refine (css_Clean.calls (⟨#[99, 111, 108, 111, 114, 58, 32, 34, 97, 59, 98, 34, 59, 32, 119, 105, 100, 116, 104, 58, 32, 101, 120, 112, 114, 101, 115, 115, 105, 111, 110, 40, 49, 41]⟩ : ByteArray) t124 _ A3.out (NmAt.below HN.out (by repeat (first | (with_reducible first | exact HB.out | apply below_alloc | apply pw_below_drewN | apply below_drew1) | exact HB.out)))).mono ?_); rintro e w28 ⟨rfl, hb⟩; have n0_ := Aside0.mk (below_step (by repeat (first | (with_reducible first | exact HB.out | apply below_alloc | apply pw_below_drewN | apply below_drew1) | exact HB.out)) hb); clear HB; have HB := n0_; clear n0_; (try clear hb); (try clear hb2); (try clear hk); (try clear hi)))
      go_ret
      exact ⟨by first | rfl | (simp [errW_none, errW_some] <;> rfl) | (simp [*, errW_none, errW_some] <;> rfl), by repeat (first | (with_reducible first | exact HB.out | apply below_alloc | apply pw_below_drewN | apply below_drew1) | exact HB.out)⟩
  · rw [if_neg c2] at H
    have c2b0 : (t123.toList == ([99, 111, 108, 111, 114, 58, 32, 98, 108, 117, 101, 59, 32, 119, 105, 100, 116, 104, 58, 32, 49, 112, 120] : List UInt8)) = false := beq_eq_false_iff_ne.mpr c2
    have c2b1 : (t123.toList != ([99, 111, 108, 111, 114, 58, 32, 98, 108, 117, 101, 59, 32, 119, 105, 100, 116, 104, 58, 32, 49, 112, 120] : List UInt8)) = true := bne_iff_ne.mpr c2
    obtain rfl := Option.some.inj H
    go_enter Tryd.func10, Tryd.ntmps10
    go_wp2_with (first | ((with_reducible refine gate_callee (f := 14) rfl ?_); refine goesL_ (some 1) rfl rfl Tryd.func14 (by kernel_rfl) rfl #[.string (⟨#[67, 79, 76, 79, 82, 58, 32, 114, 101, 100, 59, 32, 98, 97, 99, 107, 103, 114, 111, 117, 110, 100, 58, 32, 117, 114, 108, 40, 120, 59, 121, 41, 59, 32, 120, 59, 32, 99, 111, 108, 111, 114, 58, 98, 108, 117, 101, 32, 59, 119, 105, 100, 116, 104, 58, 49, 112, 120]⟩ : ByteArray)] rfl (by (try simp only [List.map_toArray, List.map_cons, List.map_nil]); first | done | rfl | (simp only [List.length_drop, List.length_take]; rfl)) ?_; (with_reducible refine (css_Clean.calls (⟨#[67, 79, 76, 79, 82, 58, 32, 114, 101, 100, 59, 32, 98, 97, 99, 107, 103, 114, 111, 117, 110, 100, 58, 32, 117, 114, 108, 40, 120, 59, 121, 41, 59, 32, 120, 59, 32, 99, 111, 108, 111, 114, 58, 98, 108, 117, 101, 32, 59, 119, 105, 100, 116, 104, 58, 49, 112, 120]⟩ : ByteArray) t123 _ A1.out (NmAt.below HN.out (by repeat (first | (with_reducible first | exact HB.out | apply below_alloc | apply pw_below_drewN | apply below_drew1) | exact HB.out)))).mono ?_); rintro e w29 ⟨rfl, hb⟩; refine ⟨_, rfl, ?_⟩; have n0_ := Aside0.mk (below_step (by repeat (first | (with_reducible first | exact HB.out | apply below_alloc | apply pw_below_drewN | apply below_drew1) | exact HB.out)) hb); clear HB; have HB := n0_; clear n0_; (try clear hb); (try clear hb2); (try clear hk); (try clear hi)))
    go_ret
    exact ⟨by first | rfl | (simp [errW_none, errW_some] <;> rfl) | (simp [*, errW_none, errW_some] <;> rfl), by repeat (first | (with_reducible first | exact HB.out | apply below_alloc | apply pw_below_drewN | apply below_drew1) | exact HB.out)⟩

/-! ### muslinref17_pieces: function 22 -/
mutual
def muslinref17_pieces.l0 : Nat → ByteArray → List ByteArray → Int → Int → Int → Int → Option (List ByteArray)
  | 0, _, _, _, _, _, _ => none
  | k + 1, x0, x3, x4, x5, x6, x7 => if x7 < (x0.size : Int) then (if 0 ≤ x7 then (if x6 = 0 then (if (bt x0 x7) = 34 then (muslinref17_pieces.j1 k x0 x3 x4 x5 x6 x7 (bt x0 x7) true) else (muslinref17_pieces.j1 k x0 x3 x4 x5 x6 x7 (bt x0 x7) ((bt x0 x7) == 39))) else (if (bt x0 x7) = 92 then (muslinref17_pieces.l0 k x0 x3 x4 x5 x6 (wrap64 ((wrap64 (x7 + 1)) + 1))) else (if (bt x0 x7) = x6 then (muslinref17_pieces.l0 k x0 x3 x4 x5 0 (wrap64 (x7 + 1))) else (muslinref17_pieces.l0 k x0 x3 x4 x5 x6 (wrap64 (x7 + 1)))))) else (none)) else (if 0 ≤ x4 then (if x4 ≤ (x0.size : Int) then (if x3.length < 8796093022208 then (some (x3 ++ [x0.extract (x4 : Int).toNat x0.size])) else (none)) else (none)) else (none))
def muslinref17_pieces.j1 : Nat → ByteArray → List ByteArray → Int → Int → Int → Int → Int → Bool → Option (List ByteArray)
  | 0, _, _, _, _, _, _, _, _ => none
  | k + 1, x0, x3, x4, x5, x6, x7, x8, x27 => if x27 = true then (muslinref17_pieces.l0 k x0 x3 x4 x5 x8 (wrap64 (x7 + 1))) else (if x8 = 40 then (muslinref17_pieces.l0 k x0 x3 x4 (wrap64 (x5 + 1)) x6 (wrap64 (x7 + 1))) else (if x8 = 41 then (muslinref17_pieces.j2 k x0 x3 x4 x5 x6 x7 x8 (decide (x5 > 0))) else (muslinref17_pieces.j2 k x0 x3 x4 x5 x6 x7 x8 false)))
def muslinref17_pieces.j2 : Nat → ByteArray → List ByteArray → Int → Int → Int → Int → Int → Bool → Option (List ByteArray)
  | 0, _, _, _, _, _, _, _, _ => none
  | k + 1, x0, x3, x4, x5, x6, x7, x8, x40 => if x40 = true then (muslinref17_pieces.l0 k x0 x3 x4 (wrap64 (x5 - 1)) x6 (wrap64 (x7 + 1))) else (if x8 = 59 then (if x5 = 0 then (if 0 ≤ x4 then (if x4 ≤ x7 then (if x7 ≤ (x0.size : Int) then (if x3.length < 8796093022208 then (muslinref17_pieces.l0 k x0 (x3 ++ [x0.extract (x4 : Int).toNat (x7 : Int).toNat]) (wrap64 (x7 + 1)) x5 x6 (wrap64 (x7 + 1))) else (none)) else (none)) else (none)) else (none)) else (muslinref17_pieces.l0 k x0 x3 x4 x5 x6 (wrap64 (x7 + 1)))) else (muslinref17_pieces.l0 k x0 x3 x4 x5 x6 (wrap64 (x7 + 1))))
end
def muslinref17_pieces.f (k : Nat) (a0 : ByteArray) : Option (List ByteArray) := muslinref17_pieces.l0 k a0 ([] : List ByteArray) 0 0 0 0
theorem muslinref17_pieces.mono_l : ∀ k, (∀ y0 y1 y2 y3 y4 y5, LeO (muslinref17_pieces.l0 k y0 y1 y2 y3 y4 y5) (muslinref17_pieces.l0 (k + 1) y0 y1 y2 y3 y4 y5)) ∧ (∀ y0 y1 y2 y3 y4 y5 y6 y7, LeO (muslinref17_pieces.j1 k y0 y1 y2 y3 y4 y5 y6 y7) (muslinref17_pieces.j1 (k + 1) y0 y1 y2 y3 y4 y5 y6 y7)) ∧ (∀ y0 y1 y2 y3 y4 y5 y6 y7, LeO (muslinref17_pieces.j2 k y0 y1 y2 y3 y4 y5 y6 y7) (muslinref17_pieces.j2 (k + 1) y0 y1 y2 y3 y4 y5 y6 y7))
  | 0 => ⟨fun _ _ _ _ _ _ r h => by simp [muslinref17_pieces.l0] at h, fun _ _ _ _ _ _ _ _ r h => by simp [muslinref17_pieces.j1] at h, fun _ _ _ _ _ _ _ _ r h => by simp [muslinref17_pieces.j2] at h⟩
  | k + 1 => by
    obtain ⟨ih0, ih1, ih2⟩ := muslinref17_pieces.mono_l k
    refine ⟨?_, ?_, ?_⟩
    · intro y0 y1 y2 y3 y4 y5
      unfold muslinref17_pieces.l0
      repeat' first
      | (with_reducible exact ih0 _ _ _ _ _ _)
      | (with_reducible exact ih1 _ _ _ _ _ _ _ _)
      | (with_reducible exact ih2 _ _ _ _ _ _ _ _)
      | (with_reducible exact LeO.refl _)
      | (with_reducible exact LeO.none _)
      | (with_reducible refine LeO.ite ?_ ?_)
      | (with_reducible refine LeO.bind ?_ (fun _ => ?_))
      | exact ih0 _ _ _ _ _ _
      | exact ih1 _ _ _ _ _ _ _ _
      | exact ih2 _ _ _ _ _ _ _ _
      | exact LeO.none _
      | refine LeO.ite ?_ ?_
      | refine LeO.bind ?_ (fun _ => ?_)
    · intro y0 y1 y2 y3 y4 y5 y6 y7
      unfold muslinref17_pieces.j1
      repeat' first
      | (with_reducible exact ih0 _ _ _ _ _ _)
      | (with_reducible exact ih1 _ _ _ _ _ _ _ _)
      | (with_reducible exact ih2 _ _ _ _ _ _ _ _)
      | (with_reducible exact LeO.refl _)
      | (with_reducible exact LeO.none _)
      | (with_reducible refine LeO.ite ?_ ?_)
      | (with_reducible refine LeO.bind ?_ (fun _ => ?_))
      | exact ih0 _ _ _ _ _ _
      | exact ih1 _ _ _ _ _ _ _ _
      | exact ih2 _ _ _ _ _ _ _ _
      | exact LeO.none _
      | refine LeO.ite ?_ ?_
      | refine LeO.bind ?_ (fun _ => ?_)
    · intro y0 y1 y2 y3 y4 y5 y6 y7
      unfold muslinref17_pieces.j2
      repeat' first
      | (with_reducible exact ih0 _ _ _ _ _ _)
      | (with_reducible exact ih1 _ _ _ _ _ _ _ _)
      | (with_reducible exact ih2 _ _ _ _ _ _ _ _)
      | (with_reducible exact LeO.refl _)
      | (with_reducible exact LeO.none _)
      | (with_reducible refine LeO.ite ?_ ?_)
      | (with_reducible refine LeO.bind ?_ (fun _ => ?_))
      | exact ih0 _ _ _ _ _ _
      | exact ih1 _ _ _ _ _ _ _ _
      | exact ih2 _ _ _ _ _ _ _ _
      | exact LeO.none _
      | refine LeO.ite ?_ ?_
      | refine LeO.bind ?_ (fun _ => ?_)
theorem muslinref17_pieces.mono : ∀ a0 k, LeO (muslinref17_pieces.f k a0) (muslinref17_pieces.f (k + 1) a0) := by
  intro a0 k
  obtain ⟨ih0, ih1, ih2⟩ := muslinref17_pieces.mono_l k
  unfold muslinref17_pieces.f
  repeat' first
      | (with_reducible exact ih0 _ _ _ _ _ _)
      | (with_reducible exact ih1 _ _ _ _ _ _ _ _)
      | (with_reducible exact ih2 _ _ _ _ _ _ _ _)
      | (with_reducible exact LeO.refl _)
      | (with_reducible exact LeO.none _)
      | (with_reducible refine LeO.ite ?_ ?_)
      | (with_reducible refine LeO.bind ?_ (fun _ => ?_))
      | exact ih0 _ _ _ _ _ _
      | exact ih1 _ _ _ _ _ _ _ _
      | exact ih2 _ _ _ _ _ _ _ _
      | exact LeO.none _
      | refine LeO.ite ?_ ?_
      | refine LeO.bind ?_ (fun _ => ?_)
set_option maxHeartbeats 8000000 in
set_option maxRecDepth 100000 in
theorem muslinref17_pieces.calls (k : Nat) (a0 : ByteArray) (r : List ByteArray) (w : World) (h : muslinref17_pieces.f k a0 = some r) :
    Calls Tryd.prog 22 #[.string a0] w fun e w' => ∃ v0_ : Value, e = .returned (v0_) ∧ Kd.R Kd.string 9 w' w.heap.size (fun _ => True) v0_ r ∧ Below w.heap.size w w' := by
  have HB := Aside0.mk (Below.refl w.heap.size w)
  have H : (muslinref17_pieces.l0 k a0 ([] : List ByteArray) 0 0 0 0) = some r := h
  clear h
  have H' := Aside0.mk H
  clear H
  go_enter Tryd.func22, Tryd.ntmps22
  go_wp2
  go_loopg [3, 4, 5, 6, 7] k (fun kq v3 v4 v5 v6 v7 w' => ∃ (x3_1 : List ByteArray) (x4_1 : Int) (x5_1 : Int) (x6_1 : Int) (x7_1 : Int), v4 = .int .i64 x4_1 ∧ v5 = .int .i64 x5_1 ∧ v6 = .int .u8 x6_1 ∧ v7 = .int .i64 x7_1 ∧ Aside0 (muslinref17_pieces.l0 kq a0 x3_1 x4_1 x5_1 x6_1 x7_1 = some r) ∧ Aside0 (kq ≤ k) ∧ Aside0 (Kd.R Kd.string 9 w' w.heap.size (fun _ => True) v3 x3_1) ∧ Aside0 (Below w.heap.size w w'))
  case atStart => exact ⟨(([] : List ByteArray)), (0), (0), (0), (0), (by first | rfl | (simp; done) | (simp [*]; done)), (by first | rfl | (simp; done) | (simp [*]; done)), (by first | rfl | (simp; done) | (simp [*]; done)), (by first | rfl | (simp; done) | (simp [*]; done)), H', ⟨Nat.le_refl _⟩, ⟨by first | exact Kd.R_nil _ _ _ _ _ | exact Kd.N_nil _ _ _ _ _ | exact Kd.V_nil _ _ _ _ _ | exact Kd.Q_nil _ _ _ _ _ | exact Kd.S_nil _ _ _ _ _⟩, ⟨by repeat (first | (with_reducible first | exact HB.out | apply below_alloc | apply pw_below_drewN | apply below_drew1) | exact HB.out)⟩⟩
  case round =>
    clear H'
    obtain ⟨x3_1, x4_1, x5_1, x6_1, x7_1, rfl, rfl, rfl, rfl, HA, HK1, HO_3, HB⟩ := hrel
    cases gk with
    | zero => exact absurd HA.out (by simp [muslinref17_pieces.l0])
    | succ k1 =>
      have H := HA.out
      clear HA
      simp only [muslinref17_pieces.l0] at H
      by_cases c2 : x7_1 < (a0.size : Int)
      · rw [if_pos c2] at H
        have c2b0 : decide (x7_1 < (a0.size : Int)) = true := decide_eq_true c2
        clear c2
        by_cases c3 : 0 ≤ x7_1
        · rw [if_pos c3] at H
          have c3b0 : decide (0 ≤ x7_1) = true := decide_eq_true c3
          clear c3
          by_cases c5 : x6_1 = 0
          · rw [if_pos c5] at H
            have c5b0 : (x6_1 == 0) = true := beq_iff_eq.mpr c5
            have c5b1 : (x6_1 != 0) = false := bne_eq_false_iff_eq.mpr c5
            clear c5
            have HC6 := Aside0.mk H
            clear H
            have p4 : 0 ≤ (x7_1 : Int) := of_decide_eq_true (by first | (with_reducible assumption) | assumption)
            have q4 : x7_1 < (a0.size : Int) := of_decide_eq_true (by first | (with_reducible assumption) | assumption)
            have hx4 := bt_at a0 x7_1
            replace p4 := eq_true p4
            replace q4 := eq_true q4
            go_upto_region 14 with (fail)
            go_cut [27] (fun v27 wc => ∃ (kq : Nat) (x27_5 : Bool), v27 = .bool x27_5 ∧ Aside0 (muslinref17_pieces.j1 kq a0 x3_1 x4_1 x5_1 x6_1 x7_1 (bt a0 x7_1) x27_5 = some r) ∧ Aside0 (kq ≤ k1) ∧ Aside0 (Kd.R Kd.string 9 wc w.heap.size (fun _ => True) u3 x3_1) ∧ Aside0 (Below w.heap.size w wc))
            case first =>
              have H := HC6.out
              clear HC6
              by_cases c7 : (bt a0 x7_1) = 34
              · rw [if_pos c7] at H
                have c7b0 : ((bt a0 x7_1) == 34) = true := beq_iff_eq.mpr c7
                have c7b1 : ((bt a0 x7_1) != 34) = false := bne_eq_false_iff_eq.mpr c7
                clear c7
                (first | rw [c7b0] | (simp only [i64_w, i32_w]; rw [c7b0]) | rw [c7b1] | skip)
                have H' := Aside0.mk H
                clear H
                go_wp2
                go_meet
                case rel => exact ⟨_, (true), (by first | rfl | (simp; done) | (simp [*]; done)), H', ⟨by have := HK1.out; first | omega | exact Nat.le_refl _⟩, ⟨by (with_reducible repeat (first | apply Kd.R_alloc | apply Kd.R_drewN | apply Kd.R_drew)); exact HO_3.out⟩, ⟨by repeat (first | (with_reducible first | exact HB.out | apply below_alloc | apply pw_below_drewN | apply below_drew1) | exact HB.out)⟩⟩
              · rw [if_neg c7] at H
                have c7b0 : ((bt a0 x7_1) == 34) = false := beq_eq_false_iff_ne.mpr c7
                have c7b1 : ((bt a0 x7_1) != 34) = true := bne_iff_ne.mpr c7
                (first | rw [c7b0] | (simp only [i64_w, i32_w]; rw [c7b0]) | rw [c7b1] | skip)
                have H' := Aside0.mk H
                clear H
                go_wp2
                go_meet
                case rel => exact ⟨_, (((bt a0 x7_1) == 39)), (by first | rfl | (simp; done) | (simp [*]; done)), H', ⟨by have := HK1.out; first | omega | exact Nat.le_refl _⟩, ⟨by (with_reducible repeat (first | apply Kd.R_alloc | apply Kd.R_drewN | apply Kd.R_drew)); exact HO_3.out⟩, ⟨by repeat (first | (with_reducible first | exact HB.out | apply below_alloc | apply pw_below_drewN | apply below_drew1) | exact HB.out)⟩⟩
            case rest =>
              clear HC6
              try clear c2
              try clear c2b0
              try clear p2
              try clear c3
              try clear c3b0
              try clear p4
              try clear q4
              try clear hx4
              try clear c5
              try clear c5b0
              try clear c5b1
              try clear c7
              try clear c7b0
              try clear c7b1
              try clear p4
              try clear q4
              obtain ⟨kq, x27_5, rfl, HA, HJ5, HO_3, HB⟩ := hcut
              cases kq with
              | zero => exact absurd HA.out (by simp [muslinref17_pieces.j1])
              | succ kj5 =>
                have H := HA.out
                clear HA
                simp only [muslinref17_pieces.j1] at H
                by_cases c8 : x27_5 = true
                · subst c8
                  have H1 : (muslinref17_pieces.l0 kj5 a0 x3_1 x4_1 x5_1 (bt a0 x7_1) (wrap64 (x7_1 + 1))) = some r := by rw [if_pos rfl] at H; exact H
                  clear H
                  have H := H1
                  clear H1
                  have H' := Aside0.mk H
                  clear H
                  go_wp2
                  go_roundg kj5
                  case measure => have := HK1.out; have := HJ5.out; omega
                  case rel => exact ⟨(x3_1), (x4_1), (x5_1), ((bt a0 x7_1)), (wrap64 (x7_1 + 1)), (by first | rfl | (simp; done) | (simp [*]; done)), (by first | rfl | (simp; done) | (simp [*]; done)), (by first | rfl | (simp; done) | (simp [*]; done)), (by first | rfl | (simp; done) | (simp [*]; done)), H', ⟨by have := HK1.out; have := HJ5.out; omega⟩, ⟨by (with_reducible repeat (first | apply Kd.R_alloc | apply Kd.R_drewN | apply Kd.R_drew)); exact HO_3.out⟩, ⟨by repeat (first | (with_reducible first | exact HB.out | apply below_alloc | apply pw_below_drewN | apply below_drew1) | exact HB.out)⟩⟩
                · replace c8 := Bool.eq_false_iff.mpr c8
                  subst c8
                  have H1 : (if (bt a0 x7_1) = 40 then (muslinref17_pieces.l0 kj5 a0 x3_1 x4_1 (wrap64 (x5_1 + 1)) x6_1 (wrap64 (x7_1 + 1))) else (if (bt a0 x7_1) = 41 then (muslinref17_pieces.j2 kj5 a0 x3_1 x4_1 x5_1 x6_1 x7_1 (bt a0 x7_1) (decide (x5_1 > 0))) else (muslinref17_pieces.j2 kj5 a0 x3_1 x4_1 x5_1 x6_1 x7_1 (bt a0 x7_1) false))) = some r := by rw [if_neg (show ¬ (false = true) by decide)] at H; exact H
                  clear H
                  have H := H1
                  clear H1
                  by_cases c9 : (bt a0 x7_1) = 40
                  · rw [if_pos c9] at H
                    have c9b0 : ((bt a0 x7_1) == 40) = true := beq_iff_eq.mpr c9
                    have c9b1 : ((bt a0 x7_1) != 40) = false := bne_eq_false_iff_eq.mpr c9
                    clear c9
                    have H' := Aside0.mk H
                    clear H
                    go_wp2
                    go_roundg kj5
                    case measure => have := HK1.out; have := HJ5.out; omega
                    case rel => exact ⟨(x3_1), (x4_1), (wrap64 (x5_1 + 1)), (x6_1), (wrap64 (x7_1 + 1)), (by first | rfl | (simp; done) | (simp [*]; done)), (by first | rfl | (simp; done) | (simp [*]; done)), (by first | rfl | (simp; done) | (simp [*]; done)), (by first | rfl | (simp; done) | (simp [*]; done)), H', ⟨by have := HK1.out; have := HJ5.out; omega⟩, ⟨by (with_reducible repeat (first | apply Kd.R_alloc | apply Kd.R_drewN | apply Kd.R_drew)); exact HO_3.out⟩, ⟨by repeat (first | (with_reducible first | exact HB.out | apply below_alloc | apply pw_below_drewN | apply below_drew1) | exact HB.out)⟩⟩
                  · rw [if_neg c9] at H
                    have c9b0 : ((bt a0 x7_1) == 40) = false := beq_eq_false_iff_ne.mpr c9
                    have c9b1 : ((bt a0 x7_1) != 40) = true := bne_iff_ne.mpr c9
                    have HC10 := Aside0.mk H
                    clear H
                    go_upto_region 18 with (fail)
                    go_cut [40] (fun v40 wc => ∃ (kq : Nat) (x40_9 : Bool), v40 = .bool x40_9 ∧ Aside0 (muslinref17_pieces.j2 kq a0 x3_1 x4_1 x5_1 x6_1 x7_1 (bt a0 x7_1) x40_9 = some r) ∧ Aside0 (kq ≤ kj5) ∧ Aside0 (Kd.R Kd.string 9 wc w.heap.size (fun _ => True) u3 x3_1) ∧ Aside0 (Below w.heap.size w wc))
                    case first =>
                      have H := HC10.out
                      clear HC10
                      by_cases c11 : (bt a0 x7_1) = 41
                      · rw [if_pos c11] at H
                        have c11b0 : ((bt a0 x7_1) == 41) = true := beq_iff_eq.mpr c11
                        have c11b1 : ((bt a0 x7_1) != 41) = false := bne_eq_false_iff_eq.mpr c11
                        clear c11
                        (first | rw [c11b0] | (simp only [i64_w, i32_w]; rw [c11b0]) | rw [c11b1] | skip)
                        have H' := Aside0.mk H
                        clear H
                        go_wp2
                        go_meet
                        case rel => exact ⟨_, (decide (x5_1 > 0)), (by first | rfl | (simp; done) | (simp [*]; done)), H', ⟨by have := HK1.out; have := HJ5.out; first | omega | exact Nat.le_refl _⟩, ⟨by (with_reducible repeat (first | apply Kd.R_alloc | apply Kd.R_drewN | apply Kd.R_drew)); exact HO_3.out⟩, ⟨by repeat (first | (with_reducible first | exact HB.out | apply below_alloc | apply pw_below_drewN | apply below_drew1) | exact HB.out)⟩⟩
                      · rw [if_neg c11] at H
                        have c11b0 : ((bt a0 x7_1) == 41) = false := beq_eq_false_iff_ne.mpr c11
                        have c11b1 : ((bt a0 x7_1) != 41) = true := bne_iff_ne.mpr c11
                        (first | rw [c11b0] | (simp only [i64_w, i32_w]; rw [c11b0]) | rw [c11b1] | skip)
                        have H' := Aside0.mk H
                        clear H
                        go_wp2
                        go_meet
                        case rel => exact ⟨_, (false), (by first | rfl | (simp; done) | (simp [*]; done)), H', ⟨by have := HK1.out; have := HJ5.out; first | omega | exact Nat.le_refl _⟩, ⟨by (with_reducible repeat (first | apply Kd.R_alloc | apply Kd.R_drewN | apply Kd.R_drew)); exact HO_3.out⟩, ⟨by repeat (first | (with_reducible first | exact HB.out | apply below_alloc | apply pw_below_drewN | apply below_drew1) | exact HB.out)⟩⟩
                    case rest =>
                      clear HC10
                      try clear c1
                      try clear c2
                      try clear c2b0
                      try clear p2
                      try clear c3
                      try clear c3b0
                      try clear p4
                      try clear q4
                      try clear hx4
                      try clear c5
                      try clear c5b0
                      try clear c5b1
                      try clear p6
                      try clear c7
                      try clear c7b0
                      try clear c7b1
                      try clear c8
                      try clear c9
                      try clear c9b0
                      try clear c9b1
                      try clear c11
                      try clear c11b0
                      try clear c11b1
                      try clear p2
                      try clear p4
                      try clear q4
                      obtain ⟨kq, x40_9, rfl, HA, HJ9, HO_3, HB⟩ := hcut
                      cases kq with
                      | zero => exact absurd HA.out (by simp [muslinref17_pieces.j2])
                      | succ kj9 =>
                        have H := HA.out
                        clear HA
                        simp only [muslinref17_pieces.j2] at H
                        by_cases c12 : x40_9 = true
                        · subst c12
                          have H1 : (muslinref17_pieces.l0 kj9 a0 x3_1 x4_1 (wrap64 (x5_1 - 1)) x6_1 (wrap64 (x7_1 + 1))) = some r := by rw [if_pos rfl] at H; exact H
                          clear H
                          have H := H1
                          clear H1
                          have H' := Aside0.mk H
                          clear H
                          go_wp2
                          go_roundg kj9
                          case measure => have := HK1.out; have := HJ5.out; have := HJ9.out; omega
                          case rel => exact ⟨(x3_1), (x4_1), (wrap64 (x5_1 - 1)), (x6_1), (wrap64 (x7_1 + 1)), (by first | rfl | (simp; done) | (simp [*]; done)), (by first | rfl | (simp; done) | (simp [*]; done)), (by first | rfl | (simp; done) | (simp [*]; done)), (by first | rfl | (simp; done) | (simp [*]; done)), H', ⟨by have := HK1.out; have := HJ5.out; have := HJ9.out; omega⟩, ⟨by (with_reducible repeat (first | apply Kd.R_alloc | apply Kd.R_drewN | apply Kd.R_drew)); exact HO_3.out⟩, ⟨by repeat (first | (with_reducible first | exact HB.out | apply below_alloc | apply pw_below_drewN | apply below_drew1) | exact HB.out)⟩⟩
                        · replace c12 := Bool.eq_false_iff.mpr c12
                          subst c12
                          have H1 : (if (bt a0 x7_1) = 59 then (if x5_1 = 0 then (if 0 ≤ x4_1 then (if x4_1 ≤ x7_1 then (if x7_1 ≤ (a0.size : Int) then (if x3_1.length < 8796093022208 then (muslinref17_pieces.l0 kj9 a0 (x3_1 ++ [a0.extract (x4_1 : Int).toNat (x7_1 : Int).toNat]) (wrap64 (x7_1 + 1)) x5_1 x6_1 (wrap64 (x7_1 + 1))) else (none)) else (none)) else (none)) else (none)) else (muslinref17_pieces.l0 kj9 a0 x3_1 x4_1 x5_1 x6_1 (wrap64 (x7_1 + 1)))) else (muslinref17_pieces.l0 kj9 a0 x3_1 x4_1 x5_1 x6_1 (wrap64 (x7_1 + 1)))) = some r := by rw [if_neg (show ¬ (false = true) by decide)] at H; exact H
                          clear H
                          have H := H1
                          clear H1
                          by_cases c13 : (bt a0 x7_1) = 59
                          · rw [if_pos c13] at H
                            have c13b0 : ((bt a0 x7_1) == 59) = true := beq_iff_eq.mpr c13
                            have c13b1 : ((bt a0 x7_1) != 59) = false := bne_eq_false_iff_eq.mpr c13
                            clear c13
                            by_cases c14 : x5_1 = 0
                            · rw [if_pos c14] at H
                              have c14b0 : (x5_1 == 0) = true := beq_iff_eq.mpr c14
                              have c14b1 : (x5_1 != 0) = false := bne_eq_false_iff_eq.mpr c14
                              clear c14
                              by_cases c15 : 0 ≤ x4_1
                              · rw [if_pos c15] at H
                                have c15b0 := eq_true c15
                                have c15b1 : decide (0 ≤ x4_1) = true := decide_eq_true c15
                                clear c15
                                by_cases c16 : x4_1 ≤ x7_1
                                · rw [if_pos c16] at H
                                  have c16b0 := eq_true c16
                                  have c16b1 : decide (x4_1 ≤ x7_1) = true := decide_eq_true c16
                                  clear c16
                                  by_cases c17 : x7_1 ≤ (a0.size : Int)
                                  · rw [if_pos c17] at H
                                    have c17b0 := eq_true c17
                                    have c17b1 : decide (x7_1 ≤ (a0.size : Int)) = true := decide_eq_true c17
                                    clear c17
                                    by_cases c18 : x3_1.length < 8796093022208
                                    · rw [if_pos c18] at H
                                      have LMc18 := Aside0.mk c18
                                      clear c18
                                      obtain ⟨y137, hy137⟩ : ∃ y_ : List ByteArray, y_ = (x3_1 ++ [a0.extract (x4_1 : Int).toNat (x7_1 : Int).toNat]) := ⟨_, rfl⟩
                                      replace H : (muslinref17_pieces.l0 kj9 a0 y137 (wrap64 (x7_1 + 1)) x5_1 x6_1 (wrap64 (x7_1 + 1))) = some r := by first | (rw [hy137]; with_reducible exact H) | (have H2_ := (Option.bind_some _ _).symm.trans H; rw [hy137]; with_reducible exact H2_) | (have H2_ := (Option.bind_some _ _).symm.trans H; with_reducible exact H2_) | with_reducible exact H | (rw [hy137]; exact H) | exact H
                                      have Ny137 := Aside0.mk hy137
                                      clear hy137
                                      have H' := Aside0.mk H
                                      clear H
                                      go_wp2_with (first | ((with_reducible refine gate_builtin (b := .append) (xs := #[.tmp 56, .tmp 61]) rfl ?_); at_builtin; refine Kd.R_append Kd.string (w0 := w) w.heap.size rfl (.tmp 56) (.tmp 61) 35 9 (.string ⟨#[]⟩) 16 rfl Tryd.underlying35 info9 rfl (by decide) (by omega) u3 x3_1 (a0.extract (x4_1 : Int).toNat (x7_1 : Int).toNat) [.string (a0.extract (x4_1 : Int).toNat (x7_1 : Int).toNat)] (fun _ => True) (fun _ => False) rfl rfl ?aP (fun _ hk => hk.elim) ?aF ?aO ?aB ?aS ?aL ?_; (case aP => exact rfl); (case aB => exact (by repeat (first | (with_reducible first | exact HB.out | apply below_alloc | apply pw_below_drewN | apply below_drew1) | exact HB.out))); (case aF => exact (fun _ _ => trivial)); (case aO => exact (by (with_reducible repeat (first | apply Kd.R_alloc | apply Kd.R_drewN | apply Kd.R_drew)); exact HO_3.out)); (case aS => exact (below_size (by repeat (first | (with_reducible first | exact HB.out | apply below_alloc | apply pw_below_drewN | apply below_drew1) | exact HB.out)))); (case aL => have := LMc18.out; omega); intro v138 w19 ho hb hg hat; rw [← Ny137.out] at ho; have n0_ := Aside0.mk (hb); have n1_ := Aside0.mk (ho); clear HB; clear HO_3; have HB := n0_; have HO139 := n1_; clear n0_ n1_; clear ho hb hg hat))
                                      go_roundg kj9
                                      case measure => have := HK1.out; have := HJ5.out; have := HJ9.out; omega
                                      case rel => exact ⟨(y137), (wrap64 (x7_1 + 1)), (x5_1), (x6_1), (wrap64 (x7_1 + 1)), (by first | rfl | (simp; done) | (simp [*]; done)), (by first | rfl | (simp; done) | (simp [*]; done)), (by first | rfl | (simp; done) | (simp [*]; done)), (by first | rfl | (simp; done) | (simp [*]; done)), H', ⟨by have := HK1.out; have := HJ5.out; have := HJ9.out; omega⟩, ⟨by (with_reducible repeat (first | apply Kd.R_alloc | apply Kd.R_drewN | apply Kd.R_drew)); exact HO139.out⟩, ⟨by repeat (first | (with_reducible first | exact HB.out | apply below_alloc | apply pw_below_drewN | apply below_drew1) | exact HB.out)⟩⟩
                                    · rw [if_neg c18] at H
                                      exact absurd H (by simp)
                                  · rw [if_neg c17] at H
                                    exact absurd H (by simp)
                                · rw [if_neg c16] at H
                                  exact absurd H (by simp)
                              · rw [if_neg c15] at H
                                exact absurd H (by simp)
                            · rw [if_neg c14] at H
                              have c14b0 : (x5_1 == 0) = false := beq_eq_false_iff_ne.mpr c14
                              have c14b1 : (x5_1 != 0) = true := bne_iff_ne.mpr c14
                              have H' := Aside0.mk H
                              clear H
                              go_wp2
                              go_roundg kj9
                              case measure => have := HK1.out; have := HJ5.out; have := HJ9.out; omega
                              case rel => exact ⟨(x3_1), (x4_1), (x5_1), (x6_1), (wrap64 (x7_1 + 1)), (by first | rfl | (simp; done) | (simp [*]; done)), (by first | rfl | (simp; done) | (simp [*]; done)), (by first | rfl | (simp; done) | (simp [*]; done)), (by first | rfl | (simp; done) | (simp [*]; done)), H', ⟨by have := HK1.out; have := HJ5.out; have := HJ9.out; omega⟩, ⟨by (with_reducible repeat (first | apply Kd.R_alloc | apply Kd.R_drewN | apply Kd.R_drew)); exact HO_3.out⟩, ⟨by repeat (first | (with_reducible first | exact HB.out | apply below_alloc | apply pw_below_drewN | apply below_drew1) | exact HB.out)⟩⟩
                          · rw [if_neg c13] at H
                            have c13b0 : ((bt a0 x7_1) == 59) = false := beq_eq_false_iff_ne.mpr c13
                            have c13b1 : ((bt a0 x7_1) != 59) = true := bne_iff_ne.mpr c13
                            have H' := Aside0.mk H
                            clear H
                            go_wp2
                            go_roundg kj9
                            case measure => have := HK1.out; have := HJ5.out; have := HJ9.out; omega
                            case rel => exact ⟨(x3_1), (x4_1), (x5_1), (x6_1), (wrap64 (x7_1 + 1)), (by first | rfl | (simp; done) | (simp [*]; done)), (by first | rfl | (simp; done) | (simp [*]; done)), (by first | rfl | (simp; done) | (simp [*]; done)), (by first | rfl | (simp; done) | (simp [*]; done)), H', ⟨by have := HK1.out; have := HJ5.out; have := HJ9.out; omega⟩, ⟨by (with_reducible repeat (first | apply Kd.R_alloc | apply Kd.R_drewN | apply Kd.R_drew)); exact HO_3.out⟩, ⟨by repeat (first | (with_reducible first | exact HB.out | apply below_alloc | apply pw_below_drewN | apply below_drew1) | exact HB.out)⟩⟩
          · rw [if_neg c5] at H
            have c5b0 : (x6_1 == 0) = false := beq_eq_false_iff_ne.mpr c5
            have c5b1 : (x6_1 != 0) = true := bne_iff_ne.mpr c5
            by_cases c20 : (bt a0 x7_1) = 92
            · rw [if_pos c20] at H
              have c20b0 : ((bt a0 x7_1) == 92) = true := beq_iff_eq.mpr c20
              have c20b1 : ((bt a0 x7_1) != 92) = false := bne_eq_false_iff_eq.mpr c20
              clear c20
              have H' := Aside0.mk H
              clear H
              have p4 : 0 ≤ (x7_1 : Int) := of_decide_eq_true (by first | (with_reducible assumption) | assumption)
              have q4 : x7_1 < (a0.size : Int) := of_decide_eq_true (by first | (with_reducible assumption) | assumption)
              have hx4 := bt_at a0 x7_1
              replace p4 := eq_true p4
              replace q4 := eq_true q4
              go_wp2
              go_roundg k1
              case measure => have := HK1.out; omega
              case rel => exact ⟨(x3_1), (x4_1), (x5_1), (x6_1), (wrap64 ((wrap64 (x7_1 + 1)) + 1)), (by first | rfl | (simp; done) | (simp [*]; done)), (by first | rfl | (simp; done) | (simp [*]; done)), (by first | rfl | (simp; done) | (simp [*]; done)), (by first | rfl | (simp; done) | (simp [*]; done)), H', ⟨by have := HK1.out; omega⟩, ⟨by (with_reducible repeat (first | apply Kd.R_alloc | apply Kd.R_drewN | apply Kd.R_drew)); exact HO_3.out⟩, ⟨by repeat (first | (with_reducible first | exact HB.out | apply below_alloc | apply pw_below_drewN | apply below_drew1) | exact HB.out)⟩⟩
            · rw [if_neg c20] at H
              have c20b0 : ((bt a0 x7_1) == 92) = false := beq_eq_false_iff_ne.mpr c20
              have c20b1 : ((bt a0 x7_1) != 92) = true := bne_iff_ne.mpr c20
              by_cases c21 : (bt a0 x7_1) = x6_1
              · rw [if_pos c21] at H
                have c21b0 : ((bt a0 x7_1) == x6_1) = true := beq_iff_eq.mpr c21
                have c21b1 : ((bt a0 x7_1) != x6_1) = false := bne_eq_false_iff_eq.mpr c21
                clear c21
                have H' := Aside0.mk H
                clear H
                have p4 : 0 ≤ (x7_1 : Int) := of_decide_eq_true (by first | (with_reducible assumption) | assumption)
                have q4 : x7_1 < (a0.size : Int) := of_decide_eq_true (by first | (with_reducible assumption) | assumption)
                have hx4 := bt_at a0 x7_1
                replace p4 := eq_true p4
                replace q4 := eq_true q4
                go_wp2
                go_roundg k1
                case measure => have := HK1.out; omega
                case rel => exact ⟨(x3_1), (x4_1), (x5_1), (0), (wrap64 (x7_1 + 1)), (by first | rfl | (simp; done) | (simp [*]; done)), (by first | rfl | (simp; done) | (simp [*]; done)), (by first | rfl | (simp; done) | (simp [*]; done)), (by first | rfl | (simp; done) | (simp [*]; done)), H', ⟨by have := HK1.out; omega⟩, ⟨by (with_reducible repeat (first | apply Kd.R_alloc | apply Kd.R_drewN | apply Kd.R_drew)); exact HO_3.out⟩, ⟨by repeat (first | (with_reducible first | exact HB.out | apply below_alloc | apply pw_below_drewN | apply below_drew1) | exact HB.out)⟩⟩
              · rw [if_neg c21] at H
                have c21b0 : ((bt a0 x7_1) == x6_1) = false := beq_eq_false_iff_ne.mpr c21
                have c21b1 : ((bt a0 x7_1) != x6_1) = true := bne_iff_ne.mpr c21
                have H' := Aside0.mk H
                clear H
                have p4 : 0 ≤ (x7_1 : Int) := of_decide_eq_true (by first | (with_reducible assumption) | assumption)
                have q4 : x7_1 < (a0.size : Int) := of_decide_eq_true (by first | (with_reducible assumption) | assumption)
                have hx4 := bt_at a0 x7_1
                replace p4 := eq_true p4
                replace q4 := eq_true q4
                go_wp2
                go_roundg k1
                case measure => have := HK1.out; omega
                case rel => exact ⟨(x3_1), (x4_1), (x5_1), (x6_1), (wrap64 (x7_1 + 1)), (by first | rfl | (simp; done) | (simp [*]; done)), (by first | rfl | (simp; done) | (simp [*]; done)), (by first | rfl | (simp; done) | (simp [*]; done)), (by first | rfl | (simp; done) | (simp [*]; done)), H', ⟨by have := HK1.out; omega⟩, ⟨by (with_reducible repeat (first | apply Kd.R_alloc | apply Kd.R_drewN | apply Kd.R_drew)); exact HO_3.out⟩, ⟨by repeat (first | (with_reducible first | exact HB.out | apply below_alloc | apply pw_below_drewN | apply below_drew1) | exact HB.out)⟩⟩
        · rw [if_neg c3] at H
          exact absurd H (by simp)
      · rw [if_neg c2] at H
        have c2b0 : decide (x7_1 < (a0.size : Int)) = false := decide_eq_false c2
        clear c2
        by_cases c22 : 0 ≤ x4_1
        · rw [if_pos c22] at H
          have c22b0 := eq_true c22
          have c22b1 : decide (0 ≤ x4_1) = true := decide_eq_true c22
          clear c22
          by_cases c23 : x4_1 ≤ (a0.size : Int)
          · rw [if_pos c23] at H
            have c23b0 := eq_true c23
            have c23b1 : decide (x4_1 ≤ (a0.size : Int)) = true := decide_eq_true c23
            clear c23
            by_cases c24 : x3_1.length < 8796093022208
            · rw [if_pos c24] at H
              have LMc24 := Aside0.mk c24
              clear c24
              obtain ⟨y134, hy134⟩ : ∃ y_ : List ByteArray, y_ = (x3_1 ++ [a0.extract (x4_1 : Int).toNat a0.size]) := ⟨_, rfl⟩
              replace H : (some y134) = some r := by first | (rw [hy134]; with_reducible exact H) | (have H2_ := (Option.bind_some _ _).symm.trans H; rw [hy134]; with_reducible exact H2_) | (have H2_ := (Option.bind_some _ _).symm.trans H; with_reducible exact H2_) | with_reducible exact H | (rw [hy134]; exact H) | exact H
              have Ny134 := Aside0.mk hy134
              clear hy134
              obtain rfl := Option.some.inj H
              go_wp2_with (first | ((with_reducible refine gate_builtin (b := .append) (xs := #[.tmp 65, .tmp 69]) rfl ?_); at_builtin; refine Kd.R_append Kd.string (w0 := w) w.heap.size rfl (.tmp 65) (.tmp 69) 35 9 (.string ⟨#[]⟩) 16 rfl Tryd.underlying35 info9 rfl (by decide) (by omega) u3 x3_1 (a0.extract (x4_1 : Int).toNat a0.size) [.string (a0.extract (x4_1 : Int).toNat a0.size)] (fun _ => True) (fun _ => False) rfl rfl ?aP (fun _ hk => hk.elim) ?aF ?aO ?aB ?aS ?aL ?_; (case aP => exact rfl); (case aB => exact (by repeat (first | (with_reducible first | exact HB.out | apply below_alloc | apply pw_below_drewN | apply below_drew1) | exact HB.out))); (case aF => exact (fun _ _ => trivial)); (case aO => exact (by (with_reducible repeat (first | apply Kd.R_alloc | apply Kd.R_drewN | apply Kd.R_drew)); exact HO_3.out)); (case aS => exact (below_size (by repeat (first | (with_reducible first | exact HB.out | apply below_alloc | apply pw_below_drewN | apply below_drew1) | exact HB.out)))); (case aL => have := LMc24.out; omega); intro v135 w25 ho hb hg hat; rw [← Ny134.out] at ho; have n0_ := Aside0.mk (hb); have n1_ := Aside0.mk (ho); clear HB; clear HO_3; have HB := n0_; have HO136 := n1_; clear n0_ n1_; clear ho hb hg hat))
              go_ret
              exact ⟨_, by first | rfl | (simp [errW_none, errW_some] <;> rfl) | (simp [*, errW_none, errW_some] <;> rfl), by (with_reducible repeat (first | apply Kd.R_alloc | apply Kd.R_drewN | apply Kd.R_drew)); exact HO136.out, by repeat (first | (with_reducible first | exact HB.out | apply below_alloc | apply pw_below_drewN | apply below_drew1) | exact HB.out)⟩
            · rw [if_neg c24] at H
              exact absurd H (by simp)
          · rw [if_neg c23] at H
            exact absurd H (by simp)
        · rw [if_neg c22] at H
          exact absurd H (by simp)

-- GIVEN: function 23 (muslinref03_Small): Derived.Test.YtollfaphadcnnaaDoorGiven

/-! ### muslinref04_Space: function 41 -/
def muslinref04_Space.f (a0 : Int) : Option (Bool) := if a0 = 32 then (some true) else (if a0 = 9 then (some true) else (if a0 = 10 then (some true) else (if a0 = 12 then (some true) else (some (a0 == 13)))))
set_option maxHeartbeats 8000000 in
set_option maxRecDepth 100000 in
theorem muslinref04_Space.calls (a0 : Int) (r : Bool) (w : World) (h : muslinref04_Space.f a0 = some r) :
    Calls Tryd.prog 41 #[.int .u8 a0] w fun e w' => e = .returned (.bool r) ∧ Drawn0 w w' := by
  have H : (if a0 = 32 then (some true) else (if a0 = 9 then (some true) else (if a0 = 10 then (some true) else (if a0 = 12 then (some true) else (some (a0 == 13)))))) = some r := h
  clear h
  by_cases c2 : a0 = 32
  · rw [if_pos c2] at H
    have c2b0 : (a0 == 32) = true := beq_iff_eq.mpr c2
    have c2b1 : (a0 != 32) = false := bne_eq_false_iff_eq.mpr c2
    clear c2
    obtain rfl := Option.some.inj H
    go_enter Tryd.func41, Tryd.ntmps41
    go_wp2
    go_ret
    exact ⟨by first | rfl | (simp; done) | (simp [*]; done), by repeat (first | exact Drawn0.refl _ | apply Drawn0.step)⟩
  · rw [if_neg c2] at H
    have c2b0 : (a0 == 32) = false := beq_eq_false_iff_ne.mpr c2
    have c2b1 : (a0 != 32) = true := bne_iff_ne.mpr c2
    by_cases c3 : a0 = 9
    · rw [if_pos c3] at H
      have c3b0 : (a0 == 9) = true := beq_iff_eq.mpr c3
      have c3b1 : (a0 != 9) = false := bne_eq_false_iff_eq.mpr c3
      clear c3
      obtain rfl := Option.some.inj H
      go_enter Tryd.func41, Tryd.ntmps41
      go_wp2
      go_ret
      exact ⟨by first | rfl | (simp; done) | (simp [*]; done), by repeat (first | exact Drawn0.refl _ | apply Drawn0.step)⟩
    · rw [if_neg c3] at H
      have c3b0 : (a0 == 9) = false := beq_eq_false_iff_ne.mpr c3
      have c3b1 : (a0 != 9) = true := bne_iff_ne.mpr c3
      by_cases c4 : a0 = 10
      · rw [if_pos c4] at H
        have c4b0 : (a0 == 10) = true := beq_iff_eq.mpr c4
        have c4b1 : (a0 != 10) = false := bne_eq_false_iff_eq.mpr c4
        clear c4
        obtain rfl := Option.some.inj H
        go_enter Tryd.func41, Tryd.ntmps41
        go_wp2
        go_ret
        exact ⟨by first | rfl | (simp; done) | (simp [*]; done), by repeat (first | exact Drawn0.refl _ | apply Drawn0.step)⟩
      · rw [if_neg c4] at H
        have c4b0 : (a0 == 10) = false := beq_eq_false_iff_ne.mpr c4
        have c4b1 : (a0 != 10) = true := bne_iff_ne.mpr c4
        by_cases c5 : a0 = 12
        · rw [if_pos c5] at H
          have c5b0 : (a0 == 12) = true := beq_iff_eq.mpr c5
          have c5b1 : (a0 != 12) = false := bne_eq_false_iff_eq.mpr c5
          clear c5
          obtain rfl := Option.some.inj H
          go_enter Tryd.func41, Tryd.ntmps41
          go_wp2
          go_ret
          exact ⟨by first | rfl | (simp; done) | (simp [*]; done), by repeat (first | exact Drawn0.refl _ | apply Drawn0.step)⟩
        · rw [if_neg c5] at H
          have c5b0 : (a0 == 12) = false := beq_eq_false_iff_ne.mpr c5
          have c5b1 : (a0 != 12) = true := bne_iff_ne.mpr c5
          obtain rfl := Option.some.inj H
          go_enter Tryd.func41, Tryd.ntmps41
          go_wp2
          go_ret
          exact ⟨by first | rfl | (simp; done) | (simp [*]; done), by repeat (first | exact Drawn0.refl _ | apply Drawn0.step)⟩

end Go.Proofs.YtollfaphadcnnaaDoor.Pr
