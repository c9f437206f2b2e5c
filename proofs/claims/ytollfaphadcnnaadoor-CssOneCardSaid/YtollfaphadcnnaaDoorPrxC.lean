/- Written by a program of this session (printa.py), with functions proved by hand counted as printed; Lean checks it. -/
import Derived.Test.YtollfaphadcnnaaDoorPrx0
import Derived.Test.YtollfaphadcnnaaDoorPrx2
import Derived.Test.YtollfaphadcnnaaDoorPrx3
import Derived.Test.YtollfaphadcnnaaDoorGiven1
namespace Go.Proofs.YtollfaphadcnnaaDoor.Pr
open Go.RowKit Go.Proofs.YtollfaphadcnnaaDoorW.PrintWords Go.Proofs.YtollfaphadcnnaaDoorW.PrintLast Go.Proofs.YtollfaphadcnnaaDoorW.PrintMore
attribute [local go_sem] max2_int min2_int max_two min_two max_three min_three max_four min_four   -- for this text's walks alone
set_option linter.unusedVariables false
set_option linter.unusedSimpArgs false

/-! ### css_Cut: function 12 -/
mutual
def css_Cut.l0 : Nat → ByteArray → List (S29) → Option ((List (S29)))
  | 0, _, _ => none
  | k + 1, x0, x3 => (css_end.f k x0).bind fun t113 => (if 0 ≤ t113 then (if t113 ≤ (x0.size : Int) then ((strings_Cut.f (x0.extract 0 (t113 : Int).toNat) (⟨#[58]⟩ : ByteArray)).bind fun bt114 => ((strings_Trim.f bt114.1 (⟨#[32, 9, 10, 12, 13]⟩ : ByteArray)).bind fun t117 => ((css_small.f t117).bind fun t118 => ((strings_Trim.f bt114.2.1 (⟨#[32, 9, 10, 12, 13]⟩ : ByteArray)).bind fun t119 => (if t118.toList = ([] : List UInt8) then (css_Cut.j1 k x0 x3 t113 t118 t119 false) else (css_Cut.j1 k x0 x3 t113 t118 t119 (t119.toList != ([] : List UInt8)))))))) else (none)) else (none))
def css_Cut.j1 : Nat → ByteArray → List (S29) → Int → ByteArray → ByteArray → Bool → Option ((List (S29)))
  | 0, _, _, _, _, _, _ => none
  | k + 1, x0, x3, x4, x5, x6, x28 => if x28 = true then (if x3.length < 4398046511104 then ((some (x3 ++ [(⟨x5, x6⟩ : S29)] : List (S29))).bind fun y120 => (if x4 = (x0.size : Int) then (some y120) else (if 0 ≤ (wrap64 (x4 + 1)) then (if (wrap64 (x4 + 1)) ≤ (x0.size : Int) then (css_Cut.l0 k (x0.extract ((wrap64 (x4 + 1)) : Int).toNat x0.size) y120) else (none)) else (none)))) else (none)) else (if x4 = (x0.size : Int) then (some x3) else (if 0 ≤ (wrap64 (x4 + 1)) then (if (wrap64 (x4 + 1)) ≤ (x0.size : Int) then (css_Cut.l0 k (x0.extract ((wrap64 (x4 + 1)) : Int).toNat x0.size) x3) else (none)) else (none)))
end
def css_Cut.f (k : Nat) (a0 : ByteArray) : Option ((List (S29))) := css_Cut.l0 k a0 ([] : List (S29))
theorem css_Cut.mono_l : ∀ k, (∀ y0 y1, LeO (css_Cut.l0 k y0 y1) (css_Cut.l0 (k + 1) y0 y1)) ∧ (∀ y0 y1 y2 y3 y4 y5, LeO (css_Cut.j1 k y0 y1 y2 y3 y4 y5) (css_Cut.j1 (k + 1) y0 y1 y2 y3 y4 y5))
  | 0 => ⟨fun _ _ r h => by simp [css_Cut.l0] at h, fun _ _ _ _ _ _ r h => by simp [css_Cut.j1] at h⟩
  | k + 1 => by
    obtain ⟨ih0, ih1⟩ := css_Cut.mono_l k
    refine ⟨?_, ?_⟩
    · intro y0 y1
      unfold css_Cut.l0
      repeat' first
      | (with_reducible exact ih0 _ _)
      | (with_reducible exact ih1 _ _ _ _ _ _)
      | (with_reducible exact css_end.mono _ _)
      | (with_reducible exact LeO.refl _)
      | (with_reducible exact LeO.none _)
      | (with_reducible refine LeO.ite ?_ ?_)
      | (with_reducible refine LeO.bind ?_ (fun _ => ?_))
      | exact ih0 _ _
      | exact ih1 _ _ _ _ _ _
      | exact css_end.mono _ _
      | exact LeO.none _
      | refine LeO.ite ?_ ?_
      | refine LeO.bind ?_ (fun _ => ?_)
    · intro y0 y1 y2 y3 y4 y5
      unfold css_Cut.j1
      repeat' first
      | (with_reducible exact ih0 _ _)
      | (with_reducible exact ih1 _ _ _ _ _ _)
      | (with_reducible exact css_end.mono _ _)
      | (with_reducible exact LeO.refl _)
      | (with_reducible exact LeO.none _)
      | (with_reducible refine LeO.ite ?_ ?_)
      | (with_reducible refine LeO.bind ?_ (fun _ => ?_))
      | exact ih0 _ _
      | exact ih1 _ _ _ _ _ _
      | exact css_end.mono _ _
      | exact LeO.none _
      | refine LeO.ite ?_ ?_
      | refine LeO.bind ?_ (fun _ => ?_)
theorem css_Cut.mono : ∀ a0 k, LeO (css_Cut.f k a0) (css_Cut.f (k + 1) a0) := by
  intro a0 k
  obtain ⟨ih0, ih1⟩ := css_Cut.mono_l k
  unfold css_Cut.f
  repeat' first
      | (with_reducible exact ih0 _ _)
      | (with_reducible exact ih1 _ _ _ _ _ _)
      | (with_reducible exact css_end.mono _ _)
      | (with_reducible exact LeO.refl _)
      | (with_reducible exact LeO.none _)
      | (with_reducible refine LeO.ite ?_ ?_)
      | (with_reducible refine LeO.bind ?_ (fun _ => ?_))
      | exact ih0 _ _
      | exact ih1 _ _ _ _ _ _
      | exact css_end.mono _ _
      | exact LeO.none _
      | refine LeO.ite ?_ ?_
      | refine LeO.bind ?_ (fun _ => ?_)
set_option maxHeartbeats 8000000 in
set_option maxRecDepth 100000 in
theorem css_Cut.calls (k : Nat) (a0 : ByteArray) (r : List (S29)) (w : World) (h : css_Cut.f k a0 = some r) :
    Calls Tryd.prog 12 #[.string a0] w fun e w' => ∃ v0_ : Value, e = .returned (v0_) ∧ Kd.R k29 29 w' w.heap.size (fun _ => True) v0_ r ∧ Below w.heap.size w w' := by
  have hu29 := Tryd.underlying29
  have HB := Aside0.mk (Below.refl w.heap.size w)
  have H : (css_Cut.l0 k a0 ([] : List (S29))) = some r := h
  clear h
  have H' := Aside0.mk H
  clear H
  go_enter Tryd.func12, Tryd.ntmps12
  go_wp2
  go_loopg [0, 3] k (fun kq v0 v3 w' => ∃ (x0_1 : ByteArray) (x3_1 : List (S29)), v0 = .string x0_1 ∧ Aside0 (css_Cut.l0 kq x0_1 x3_1 = some r) ∧ Aside0 (kq ≤ k) ∧ Aside0 (Kd.R k29 29 w' w.heap.size (fun _ => True) v3 x3_1) ∧ Aside0 (Below w.heap.size w w'))
  case atStart => exact ⟨(a0), (([] : List (S29))), (by first | rfl | (simp; done) | (simp [*]; done)), H', ⟨Nat.le_refl _⟩, ⟨by first | exact Kd.R_nil _ _ _ _ _ | exact Kd.N_nil _ _ _ _ _ | exact Kd.V_nil _ _ _ _ _ | exact Kd.Q_nil _ _ _ _ _ | exact Kd.S_nil _ _ _ _ _⟩, ⟨by repeat (first | (with_reducible first | exact HB.out | apply below_alloc | apply pw_below_drewN | apply below_drew1) | exact HB.out)⟩⟩
  case round =>
    clear H'
    try clear c1
    obtain ⟨x0_1, x3_1, rfl, HA, HK1, HO_3, HB⟩ := hrel
    cases gk with
    | zero => exact absurd HA.out (by simp [css_Cut.l0])
    | succ k1 =>
      have H := HA.out
      clear HA
      simp only [css_Cut.l0] at H
      replace H := Option.bind_eq_some_iff.mp H
      obtain ⟨t113, A20, H⟩ := H
      replace H : (if 0 ≤ t113 then (if t113 ≤ (x0_1.size : Int) then ((strings_Cut.f (x0_1.extract 0 (t113 : Int).toNat) (⟨#[58]⟩ : ByteArray)).bind fun bt114 => ((strings_Trim.f bt114.1 (⟨#[32, 9, 10, 12, 13]⟩ : ByteArray)).bind fun t117 => ((css_small.f t117).bind fun t118 => ((strings_Trim.f bt114.2.1 (⟨#[32, 9, 10, 12, 13]⟩ : ByteArray)).bind fun t119 => (if t118.toList = ([] : List UInt8) then (css_Cut.j1 k1 x0_1 x3_1 t113 t118 t119 false) else (css_Cut.j1 k1 x0_1 x3_1 t113 t118 t119 (t119.toList != ([] : List UInt8)))))))) else (none)) else (none)) = some r := H
      have A2 := Aside0.mk A20
      clear A20
      by_cases c3 : 0 ≤ t113
      · rw [if_pos c3] at H
        have c3b0 := eq_true c3
        have c3b1 : decide (0 ≤ t113) = true := decide_eq_true c3
        clear c3
        by_cases c4 : t113 ≤ (x0_1.size : Int)
        · rw [if_pos c4] at H
          have c4b0 := eq_true c4
          have c4b1 : decide (t113 ≤ (x0_1.size : Int)) = true := decide_eq_true c4
          clear c4
          replace H := Option.bind_eq_some_iff.mp H
          obtain ⟨⟨t114, t115, t116⟩, A50, H⟩ := H
          replace H : ((strings_Trim.f t114 (⟨#[32, 9, 10, 12, 13]⟩ : ByteArray)).bind fun t117 => ((css_small.f t117).bind fun t118 => ((strings_Trim.f t115 (⟨#[32, 9, 10, 12, 13]⟩ : ByteArray)).bind fun t119 => (if t118.toList = ([] : List UInt8) then (css_Cut.j1 k1 x0_1 x3_1 t113 t118 t119 false) else (css_Cut.j1 k1 x0_1 x3_1 t113 t118 t119 (t119.toList != ([] : List UInt8))))))) = some r := H
          have A5 := Aside0.mk A50
          clear A50
          replace H := Option.bind_eq_some_iff.mp H
          obtain ⟨t117, A60, H⟩ := H
          replace H : ((css_small.f t117).bind fun t118 => ((strings_Trim.f t115 (⟨#[32, 9, 10, 12, 13]⟩ : ByteArray)).bind fun t119 => (if t118.toList = ([] : List UInt8) then (css_Cut.j1 k1 x0_1 x3_1 t113 t118 t119 false) else (css_Cut.j1 k1 x0_1 x3_1 t113 t118 t119 (t119.toList != ([] : List UInt8)))))) = some r := H
          have A6 := Aside0.mk A60
          clear A60
          replace H := Option.bind_eq_some_iff.mp H
          obtain ⟨t118, A70, H⟩ := H
          replace H : ((strings_Trim.f t115 (⟨#[32, 9, 10, 12, 13]⟩ : ByteArray)).bind fun t119 => (if t118.toList = ([] : List UInt8) then (css_Cut.j1 k1 x0_1 x3_1 t113 t118 t119 false) else (css_Cut.j1 k1 x0_1 x3_1 t113 t118 t119 (t119.toList != ([] : List UInt8))))) = some r := H
          have A7 := Aside0.mk A70
          clear A70
          replace H := Option.bind_eq_some_iff.mp H
          obtain ⟨t119, A80, H⟩ := H
          replace H : (if t118.toList = ([] : List UInt8) then (css_Cut.j1 k1 x0_1 x3_1 t113 t118 t119 false) else (css_Cut.j1 k1 x0_1 x3_1 t113 t118 t119 (t119.toList != ([] : List UInt8)))) = some r := H
          have A8 := Aside0.mk A80
          clear A80
          have HC9 := Aside0.mk H
          clear H
          go_upto_region 5 with (first | ((with_reducible refine gate_callee (f := 18) rfl ?_); refine goesL_ (some 9) rfl rfl Tryd.func18 (by kernel_rfl) rfl #[.string x0_1] rfl (by (try simp only [List.map_toArray, List.map_cons, List.map_nil]); first | done | rfl | (simp only [List.length_drop, List.length_take]; rfl)) ?_; (with_reducible refine (css_end.calls k1 x0_1 t113 _ A2.out).mono ?_); rintro e w10 ⟨rfl, hb⟩; refine ⟨_, rfl, ?_⟩; have n0_ := Aside0.mk (Kd.R_below (by (with_reducible repeat (first | apply Kd.R_alloc | apply Kd.R_drewN | apply Kd.R_drew)); exact HO_3.out) hb); have n1_ := Aside0.mk (below_step (by repeat (first | (with_reducible first | exact HB.out | apply below_alloc | apply pw_below_drewN | apply below_drew1) | exact HB.out)) hb); clear HO_3; clear HB; have HO_3 := n0_; have HB := n1_; clear n0_ n1_; (try clear hb); (try clear hb2); (try clear hk); (try clear hi)) | ((with_reducible refine gate_callee (f := 19) rfl ?_); refine goesL_ (some 14) rfl rfl Tryd.func19 (by kernel_rfl) rfl #[.string (x0_1.extract 0 (t113 : Int).toNat), .string (⟨#[58]⟩ : ByteArray)] rfl (by (try simp only [List.map_toArray, List.map_cons, List.map_nil]); first | done | rfl | (simp only [List.length_drop, List.length_take]; rfl)) ?_; (with_reducible refine (strings_Cut.calls (x0_1.extract 0 (t113 : Int).toNat) (⟨#[58]⟩ : ByteArray) t114 t115 t116 _ A5.out).mono ?_); rintro e w11 ⟨rfl, hb⟩; refine ⟨_, rfl, ?_⟩; have n0_ := Aside0.mk (Kd.R_below (by (with_reducible repeat (first | apply Kd.R_alloc | apply Kd.R_drewN | apply Kd.R_drew)); exact HO_3.out) hb); have n1_ := Aside0.mk (below_step (by repeat (first | (with_reducible first | exact HB.out | apply below_alloc | apply pw_below_drewN | apply below_drew1) | exact HB.out)) hb); clear HO_3; clear HB; have HO_3 := n0_; have HB := n1_; clear n0_ n1_; (try clear hb); (try clear hb2); (try clear hk); (try clear hi)) | ((with_reducible refine gate_callee (f := 21) rfl ?_); refine goesL_ (some 19) rfl rfl Tryd.func21 (by kernel_rfl) rfl #[.string t114, .string (⟨#[32, 9, 10, 12, 13]⟩ : ByteArray)] rfl (by (try simp only [List.map_toArray, List.map_cons, List.map_nil]); first | done | rfl | (simp only [List.length_drop, List.length_take]; rfl)) ?_; (with_reducible refine (strings_Trim.calls t114 (⟨#[32, 9, 10, 12, 13]⟩ : ByteArray) t117 _ A6.out).mono ?_); rintro e w12 ⟨rfl, hb⟩; refine ⟨_, rfl, ?_⟩; have n0_ := Aside0.mk (Kd.R_below (by (with_reducible repeat (first | apply Kd.R_alloc | apply Kd.R_drewN | apply Kd.R_drew)); exact HO_3.out) hb); have n1_ := Aside0.mk (below_step (by repeat (first | (with_reducible first | exact HB.out | apply below_alloc | apply pw_below_drewN | apply below_drew1) | exact HB.out)) hb); clear HO_3; clear HB; have HO_3 := n0_; have HB := n1_; clear n0_ n1_; (try clear hb); (try clear hb2); (try clear hk); (try clear hi)) | ((with_reducible refine gate_callee (f := 20) rfl ?_); refine goesL_ (some 20) rfl rfl Tryd.func20 (by kernel_rfl) rfl #[.string t117] rfl (by (try simp only [List.map_toArray, List.map_cons, List.map_nil]); first | done | rfl | (simp only [List.length_drop, List.length_take]; rfl)) ?_; (with_reducible refine (css_small.calls t117 t118 _ A7.out).mono ?_); rintro e w13 ⟨rfl, hb⟩; refine ⟨_, rfl, ?_⟩; have n0_ := Aside0.mk (Kd.R_below (by (with_reducible repeat (first | apply Kd.R_alloc | apply Kd.R_drewN | apply Kd.R_drew)); exact HO_3.out) hb); have n1_ := Aside0.mk (below_step (by repeat (first | (with_reducible first | exact HB.out | apply below_alloc | apply pw_below_drewN | apply below_drew1) | exact HB.out)) hb); clear HO_3; clear HB; have HO_3 := n0_; have HB := n1_; clear n0_ n1_; (try clear hb); (try clear hb2); (try clear hk); (try clear hi)) | ((with_reducible refine gate_callee (f := 21) rfl ?_); refine goesL_ (some 22) rfl rfl Tryd.func21 (by kernel_rfl) rfl #[.string t115, .string (⟨#[32, 9, 10, 12, 13]⟩ : ByteArray)] rfl (by (try simp only [List.map_toArray, List.map_cons, List.map_nil]); first | done | rfl | (simp only [List.length_drop, List.length_take]; rfl)) ?_; (with_reducible refine (strings_Trim.calls t115 (⟨#[32, 9, 10, 12, 13]⟩ : ByteArray) t119 _ A8.out).mono ?_); rintro e w14 ⟨rfl, hb⟩; refine ⟨_, rfl, ?_⟩; have n0_ := Aside0.mk (Kd.R_below (by (with_reducible repeat (first | apply Kd.R_alloc | apply Kd.R_drewN | apply Kd.R_drew)); exact HO_3.out) hb); have n1_ := Aside0.mk (below_step (by repeat (first | (with_reducible first | exact HB.out | apply below_alloc | apply pw_below_drewN | apply below_drew1) | exact HB.out)) hb); clear HO_3; clear HB; have HO_3 := n0_; have HB := n1_; clear n0_ n1_; (try clear hb); (try clear hb2); (try clear hk); (try clear hi)))
          (try simp only [Act.put, List.setIfInBounds_toArray, List.set_cons_zero, List.set_cons_succ])
          go_cut [28] (fun v28 wc => ∃ (kq : Nat) (x28_8 : Bool), v28 = .bool x28_8 ∧ Aside0 (css_Cut.j1 kq x0_1 x3_1 t113 t118 t119 x28_8 = some r) ∧ Aside0 (kq ≤ k1) ∧ Aside0 (Kd.R k29 29 wc w.heap.size (fun _ => True) u3 x3_1) ∧ Aside0 (Below w.heap.size w wc))
          case first =>
            have H := HC9.out
            clear HC9
            by_cases c15 : t118.toList = ([] : List UInt8)
            · rw [if_pos c15] at H
              have c15b0 : (t118.toList == ([] : List UInt8)) = true := beq_iff_eq.mpr c15
              have c15b1 : (t118.toList != ([] : List UInt8)) = false := bne_eq_false_iff_eq.mpr c15
              clear c15
              (first | rw [c15b0] | (simp only [i64_w, i32_w]; rw [c15b0]) | rw [c15b1] | skip)
              have H' := Aside0.mk H
              clear H
              go_wp2
              go_meet
              case rel => exact ⟨_, (false), (by first | rfl | (simp; done) | (simp [*]; done)), H', ⟨by have := HK1.out; first | omega | exact Nat.le_refl _⟩, ⟨by (with_reducible repeat (first | apply Kd.R_alloc | apply Kd.R_drewN | apply Kd.R_drew)); exact HO_3.out⟩, ⟨by repeat (first | (with_reducible first | exact HB.out | apply below_alloc | apply pw_below_drewN | apply below_drew1) | exact HB.out)⟩⟩
            · rw [if_neg c15] at H
              have c15b0 : (t118.toList == ([] : List UInt8)) = false := beq_eq_false_iff_ne.mpr c15
              have c15b1 : (t118.toList != ([] : List UInt8)) = true := bne_iff_ne.mpr c15
              (first | rw [c15b0] | (simp only [i64_w, i32_w]; rw [c15b0]) | rw [c15b1] | skip)
              have H' := Aside0.mk H
              clear H
              go_wp2
              go_meet
              case rel => exact ⟨_, ((t119.toList != ([] : List UInt8))), (by first | rfl | exact congrArg Value.bool (bne_nil _) | (simp; done) | (simp [*]; done)), H', ⟨by have := HK1.out; first | omega | exact Nat.le_refl _⟩, ⟨by (with_reducible repeat (first | apply Kd.R_alloc | apply Kd.R_drewN | apply Kd.R_drew)); exact HO_3.out⟩, ⟨by repeat (first | (with_reducible first | exact HB.out | apply below_alloc | apply pw_below_drewN | apply below_drew1) | exact HB.out)⟩⟩
          case rest =>
            clear HC9
            try clear c1
            try clear c2
            try clear p2
            try clear c3
            try clear c3b0
            try clear c3b1
            try clear c4
            try clear c4b0
            try clear c4b1
            try clear c12
            try clear c15
            try clear c15b0
            try clear c15b1
            obtain ⟨kq, x28_8, rfl, HA, HJ8, HO_3, HB⟩ := hcut
            cases kq with
            | zero => exact absurd HA.out (by simp [css_Cut.j1])
            | succ kj8 =>
              have H := HA.out
              clear HA
              simp only [css_Cut.j1] at H
              by_cases c16 : x28_8 = true
              · subst c16
                have H1 : (if x3_1.length < 4398046511104 then ((some (x3_1 ++ [(⟨t118, t119⟩ : S29)] : List (S29))).bind fun y120 => (if t113 = (x0_1.size : Int) then (some y120) else (if 0 ≤ (wrap64 (t113 + 1)) then (if (wrap64 (t113 + 1)) ≤ (x0_1.size : Int) then (css_Cut.l0 kj8 (x0_1.extract ((wrap64 (t113 + 1)) : Int).toNat x0_1.size) y120) else (none)) else (none)))) else (none)) = some r := by rw [if_pos rfl] at H; exact H
                clear H
                have H := H1
                clear H1
                by_cases c17 : x3_1.length < 4398046511104
                · rw [if_pos c17] at H
                  have LMc17 := Aside0.mk c17
                  clear c17
                  obtain ⟨y120, hy120⟩ : ∃ y_ : List (S29), y_ = (x3_1 ++ [(⟨t118, t119⟩ : S29)]) := ⟨_, rfl⟩
                  replace H : (if t113 = (x0_1.size : Int) then (some y120) else (if 0 ≤ (wrap64 (t113 + 1)) then (if (wrap64 (t113 + 1)) ≤ (x0_1.size : Int) then (css_Cut.l0 kj8 (x0_1.extract ((wrap64 (t113 + 1)) : Int).toNat x0_1.size) y120) else (none)) else (none))) = some r := by first | (rw [hy120]; with_reducible exact H) | (have H2_ := (Option.bind_some _ _).symm.trans H; rw [hy120]; with_reducible exact H2_) | (have H2_ := (Option.bind_some _ _).symm.trans H; with_reducible exact H2_) | with_reducible exact H | (rw [hy120]; exact H) | exact H
                  have Ny120 := Aside0.mk hy120
                  clear hy120
                  by_cases c18 : t113 = (x0_1.size : Int)
                  · rw [if_pos c18] at H
                    have c18b0 : (t113 == (x0_1.size : Int)) = true := beq_iff_eq.mpr c18
                    have c18b1 : (t113 != (x0_1.size : Int)) = false := bne_eq_false_iff_eq.mpr c18
                    clear c18
                    obtain rfl := Option.some.inj H
                    go_wp2_with (first | ((with_reducible refine gate_builtin (b := .append) (xs := #[.tmp 29, .tmp 33]) rfl ?_); at_builtin; refine Kd.R_append k29 (w0 := w) w.heap.size rfl (.tmp 29) (.tmp 33) 25 29 (.agg #[(.string ⟨#[]⟩), (.string ⟨#[]⟩)]) 32 rfl Tryd.underlying25 info29 rfl (by decide) (by omega) u3 x3_1 (⟨t118, t119⟩ : S29) [.string t118, .string t119] (fun _ => True) (fun _ => False) rfl rfl ?aP (fun _ hk => hk.elim) ?aF ?aO ?aB ?aS ?aL ?_; (case aP => exact k29_mkM _ _ _ (⟨t118, t119⟩ : S29)); (case aB => exact (by repeat (first | (with_reducible first | exact HB.out | apply below_alloc | apply pw_below_drewN | apply below_drew1) | exact HB.out))); (case aF => exact (fun _ _ => trivial)); (case aO => exact (by (with_reducible repeat (first | apply Kd.R_alloc | apply Kd.R_drewN | apply Kd.R_drew)); exact HO_3.out)); (case aS => exact (below_size (by repeat (first | (with_reducible first | exact HB.out | apply below_alloc | apply pw_below_drewN | apply below_drew1) | exact HB.out)))); (case aL => have := LMc17.out; omega); intro v121 w19 ho hb hg hat; rw [← Ny120.out] at ho; have n0_ := Aside0.mk (hb); have n1_ := Aside0.mk (ho); clear HB; clear HO_3; have HB := n0_; have HO122 := n1_; clear n0_ n1_; clear ho hb hg hat))
                    go_ret
                    exact ⟨_, by first | rfl | (simp [errW_none, errW_some] <;> rfl) | (simp [*, errW_none, errW_some] <;> rfl), by (with_reducible repeat (first | apply Kd.R_alloc | apply Kd.R_drewN | apply Kd.R_drew)); exact HO122.out, by repeat (first | (with_reducible first | exact HB.out | apply below_alloc | apply pw_below_drewN | apply below_drew1) | exact HB.out)⟩
                  · rw [if_neg c18] at H
                    have c18b0 : (t113 == (x0_1.size : Int)) = false := beq_eq_false_iff_ne.mpr c18
                    have c18b1 : (t113 != (x0_1.size : Int)) = true := bne_iff_ne.mpr c18
                    obtain ⟨ji20, hji20⟩ : ∃ j_ : Int, (wrap64 (t113 + 1)) = j_ := ⟨_, rfl⟩
                    replace H : (if 0 ≤ (ji20) then (if (ji20) ≤ (x0_1.size : Int) then (css_Cut.l0 kj8 (x0_1.extract ((ji20) : Int).toNat x0_1.size) y120) else (none)) else (none)) = some r := by first | (rw [hji20] at H; exact H) | (simp only [hji20] at H ⊢; exact H)
                    have hji20w : (IntKind.i64.wrap (t113 + 1)) = ji20 := (i64_w _).trans hji20
                    by_cases c21 : 0 ≤ (ji20)
                    · rw [if_pos c21] at H
                      have c21b0 := eq_true c21
                      have c21b1 : decide (0 ≤ (ji20)) = true := decide_eq_true c21
                      clear c21
                      by_cases c22 : (ji20) ≤ (x0_1.size : Int)
                      · rw [if_pos c22] at H
                        have c22b0 := eq_true c22
                        have c22b1 : decide ((ji20) ≤ (x0_1.size : Int)) = true := decide_eq_true c22
                        clear c22
                        have H' := Aside0.mk H
                        clear H
                        go_wp2_with (first | ((with_reducible refine gate_builtin (b := .append) (xs := #[.tmp 29, .tmp 33]) rfl ?_); at_builtin; refine Kd.R_append k29 (w0 := w) w.heap.size rfl (.tmp 29) (.tmp 33) 25 29 (.agg #[(.string ⟨#[]⟩), (.string ⟨#[]⟩)]) 32 rfl Tryd.underlying25 info29 rfl (by decide) (by omega) u3 x3_1 (⟨t118, t119⟩ : S29) [.string t118, .string t119] (fun _ => True) (fun _ => False) rfl rfl ?aP (fun _ hk => hk.elim) ?aF ?aO ?aB ?aS ?aL ?_; (case aP => exact k29_mkM _ _ _ (⟨t118, t119⟩ : S29)); (case aB => exact (by repeat (first | (with_reducible first | exact HB.out | apply below_alloc | apply pw_below_drewN | apply below_drew1) | exact HB.out))); (case aF => exact (fun _ _ => trivial)); (case aO => exact (by (with_reducible repeat (first | apply Kd.R_alloc | apply Kd.R_drewN | apply Kd.R_drew)); exact HO_3.out)); (case aS => exact (below_size (by repeat (first | (with_reducible first | exact HB.out | apply below_alloc | apply pw_below_drewN | apply below_drew1) | exact HB.out)))); (case aL => have := LMc17.out; omega); intro v121 w23 ho hb hg hat; rw [← Ny120.out] at ho; have n0_ := Aside0.mk (hb); have n1_ := Aside0.mk (ho); clear HB; clear HO_3; have HB := n0_; have HO122 := n1_; clear n0_ n1_; clear ho hb hg hat))
                        go_roundg kj8
                        case measure => have := HK1.out; have := HJ8.out; omega
                        case rel => exact ⟨(x0_1.extract ((ji20) : Int).toNat x0_1.size), (y120), (by first | rfl | (simp; done) | (simp only [← hji20] <;> (first | rfl | simp)) | (simp [*]; done)), H', ⟨by have := HK1.out; have := HJ8.out; omega⟩, ⟨by (with_reducible repeat (first | apply Kd.R_alloc | apply Kd.R_drewN | apply Kd.R_drew)); exact HO122.out⟩, ⟨by repeat (first | (with_reducible first | exact HB.out | apply below_alloc | apply pw_below_drewN | apply below_drew1) | exact HB.out)⟩⟩
                      · rw [if_neg c22] at H
                        exact absurd H (by simp)
                    · rw [if_neg c21] at H
                      exact absurd H (by simp)
                · rw [if_neg c17] at H
                  exact absurd H (by simp)
              · replace c16 := Bool.eq_false_iff.mpr c16
                subst c16
                have H1 : (if t113 = (x0_1.size : Int) then (some x3_1) else (if 0 ≤ (wrap64 (t113 + 1)) then (if (wrap64 (t113 + 1)) ≤ (x0_1.size : Int) then (css_Cut.l0 kj8 (x0_1.extract ((wrap64 (t113 + 1)) : Int).toNat x0_1.size) x3_1) else (none)) else (none))) = some r := by rw [if_neg (show ¬ (false = true) by decide)] at H; exact H
                clear H
                have H := H1
                clear H1
                by_cases c24 : t113 = (x0_1.size : Int)
                · rw [if_pos c24] at H
                  have c24b0 : (t113 == (x0_1.size : Int)) = true := beq_iff_eq.mpr c24
                  have c24b1 : (t113 != (x0_1.size : Int)) = false := bne_eq_false_iff_eq.mpr c24
                  clear c24
                  obtain rfl := Option.some.inj H
                  go_wp2
                  go_ret
                  exact ⟨_, by first | rfl | (simp [errW_none, errW_some] <;> rfl) | (simp [*, errW_none, errW_some] <;> rfl), by (with_reducible repeat (first | apply Kd.R_alloc | apply Kd.R_drewN | apply Kd.R_drew)); exact HO_3.out, by repeat (first | (with_reducible first | exact HB.out | apply below_alloc | apply pw_below_drewN | apply below_drew1) | exact HB.out)⟩
                · rw [if_neg c24] at H
                  have c24b0 : (t113 == (x0_1.size : Int)) = false := beq_eq_false_iff_ne.mpr c24
                  have c24b1 : (t113 != (x0_1.size : Int)) = true := bne_iff_ne.mpr c24
                  obtain ⟨ji25, hji25⟩ : ∃ j_ : Int, (wrap64 (t113 + 1)) = j_ := ⟨_, rfl⟩
                  replace H : (if 0 ≤ (ji25) then (if (ji25) ≤ (x0_1.size : Int) then (css_Cut.l0 kj8 (x0_1.extract ((ji25) : Int).toNat x0_1.size) x3_1) else (none)) else (none)) = some r := by first | (rw [hji25] at H; exact H) | (simp only [hji25] at H ⊢; exact H)
                  have hji25w : (IntKind.i64.wrap (t113 + 1)) = ji25 := (i64_w _).trans hji25
                  by_cases c26 : 0 ≤ (ji25)
                  · rw [if_pos c26] at H
                    have c26b0 := eq_true c26
                    have c26b1 : decide (0 ≤ (ji25)) = true := decide_eq_true c26
                    clear c26
                    by_cases c27 : (ji25) ≤ (x0_1.size : Int)
                    · rw [if_pos c27] at H
                      have c27b0 := eq_true c27
                      have c27b1 : decide ((ji25) ≤ (x0_1.size : Int)) = true := decide_eq_true c27
                      clear c27
                      have H' := Aside0.mk H
                      clear H
                      go_wp2
                      go_roundg kj8
                      case measure => have := HK1.out; have := HJ8.out; omega
                      case rel => exact ⟨(x0_1.extract ((ji25) : Int).toNat x0_1.size), (x3_1), (by first | rfl | (simp; done) | (simp only [← hji25] <;> (first | rfl | simp)) | (simp [*]; done)), H', ⟨by have := HK1.out; have := HJ8.out; omega⟩, ⟨by (with_reducible repeat (first | apply Kd.R_alloc | apply Kd.R_drewN | apply Kd.R_drew)); exact HO_3.out⟩, ⟨by repeat (first | (with_reducible first | exact HB.out | apply below_alloc | apply pw_below_drewN | apply below_drew1) | exact HB.out)⟩⟩
                    · rw [if_neg c27] at H
                      exact absurd H (by simp)
                  · rw [if_neg c26] at H
                    exact absurd H (by simp)
        · rw [if_neg c4] at H
          exact absurd H (by simp)
      · rw [if_neg c3] at H
        exact absurd H (by simp)

-- GIVEN: function 14 (css_Clean): Derived.Test.YtollfaphadcnnaaDoorGiven

-- GIVEN: function 16 (css_Safe): Derived.Test.YtollfaphadcnnaaDoorGiven

end Go.Proofs.YtollfaphadcnnaaDoor.Pr
