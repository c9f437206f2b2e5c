/- Written by a program of this session (printa.py), with functions proved by hand counted as printed; Lean checks it. -/
import Derived.Test.YtollfaphadcnnaaDoorPrx0
import Derived.Test.YtollfaphadcnnaaDoorPrx2
import Derived.Test.YtollfaphadcnnaaDoorPrx4
import Derived.Test.YtollfaphadcnnaaDoorPrx5
import Derived.Test.YtollfaphadcnnaaDoorPrx6
import Derived.Test.YtollfaphadcnnaaDoorGiven
namespace Go.Proofs.YtollfaphadcnnaaDoor.Pr
open Go.RowKit Go.Proofs.YtollfaphadcnnaaDoorW.PrintWords Go.Proofs.YtollfaphadcnnaaDoorW.PrintLast Go.Proofs.YtollfaphadcnnaaDoorW.PrintMore
attribute [local go_sem] max2_int min2_int max_two min_two max_three min_three max_four min_four   -- for this text's walks alone
set_option linter.unusedVariables false
set_option linter.unusedSimpArgs false

private theorem sz_2 (a0 a1 : UInt8) : (⟨#[a0, a1]⟩ : ByteArray).size = 2 := rfl

/-! ### muslinref17_Clean: function 15 -/
mutual
def muslinref17_Clean.l0 : Nat → List (S29) → ByteArray → Int → Option (ByteArray)
  | 0, _, _, _ => none
  | k + 1, x3, x4, x5 => if x5 < (x3.length : Int) then (if 0 ≤ x5 then ((muslinref17_Safe.f k ((rd_T29 x3 x5).f0) ((rd_T29 x3 x5).f1)).bind fun t162 => (muslinref17_Clean.l1 k x3 x4 x5 t162 (wrap64 (x5 + 1)))) else (none)) else (some x4)
def muslinref17_Clean.l1 : Nat → List (S29) → ByteArray → Int → Bool → Int → Option (ByteArray)
  | 0, _, _, _, _, _ => none
  | k + 1, x3, x4, x5, x6, x7 => if x7 < (x3.length : Int) then (if 0 ≤ x7 then (if 0 ≤ x5 then (if x5 < (x3.length : Int) then (if ((rd_T29 x3 x7).f0).toList = ((rd_T29 x3 x5).f0).toList then ((muslinref17_Safe.f k ((rd_T29 x3 x7).f0) ((rd_T29 x3 x7).f1)).bind fun t167 => (if t167 = true then (muslinref17_Clean.l1 k x3 x4 x5 false (wrap64 (x7 + 1))) else (muslinref17_Clean.l1 k x3 x4 x5 x6 (wrap64 (x7 + 1))))) else (muslinref17_Clean.l1 k x3 x4 x5 x6 (wrap64 (x7 + 1)))) else (none)) else (none)) else (none)) else (if x6 = true then (if x4.toList = ([] : List UInt8) then (if 0 ≤ x5 then (if x5 < (x3.length : Int) then (if x4.size + ((rd_T29 x3 x5).f0).size ≤ 9223372036854775807 then (if (x4 ++ ((rd_T29 x3 x5).f0)).size + 2 ≤ 9223372036854775807 then (if ((x4 ++ ((rd_T29 x3 x5).f0)) ++ (⟨#[58, 32]⟩ : ByteArray)).size + ((rd_T29 x3 x5).f1).size ≤ 9223372036854775807 then (muslinref17_Clean.l0 k x3 (((x4 ++ ((rd_T29 x3 x5).f0)) ++ (⟨#[58, 32]⟩ : ByteArray)) ++ ((rd_T29 x3 x5).f1)) (wrap64 (x5 + 1))) else (none)) else (none)) else (none)) else (none)) else (none)) else (if x4.size + 2 ≤ 9223372036854775807 then (if 0 ≤ x5 then (if x5 < (x3.length : Int) then (if (x4 ++ (⟨#[59, 32]⟩ : ByteArray)).size + ((rd_T29 x3 x5).f0).size ≤ 9223372036854775807 then (if ((x4 ++ (⟨#[59, 32]⟩ : ByteArray)) ++ ((rd_T29 x3 x5).f0)).size + 2 ≤ 9223372036854775807 then (if (((x4 ++ (⟨#[59, 32]⟩ : ByteArray)) ++ ((rd_T29 x3 x5).f0)) ++ (⟨#[58, 32]⟩ : ByteArray)).size + ((rd_T29 x3 x5).f1).size ≤ 9223372036854775807 then (muslinref17_Clean.l0 k x3 ((((x4 ++ (⟨#[59, 32]⟩ : ByteArray)) ++ ((rd_T29 x3 x5).f0)) ++ (⟨#[58, 32]⟩ : ByteArray)) ++ ((rd_T29 x3 x5).f1)) (wrap64 (x5 + 1))) else (none)) else (none)) else (none)) else (none)) else (none)) else (none))) else (muslinref17_Clean.l0 k x3 x4 (wrap64 (x5 + 1))))
end
def muslinref17_Clean.f (k : Nat) (a0 : ByteArray) : Option (ByteArray) := (muslinref17_Cut.f k a0).bind fun t157 => (muslinref17_Clean.l0 k t157 (⟨#[]⟩ : ByteArray) 0)
theorem muslinref17_Clean.mono_l : ∀ k, (∀ y0 y1 y2, LeO (muslinref17_Clean.l0 k y0 y1 y2) (muslinref17_Clean.l0 (k + 1) y0 y1 y2)) ∧ (∀ y0 y1 y2 y3 y4, LeO (muslinref17_Clean.l1 k y0 y1 y2 y3 y4) (muslinref17_Clean.l1 (k + 1) y0 y1 y2 y3 y4))
  | 0 => ⟨fun _ _ _ r h => by simp [muslinref17_Clean.l0] at h, fun _ _ _ _ _ r h => by simp [muslinref17_Clean.l1] at h⟩
  | k + 1 => by
    obtain ⟨ih0, ih1⟩ := muslinref17_Clean.mono_l k
    refine ⟨?_, ?_⟩
    · intro y0 y1 y2
      unfold muslinref17_Clean.l0
      repeat' first
      | (with_reducible exact ih0 _ _ _)
      | (with_reducible exact ih1 _ _ _ _ _)
      | (with_reducible exact muslinref17_Cut.mono _ _)
      | (with_reducible exact muslinref17_Safe.mono _ _ _)
      | (with_reducible exact LeO.refl _)
      | (with_reducible exact LeO.none _)
      | (with_reducible refine LeO.ite ?_ ?_)
      | (with_reducible refine LeO.bind ?_ (fun _ => ?_))
      | exact ih0 _ _ _
      | exact ih1 _ _ _ _ _
      | exact muslinref17_Cut.mono _ _
      | exact muslinref17_Safe.mono _ _ _
      | exact LeO.none _
      | refine LeO.ite ?_ ?_
      | refine LeO.bind ?_ (fun _ => ?_)
    · intro y0 y1 y2 y3 y4
      unfold muslinref17_Clean.l1
      repeat' first
      | (with_reducible exact ih0 _ _ _)
      | (with_reducible exact ih1 _ _ _ _ _)
      | (with_reducible exact muslinref17_Cut.mono _ _)
      | (with_reducible exact muslinref17_Safe.mono _ _ _)
      | (with_reducible exact LeO.refl _)
      | (with_reducible exact LeO.none _)
      | (with_reducible refine LeO.ite ?_ ?_)
      | (with_reducible refine LeO.bind ?_ (fun _ => ?_))
      | exact ih0 _ _ _
      | exact ih1 _ _ _ _ _
      | exact muslinref17_Cut.mono _ _
      | exact muslinref17_Safe.mono _ _ _
      | exact LeO.none _
      | refine LeO.ite ?_ ?_
      | refine LeO.bind ?_ (fun _ => ?_)
theorem muslinref17_Clean.mono : ∀ a0 k, LeO (muslinref17_Clean.f k a0) (muslinref17_Clean.f (k + 1) a0) := by
  intro a0 k
  obtain ⟨ih0, ih1⟩ := muslinref17_Clean.mono_l k
  unfold muslinref17_Clean.f
  repeat' first
      | (with_reducible exact ih0 _ _ _)
      | (with_reducible exact ih1 _ _ _ _ _)
      | (with_reducible exact muslinref17_Cut.mono _ _)
      | (with_reducible exact muslinref17_Safe.mono _ _ _)
      | (with_reducible exact LeO.refl _)
      | (with_reducible exact LeO.none _)
      | (with_reducible refine LeO.ite ?_ ?_)
      | (with_reducible refine LeO.bind ?_ (fun _ => ?_))
      | exact ih0 _ _ _
      | exact ih1 _ _ _ _ _
      | exact muslinref17_Cut.mono _ _
      | exact muslinref17_Safe.mono _ _ _
      | exact LeO.none _
      | refine LeO.ite ?_ ?_
      | refine LeO.bind ?_ (fun _ => ?_)
set_option maxHeartbeats 8000000 in
set_option maxRecDepth 100000 in
theorem muslinref17_Clean.calls (k : Nat) (a0 : ByteArray) (r : ByteArray) (w : World) (h : muslinref17_Clean.f k a0 = some r) :
    Calls Tryd.prog 15 #[.string a0] w fun e w' => e = .returned (.string r) ∧ Below w.heap.size w w' := by
  have HB := Aside0.mk (Below.refl w.heap.size w)
  have H : ((muslinref17_Cut.f k a0).bind fun t157 => (muslinref17_Clean.l0 k t157 (⟨#[]⟩ : ByteArray) 0)) = some r := h
  clear h
  replace H := Option.bind_eq_some_iff.mp H
  obtain ⟨t157, A20, H⟩ := H
  replace H : (muslinref17_Clean.l0 k t157 (⟨#[]⟩ : ByteArray) 0) = some r := H
  have A2 := Aside0.mk A20
  clear A20
  have H' := Aside0.mk H
  clear H
  go_enter Tryd.func15, Tryd.ntmps15
  go_wp2_with (first | (go_at_call 13; (with_reducible refine (muslinref17_Cut.calls k a0 t157 _ A2.out).mono ?_); rintro e w3 ⟨v158, rfl, ho0, hb⟩; have n0_ := Aside0.mk (Kd.R_lower ho0 (below_size (by repeat (first | (with_reducible first | exact HB.out | apply below_alloc | apply pw_below_drewN | apply below_drew1) | exact HB.out)))); have n1_ := Aside0.mk (below_step (by repeat (first | (with_reducible first | exact HB.out | apply below_alloc | apply pw_below_drewN | apply below_drew1) | exact HB.out)) hb); clear HB; have HO159 := n0_; have HB := n1_; clear n0_ n1_; (try clear hb); (try clear hb2); (try clear hk); (try clear hi); (try clear ho0)))
  repeat (go_quiet (first | (go_at_call 13; (with_reducible refine (muslinref17_Cut.calls k a0 t157 _ A2.out).mono ?_); rintro e w3 ⟨v158, rfl, ho0, hb⟩; have n0_ := Aside0.mk (Kd.R_lower ho0 (below_size (by repeat (first | (with_reducible first | exact HB.out | apply below_alloc | apply pw_below_drewN | apply below_drew1) | exact HB.out)))); have n1_ := Aside0.mk (below_step (by repeat (first | (with_reducible first | exact HB.out | apply below_alloc | apply pw_below_drewN | apply below_drew1) | exact HB.out)) hb); clear HB; have HO159 := n0_; have HB := n1_; clear n0_ n1_; (try clear hb); (try clear hb2); (try clear hk); (try clear hi); (try clear ho0))); try go_wp2_with (first | (go_at_call 13; (with_reducible refine (muslinref17_Cut.calls k a0 t157 _ A2.out).mono ?_); rintro e w3 ⟨v158, rfl, ho0, hb⟩; have n0_ := Aside0.mk (Kd.R_lower ho0 (below_size (by repeat (first | (with_reducible first | exact HB.out | apply below_alloc | apply pw_below_drewN | apply below_drew1) | exact HB.out)))); have n1_ := Aside0.mk (below_step (by repeat (first | (with_reducible first | exact HB.out | apply below_alloc | apply pw_below_drewN | apply below_drew1) | exact HB.out)) hb); clear HB; have HO159 := n0_; have HB := n1_; clear n0_ n1_; (try clear hb); (try clear hb2); (try clear hk); (try clear hi); (try clear ho0))))
  go_loopg [4, 5] k (fun kq v4 v5 w' => ∃ (x4_1 : ByteArray) (x5_1 : Int), v4 = .string x4_1 ∧ v5 = .int .i64 x5_1 ∧ Aside0 (muslinref17_Clean.l0 kq t157 x4_1 x5_1 = some r) ∧ Aside0 (kq ≤ k) ∧ Aside0 (Kd.R k29 29 w' w.heap.size (fun _ => True) v158 t157) ∧ Aside0 (Below w.heap.size w w'))
  case atStart => exact ⟨((⟨#[]⟩ : ByteArray)), (0), (by first | rfl | (simp; done) | (simp [*]; done)), (by first | rfl | (simp; done) | (simp [*]; done)), H', ⟨Nat.le_refl _⟩, ⟨by (with_reducible repeat (first | apply Kd.R_alloc | apply Kd.R_drewN | apply Kd.R_drew)); exact HO159.out⟩, ⟨by repeat (first | (with_reducible first | exact HB.out | apply below_alloc | apply pw_below_drewN | apply below_drew1) | exact HB.out)⟩⟩
  case round =>
    clear H'
    try clear c1
    try clear p2
    obtain ⟨x4_1, x5_1, rfl, rfl, HA, HK1, HO_3, HB⟩ := hrel
    cases gk with
    | zero => exact absurd HA.out (by simp [muslinref17_Clean.l0])
    | succ k1 =>
      have H := HA.out
      clear HA
      simp only [muslinref17_Clean.l0] at H
      by_cases c4 : x5_1 < (t157.length : Int)
      · rw [if_pos c4] at H
        have c4b0 : decide (x5_1 < (t157.length : Int)) = true := decide_eq_true c4
        clear c4
        by_cases c5 : 0 ≤ x5_1
        · rw [if_pos c5] at H
          have c5b0 : decide (0 ≤ x5_1) = true := decide_eq_true c5
          clear c5
          replace H := Option.bind_eq_some_iff.mp H
          obtain ⟨t162, A60, H⟩ := H
          replace H : (muslinref17_Clean.l1 k1 t157 x4_1 x5_1 t162 (wrap64 (x5_1 + 1))) = some r := H
          have A6 := Aside0.mk A60
          clear A60
          have H' := Aside0.mk H
          clear H
          obtain ⟨Ao7, co7, eo7⟩ := Kd.R_slice HO_3.out
          subst eo7
          have p160 : 0 ≤ (x5_1 : Int) := of_decide_eq_true (by first | (with_reducible assumption) | assumption)
          have q160 : x5_1 < (t157.length : Int) := of_decide_eq_true (by first | (with_reducible assumption) | assumption)
          obtain ⟨ad160, e160, hx160_0, hx160_1⟩ := at_T29 (Kd.R_reads' HO_3.out).2.2 x5_1 p160 q160
          cases e160
          replace p160 := eq_true p160
          replace q160 := eq_true q160
          have p161 : 0 ≤ (x5_1 : Int) := of_decide_eq_true (by first | (with_reducible assumption) | assumption)
          have q161 : x5_1 < (t157.length : Int) := of_decide_eq_true (by first | (with_reducible assumption) | assumption)
          obtain ⟨ad161, e161, hx161_0, hx161_1⟩ := at_T29 (Kd.R_reads' HO_3.out).2.2 x5_1 p161 q161
          obtain rfl : ad160 = ad161 := (by injection e161)
          replace p161 := eq_true p161
          replace q161 := eq_true q161
          go_wp2_with (first | (go_at_call 17; (with_reducible refine (muslinref17_Safe.calls k1 ((rd_T29 t157 x5_1).f0) ((rd_T29 t157 x5_1).f1) t162 _ A6.out).mono ?_); rintro e w' ⟨rfl, ⟨nd, rfl⟩⟩; (try first | exact ⟨rfl, _, World.drewN_drewN _ _ _⟩ | exact ⟨rfl, _, Eq.trans (World.drewN_drewN _ _ _) (congrArg (World.drewN _) (Nat.add_assoc _ _ _))⟩)))
          repeat (go_quiet (first | (go_at_call 17; (with_reducible refine (muslinref17_Safe.calls k1 ((rd_T29 t157 x5_1).f0) ((rd_T29 t157 x5_1).f1) t162 _ A6.out).mono ?_); rintro e w' ⟨rfl, ⟨nd, rfl⟩⟩; (try first | exact ⟨rfl, _, World.drewN_drewN _ _ _⟩ | exact ⟨rfl, _, Eq.trans (World.drewN_drewN _ _ _) (congrArg (World.drewN _) (Nat.add_assoc _ _ _))⟩))); try go_wp2_with (first | (go_at_call 17; (with_reducible refine (muslinref17_Safe.calls k1 ((rd_T29 t157 x5_1).f0) ((rd_T29 t157 x5_1).f1) t162 _ A6.out).mono ?_); rintro e w' ⟨rfl, ⟨nd, rfl⟩⟩; (try first | exact ⟨rfl, _, World.drewN_drewN _ _ _⟩ | exact ⟨rfl, _, Eq.trans (World.drewN_drewN _ _ _) (congrArg (World.drewN _) (Nat.add_assoc _ _ _))⟩))))
          go_loopg [6, 7] k1 (fun kq v6 v7 w' => ∃ (x6_2 : Bool) (x7_2 : Int), v6 = .bool x6_2 ∧ v7 = .int .i64 x7_2 ∧ Aside0 (muslinref17_Clean.l1 kq t157 x4_1 x5_1 x6_2 x7_2 = some r) ∧ Aside0 (kq ≤ k1) ∧ Aside0 (Kd.R k29 29 w' w.heap.size (fun _ => True) (.slice (some ad160) t157.length co7) t157) ∧ Aside0 (Below w.heap.size w w'))
          case atStart => exact ⟨(t162), (wrap64 (x5_1 + 1)), (by first | rfl | (simp; done) | (simp [*]; done)), (by first | rfl | (simp; done) | (simp [*]; done)), H', ⟨Nat.le_refl _⟩, ⟨by (with_reducible repeat (first | apply Kd.R_alloc | apply Kd.R_drewN | apply Kd.R_drew)); exact HO_3.out⟩, ⟨by repeat (first | (with_reducible first | exact HB.out | apply below_alloc | apply pw_below_drewN | apply below_drew1) | exact HB.out)⟩⟩
          case round =>
            clear H'
            try clear c1
            try clear p1
            try clear q1
            try clear hx1
            try clear p2
            try clear c4
            try clear c4b0
            try clear c5
            try clear c5b0
            try clear p6
            try clear hx160_0
            try clear hx160_1
            try clear hx161_0
            try clear hx161_1
            try clear p160
            try clear p161
            try clear p2
            try clear q160
            try clear q161
            obtain ⟨x6_2, x7_2, rfl, rfl, HA, HK2, HO_3, HB⟩ := hrel
            cases gk with
            | zero => exact absurd HA.out (by simp [muslinref17_Clean.l1])
            | succ k2 =>
              have H := HA.out
              clear HA
              simp only [muslinref17_Clean.l1] at H
              by_cases c8 : x7_2 < (t157.length : Int)
              · rw [if_pos c8] at H
                have c8b0 : decide (x7_2 < (t157.length : Int)) = true := decide_eq_true c8
                clear c8
                by_cases c9 : 0 ≤ x7_2
                · rw [if_pos c9] at H
                  have c9b0 : decide (0 ≤ x7_2) = true := decide_eq_true c9
                  clear c9
                  by_cases c10 : 0 ≤ x5_1
                  · rw [if_pos c10] at H
                    have c10b0 : decide (0 ≤ x5_1) = true := decide_eq_true c10
                    clear c10
                    by_cases c11 : x5_1 < (t157.length : Int)
                    · rw [if_pos c11] at H
                      have c11b0 : decide (x5_1 < (t157.length : Int)) = true := decide_eq_true c11
                      clear c11
                      by_cases c12 : ((rd_T29 t157 x7_2).f0).toList = ((rd_T29 t157 x5_1).f0).toList
                      · rw [if_pos c12] at H
                        have c12b0 : (((rd_T29 t157 x7_2).f0).toList == ((rd_T29 t157 x5_1).f0).toList) = true := beq_iff_eq.mpr c12
                        have c12b1 : (((rd_T29 t157 x7_2).f0).toList != ((rd_T29 t157 x5_1).f0).toList) = false := bne_eq_false_iff_eq.mpr c12
                        clear c12
                        replace H := Option.bind_eq_some_iff.mp H
                        obtain ⟨t167, A130, H⟩ := H
                        replace H : (if t167 = true then (muslinref17_Clean.l1 k2 t157 x4_1 x5_1 false (wrap64 (x7_2 + 1))) else (muslinref17_Clean.l1 k2 t157 x4_1 x5_1 x6_2 (wrap64 (x7_2 + 1)))) = some r := H
                        have A13 := Aside0.mk A130
                        clear A130
                        by_cases c14 : t167 = true
                        · subst c14
                          have H1 : (muslinref17_Clean.l1 k2 t157 x4_1 x5_1 false (wrap64 (x7_2 + 1))) = some r := by rw [if_pos rfl] at H; exact H
                          clear H
                          have H := H1
                          clear H1
                          have H' := Aside0.mk H
                          clear H
                          have p163 : 0 ≤ (x7_2 : Int) := of_decide_eq_true (by first | (with_reducible assumption) | assumption)
                          have q163 : x7_2 < (t157.length : Int) := of_decide_eq_true (by first | (with_reducible assumption) | assumption)
                          obtain ⟨ad163, e163, hx163_0, hx163_1⟩ := at_T29 (Kd.R_reads' HO_3.out).2.2 x7_2 p163 q163
                          obtain rfl : ad160 = ad163 := (by injection e163)
                          replace p163 := eq_true p163
                          replace q163 := eq_true q163
                          have p164 : 0 ≤ (x5_1 : Int) := of_decide_eq_true (by first | (with_reducible assumption) | assumption)
                          have q164 : x5_1 < (t157.length : Int) := of_decide_eq_true (by first | (with_reducible assumption) | assumption)
                          obtain ⟨ad164, e164, hx164_0, hx164_1⟩ := at_T29 (Kd.R_reads' HO_3.out).2.2 x5_1 p164 q164
                          obtain rfl : ad160 = ad164 := (by injection e164)
                          replace p164 := eq_true p164
                          replace q164 := eq_true q164
                          have p165 : 0 ≤ (x7_2 : Int) := of_decide_eq_true (by first | (with_reducible assumption) | assumption)
                          have q165 : x7_2 < (t157.length : Int) := of_decide_eq_true (by first | (with_reducible assumption) | assumption)
                          obtain ⟨ad165, e165, hx165_0, hx165_1⟩ := at_T29 (Kd.R_reads' HO_3.out).2.2 x7_2 p165 q165
                          obtain rfl : ad160 = ad165 := (by injection e165)
                          replace p165 := eq_true p165
                          replace q165 := eq_true q165
                          have p166 : 0 ≤ (x7_2 : Int) := of_decide_eq_true (by first | (with_reducible assumption) | assumption)
                          have q166 : x7_2 < (t157.length : Int) := of_decide_eq_true (by first | (with_reducible assumption) | assumption)
                          obtain ⟨ad166, e166, hx166_0, hx166_1⟩ := at_T29 (Kd.R_reads' HO_3.out).2.2 x7_2 p166 q166
                          obtain rfl : ad160 = ad166 := (by injection e166)
                          replace p166 := eq_true p166
                          replace q166 := eq_true q166
                          go_wp2_with (first | (go_at_call 17; (with_reducible refine (muslinref17_Safe.calls k2 ((rd_T29 t157 x7_2).f0) ((rd_T29 t157 x7_2).f1) true _ A13.out).mono ?_); rintro e w' ⟨rfl, ⟨nd, rfl⟩⟩; (try first | exact ⟨rfl, _, World.drewN_drewN _ _ _⟩ | exact ⟨rfl, _, Eq.trans (World.drewN_drewN _ _ _) (congrArg (World.drewN _) (Nat.add_assoc _ _ _))⟩)))
                          repeat (go_quiet (first | (go_at_call 17; (with_reducible refine (muslinref17_Safe.calls k2 ((rd_T29 t157 x7_2).f0) ((rd_T29 t157 x7_2).f1) true _ A13.out).mono ?_); rintro e w' ⟨rfl, ⟨nd, rfl⟩⟩; (try first | exact ⟨rfl, _, World.drewN_drewN _ _ _⟩ | exact ⟨rfl, _, Eq.trans (World.drewN_drewN _ _ _) (congrArg (World.drewN _) (Nat.add_assoc _ _ _))⟩))); try go_wp2_with (first | (go_at_call 17; (with_reducible refine (muslinref17_Safe.calls k2 ((rd_T29 t157 x7_2).f0) ((rd_T29 t157 x7_2).f1) true _ A13.out).mono ?_); rintro e w' ⟨rfl, ⟨nd, rfl⟩⟩; (try first | exact ⟨rfl, _, World.drewN_drewN _ _ _⟩ | exact ⟨rfl, _, Eq.trans (World.drewN_drewN _ _ _) (congrArg (World.drewN _) (Nat.add_assoc _ _ _))⟩))))
                          go_roundg k2
                          case measure => have := HK1.out; have := HK2.out; omega
                          case rel => exact ⟨(false), (wrap64 (x7_2 + 1)), (by first | rfl | (simp; done) | (simp [*]; done)), (by first | rfl | (simp; done) | (simp [*]; done)), H', ⟨by have := HK1.out; have := HK2.out; omega⟩, ⟨by (with_reducible repeat (first | apply Kd.R_alloc | apply Kd.R_drewN | apply Kd.R_drew)); exact HO_3.out⟩, ⟨by repeat (first | (with_reducible first | exact HB.out | apply below_alloc | apply pw_below_drewN | apply below_drew1) | exact HB.out)⟩⟩
                        · replace c14 := Bool.eq_false_iff.mpr c14
                          subst c14
                          have H1 : (muslinref17_Clean.l1 k2 t157 x4_1 x5_1 x6_2 (wrap64 (x7_2 + 1))) = some r := by rw [if_neg (show ¬ (false = true) by decide)] at H; exact H
                          clear H
                          have H := H1
                          clear H1
                          have H' := Aside0.mk H
                          clear H
                          have p163 : 0 ≤ (x7_2 : Int) := of_decide_eq_true (by first | (with_reducible assumption) | assumption)
                          have q163 : x7_2 < (t157.length : Int) := of_decide_eq_true (by first | (with_reducible assumption) | assumption)
                          obtain ⟨ad163, e163, hx163_0, hx163_1⟩ := at_T29 (Kd.R_reads' HO_3.out).2.2 x7_2 p163 q163
                          obtain rfl : ad160 = ad163 := (by injection e163)
                          replace p163 := eq_true p163
                          replace q163 := eq_true q163
                          have p164 : 0 ≤ (x5_1 : Int) := of_decide_eq_true (by first | (with_reducible assumption) | assumption)
                          have q164 : x5_1 < (t157.length : Int) := of_decide_eq_true (by first | (with_reducible assumption) | assumption)
                          obtain ⟨ad164, e164, hx164_0, hx164_1⟩ := at_T29 (Kd.R_reads' HO_3.out).2.2 x5_1 p164 q164
                          obtain rfl : ad160 = ad164 := (by injection e164)
                          replace p164 := eq_true p164
                          replace q164 := eq_true q164
                          have p165 : 0 ≤ (x7_2 : Int) := of_decide_eq_true (by first | (with_reducible assumption) | assumption)
                          have q165 : x7_2 < (t157.length : Int) := of_decide_eq_true (by first | (with_reducible assumption) | assumption)
                          obtain ⟨ad165, e165, hx165_0, hx165_1⟩ := at_T29 (Kd.R_reads' HO_3.out).2.2 x7_2 p165 q165
                          obtain rfl : ad160 = ad165 := (by injection e165)
                          replace p165 := eq_true p165
                          replace q165 := eq_true q165
                          have p166 : 0 ≤ (x7_2 : Int) := of_decide_eq_true (by first | (with_reducible assumption) | assumption)
                          have q166 : x7_2 < (t157.length : Int) := of_decide_eq_true (by first | (with_reducible assumption) | assumption)
                          obtain ⟨ad166, e166, hx166_0, hx166_1⟩ := at_T29 (Kd.R_reads' HO_3.out).2.2 x7_2 p166 q166
                          obtain rfl : ad160 = ad166 := (by injection e166)
                          replace p166 := eq_true p166
                          replace q166 := eq_true q166
                          go_wp2_with (first | (go_at_call 17; (with_reducible refine (muslinref17_Safe.calls k2 ((rd_T29 t157 x7_2).f0) ((rd_T29 t157 x7_2).f1) false _ A13.out).mono ?_); rintro e w' ⟨rfl, ⟨nd, rfl⟩⟩; (try first | exact ⟨rfl, _, World.drewN_drewN _ _ _⟩ | exact ⟨rfl, _, Eq.trans (World.drewN_drewN _ _ _) (congrArg (World.drewN _) (Nat.add_assoc _ _ _))⟩)))
                          repeat (go_quiet (first | (go_at_call 17; (with_reducible refine (muslinref17_Safe.calls k2 ((rd_T29 t157 x7_2).f0) ((rd_T29 t157 x7_2).f1) false _ A13.out).mono ?_); rintro e w' ⟨rfl, ⟨nd, rfl⟩⟩; (try first | exact ⟨rfl, _, World.drewN_drewN _ _ _⟩ | exact ⟨rfl, _, Eq.trans (World.drewN_drewN _ _ _) (congrArg (World.drewN _) (Nat.add_assoc _ _ _))⟩))); try go_wp2_with (first | (go_at_call 17; (with_reducible refine (muslinref17_Safe.calls k2 ((rd_T29 t157 x7_2).f0) ((rd_T29 t157 x7_2).f1) false _ A13.out).mono ?_); rintro e w' ⟨rfl, ⟨nd, rfl⟩⟩; (try first | exact ⟨rfl, _, World.drewN_drewN _ _ _⟩ | exact ⟨rfl, _, Eq.trans (World.drewN_drewN _ _ _) (congrArg (World.drewN _) (Nat.add_assoc _ _ _))⟩))))
                          go_roundg k2
                          case measure => have := HK1.out; have := HK2.out; omega
                          case rel => exact ⟨(x6_2), (wrap64 (x7_2 + 1)), (by first | rfl | (simp; done) | (simp [*]; done)), (by first | rfl | (simp; done) | (simp [*]; done)), H', ⟨by have := HK1.out; have := HK2.out; omega⟩, ⟨by (with_reducible repeat (first | apply Kd.R_alloc | apply Kd.R_drewN | apply Kd.R_drew)); exact HO_3.out⟩, ⟨by repeat (first | (with_reducible first | exact HB.out | apply below_alloc | apply pw_below_drewN | apply below_drew1) | exact HB.out)⟩⟩
                      · rw [if_neg c12] at H
                        have c12b0 : (((rd_T29 t157 x7_2).f0).toList == ((rd_T29 t157 x5_1).f0).toList) = false := beq_eq_false_iff_ne.mpr c12
                        have c12b1 : (((rd_T29 t157 x7_2).f0).toList != ((rd_T29 t157 x5_1).f0).toList) = true := bne_iff_ne.mpr c12
                        have H' := Aside0.mk H
                        clear H
                        have p163 : 0 ≤ (x7_2 : Int) := of_decide_eq_true (by first | (with_reducible assumption) | assumption)
                        have q163 : x7_2 < (t157.length : Int) := of_decide_eq_true (by first | (with_reducible assumption) | assumption)
                        obtain ⟨ad163, e163, hx163_0, hx163_1⟩ := at_T29 (Kd.R_reads' HO_3.out).2.2 x7_2 p163 q163
                        obtain rfl : ad160 = ad163 := (by injection e163)
                        replace p163 := eq_true p163
                        replace q163 := eq_true q163
                        have p164 : 0 ≤ (x5_1 : Int) := of_decide_eq_true (by first | (with_reducible assumption) | assumption)
                        have q164 : x5_1 < (t157.length : Int) := of_decide_eq_true (by first | (with_reducible assumption) | assumption)
                        obtain ⟨ad164, e164, hx164_0, hx164_1⟩ := at_T29 (Kd.R_reads' HO_3.out).2.2 x5_1 p164 q164
                        obtain rfl : ad160 = ad164 := (by injection e164)
                        replace p164 := eq_true p164
                        replace q164 := eq_true q164
                        go_wp2
                        repeat (go_quiet (fail); try go_wp2)
                        go_roundg k2
                        case measure => have := HK1.out; have := HK2.out; omega
                        case rel => exact ⟨(x6_2), (wrap64 (x7_2 + 1)), (by first | rfl | (simp; done) | (simp [*]; done)), (by first | rfl | (simp; done) | (simp [*]; done)), H', ⟨by have := HK1.out; have := HK2.out; omega⟩, ⟨by (with_reducible repeat (first | apply Kd.R_alloc | apply Kd.R_drewN | apply Kd.R_drew)); exact HO_3.out⟩, ⟨by repeat (first | (with_reducible first | exact HB.out | apply below_alloc | apply pw_below_drewN | apply below_drew1) | exact HB.out)⟩⟩
                    · rw [if_neg c11] at H
                      exact absurd H (by simp)
                  · rw [if_neg c10] at H
                    exact absurd H (by simp)
                · rw [if_neg c9] at H
                  exact absurd H (by simp)
              · rw [if_neg c8] at H
                have c8b0 : decide (x7_2 < (t157.length : Int)) = false := decide_eq_false c8
                clear c8
                by_cases c15 : x6_2 = true
                · subst c15
                  have H1 : (if x4_1.toList = ([] : List UInt8) then (if 0 ≤ x5_1 then (if x5_1 < (t157.length : Int) then (if x4_1.size + ((rd_T29 t157 x5_1).f0).size ≤ 9223372036854775807 then (if (x4_1 ++ ((rd_T29 t157 x5_1).f0)).size + 2 ≤ 9223372036854775807 then (if ((x4_1 ++ ((rd_T29 t157 x5_1).f0)) ++ (⟨#[58, 32]⟩ : ByteArray)).size + ((rd_T29 t157 x5_1).f1).size ≤ 9223372036854775807 then (muslinref17_Clean.l0 k2 t157 (((x4_1 ++ ((rd_T29 t157 x5_1).f0)) ++ (⟨#[58, 32]⟩ : ByteArray)) ++ ((rd_T29 t157 x5_1).f1)) (wrap64 (x5_1 + 1))) else (none)) else (none)) else (none)) else (none)) else (none)) else (if x4_1.size + 2 ≤ 9223372036854775807 then (if 0 ≤ x5_1 then (if x5_1 < (t157.length : Int) then (if (x4_1 ++ (⟨#[59, 32]⟩ : ByteArray)).size + ((rd_T29 t157 x5_1).f0).size ≤ 9223372036854775807 then (if ((x4_1 ++ (⟨#[59, 32]⟩ : ByteArray)) ++ ((rd_T29 t157 x5_1).f0)).size + 2 ≤ 9223372036854775807 then (if (((x4_1 ++ (⟨#[59, 32]⟩ : ByteArray)) ++ ((rd_T29 t157 x5_1).f0)) ++ (⟨#[58, 32]⟩ : ByteArray)).size + ((rd_T29 t157 x5_1).f1).size ≤ 9223372036854775807 then (muslinref17_Clean.l0 k2 t157 ((((x4_1 ++ (⟨#[59, 32]⟩ : ByteArray)) ++ ((rd_T29 t157 x5_1).f0)) ++ (⟨#[58, 32]⟩ : ByteArray)) ++ ((rd_T29 t157 x5_1).f1)) (wrap64 (x5_1 + 1))) else (none)) else (none)) else (none)) else (none)) else (none)) else (none))) = some r := by rw [if_pos rfl] at H; exact H
                  clear H
                  have H := H1
                  clear H1
                  by_cases c16 : x4_1.toList = ([] : List UInt8)
                  · rw [if_pos c16] at H
                    have c16b0 : (x4_1.toList == ([] : List UInt8)) = true := beq_iff_eq.mpr c16
                    have c16b1 : (x4_1.toList != ([] : List UInt8)) = false := bne_eq_false_iff_eq.mpr c16
                    clear c16
                    by_cases c17 : 0 ≤ x5_1
                    · rw [if_pos c17] at H
                      have c17b0 : decide (0 ≤ x5_1) = true := decide_eq_true c17
                      clear c17
                      by_cases c18 : x5_1 < (t157.length : Int)
                      · rw [if_pos c18] at H
                        have c18b0 : decide (x5_1 < (t157.length : Int)) = true := decide_eq_true c18
                        clear c18
                        by_cases c19 : x4_1.size + ((rd_T29 t157 x5_1).f0).size ≤ 9223372036854775807
                        · rw [if_pos c19] at H
                          have c19b0 := eq_true c19
                          have c19b1 : decide (x4_1.size + ((rd_T29 t157 x5_1).f0).size ≤ 9223372036854775807) = true := decide_eq_true c19
                          try have c19b2 : (9223372036854775807 < x4_1.size + ((rd_T29 t157 x5_1).f0).size) = False := eq_false (Nat.not_lt.2 c19)
                          by_cases c20 : (x4_1 ++ ((rd_T29 t157 x5_1).f0)).size + 2 ≤ 9223372036854775807
                          · rw [if_pos c20] at H
                            have c20b0 := eq_true c20
                            have c20b1 : decide ((x4_1 ++ ((rd_T29 t157 x5_1).f0)).size + 2 ≤ 9223372036854775807) = true := decide_eq_true c20
                            have c20n := c20
                            simp only [ByteArray.size_append, sz_2] at c20n
                            have c20nb := eq_true c20n
                            have c20nc := eq_false (Nat.not_lt.2 c20n)
                            try have c20b2 : (9223372036854775807 < (x4_1 ++ ((rd_T29 t157 x5_1).f0)).size + 2) = False := eq_false (Nat.not_lt.2 c20)
                            by_cases c21 : ((x4_1 ++ ((rd_T29 t157 x5_1).f0)) ++ (⟨#[58, 32]⟩ : ByteArray)).size + ((rd_T29 t157 x5_1).f1).size ≤ 9223372036854775807
                            · rw [if_pos c21] at H
                              have c21b0 := eq_true c21
                              have c21b1 : decide (((x4_1 ++ ((rd_T29 t157 x5_1).f0)) ++ (⟨#[58, 32]⟩ : ByteArray)).size + ((rd_T29 t157 x5_1).f1).size ≤ 9223372036854775807) = true := decide_eq_true c21
                              have c21n := c21
                              simp only [ByteArray.size_append, sz_2] at c21n
                              have c21nb := eq_true c21n
                              have c21nc := eq_false (Nat.not_lt.2 c21n)
                              try have c21b2 : (9223372036854775807 < ((x4_1 ++ ((rd_T29 t157 x5_1).f0)) ++ (⟨#[58, 32]⟩ : ByteArray)).size + ((rd_T29 t157 x5_1).f1).size) = False := eq_false (Nat.not_lt.2 c21)
                              have H' := Aside0.mk H
                              clear H
                              have p168 : 0 ≤ (x5_1 : Int) := of_decide_eq_true (by first | (with_reducible assumption) | assumption)
                              have q168 : x5_1 < (t157.length : Int) := of_decide_eq_true (by first | (with_reducible assumption) | assumption)
                              obtain ⟨ad168, e168, hx168_0, hx168_1⟩ := at_T29 (Kd.R_reads' HO_3.out).2.2 x5_1 p168 q168
                              obtain rfl : ad160 = ad168 := (by injection e168)
                              replace p168 := eq_true p168
                              replace q168 := eq_true q168
                              have p169 : 0 ≤ (x5_1 : Int) := of_decide_eq_true (by first | (with_reducible assumption) | assumption)
                              have q169 : x5_1 < (t157.length : Int) := of_decide_eq_true (by first | (with_reducible assumption) | assumption)
                              obtain ⟨ad169, e169, hx169_0, hx169_1⟩ := at_T29 (Kd.R_reads' HO_3.out).2.2 x5_1 p169 q169
                              obtain rfl : ad160 = ad169 := (by injection e169)
                              replace p169 := eq_true p169
                              replace q169 := eq_true q169
                              go_wp2
                              repeat (go_quiet (fail); try go_wp2)
                              go_roundg k2
                              case measure => have := HK1.out; have := HK2.out; omega
                              case rel => exact ⟨(((x4_1 ++ ((rd_T29 t157 x5_1).f0)) ++ (⟨#[58, 32]⟩ : ByteArray)) ++ ((rd_T29 t157 x5_1).f1)), (wrap64 (x5_1 + 1)), (by first | rfl | (simp; done) | (simp [*]; done)), (by first | rfl | (simp; done) | (simp [*]; done)), H', ⟨by have := HK1.out; have := HK2.out; omega⟩, ⟨by (with_reducible repeat (first | apply Kd.R_alloc | apply Kd.R_drewN | apply Kd.R_drew)); exact HO_3.out⟩, ⟨by repeat (first | (with_reducible first | exact HB.out | apply below_alloc | apply pw_below_drewN | apply below_drew1) | exact HB.out)⟩⟩
                            · rw [if_neg c21] at H
                              exact absurd H (by simp)
                          · rw [if_neg c20] at H
                            exact absurd H (by simp)
                        · rw [if_neg c19] at H
                          exact absurd H (by simp)
                      · rw [if_neg c18] at H
                        exact absurd H (by simp)
                    · rw [if_neg c17] at H
                      exact absurd H (by simp)
                  · rw [if_neg c16] at H
                    have c16b0 : (x4_1.toList == ([] : List UInt8)) = false := beq_eq_false_iff_ne.mpr c16
                    have c16b1 : (x4_1.toList != ([] : List UInt8)) = true := bne_iff_ne.mpr c16
                    by_cases c22 : x4_1.size + 2 ≤ 9223372036854775807
                    · rw [if_pos c22] at H
                      have c22b0 := eq_true c22
                      have c22b1 : decide (x4_1.size + 2 ≤ 9223372036854775807) = true := decide_eq_true c22
                      try have c22b2 : (9223372036854775807 < x4_1.size + 2) = False := eq_false (Nat.not_lt.2 c22)
                      by_cases c23 : 0 ≤ x5_1
                      · rw [if_pos c23] at H
                        have c23b0 : decide (0 ≤ x5_1) = true := decide_eq_true c23
                        clear c23
                        by_cases c24 : x5_1 < (t157.length : Int)
                        · rw [if_pos c24] at H
                          have c24b0 : decide (x5_1 < (t157.length : Int)) = true := decide_eq_true c24
                          clear c24
                          by_cases c25 : (x4_1 ++ (⟨#[59, 32]⟩ : ByteArray)).size + ((rd_T29 t157 x5_1).f0).size ≤ 9223372036854775807
                          · rw [if_pos c25] at H
                            have c25b0 := eq_true c25
                            have c25b1 : decide ((x4_1 ++ (⟨#[59, 32]⟩ : ByteArray)).size + ((rd_T29 t157 x5_1).f0).size ≤ 9223372036854775807) = true := decide_eq_true c25
                            have c25n := c25
                            simp only [ByteArray.size_append, sz_2] at c25n
                            have c25nb := eq_true c25n
                            have c25nc := eq_false (Nat.not_lt.2 c25n)
                            try have c25b2 : (9223372036854775807 < (x4_1 ++ (⟨#[59, 32]⟩ : ByteArray)).size + ((rd_T29 t157 x5_1).f0).size) = False := eq_false (Nat.not_lt.2 c25)
                            by_cases c26 : ((x4_1 ++ (⟨#[59, 32]⟩ : ByteArray)) ++ ((rd_T29 t157 x5_1).f0)).size + 2 ≤ 9223372036854775807
                            · rw [if_pos c26] at H
                              have c26b0 := eq_true c26
                              have c26b1 : decide (((x4_1 ++ (⟨#[59, 32]⟩ : ByteArray)) ++ ((rd_T29 t157 x5_1).f0)).size + 2 ≤ 9223372036854775807) = true := decide_eq_true c26
                              have c26n := c26
                              simp only [ByteArray.size_append, sz_2] at c26n
                              have c26nb := eq_true c26n
                              have c26nc := eq_false (Nat.not_lt.2 c26n)
                              try have c26b2 : (9223372036854775807 < ((x4_1 ++ (⟨#[59, 32]⟩ : ByteArray)) ++ ((rd_T29 t157 x5_1).f0)).size + 2) = False := eq_false (Nat.not_lt.2 c26)
                              by_cases c27 : (((x4_1 ++ (⟨#[59, 32]⟩ : ByteArray)) ++ ((rd_T29 t157 x5_1).f0)) ++ (⟨#[58, 32]⟩ : ByteArray)).size + ((rd_T29 t157 x5_1).f1).size ≤ 9223372036854775807
                              · rw [if_pos c27] at H
                                have c27b0 := eq_true c27
                                have c27b1 : decide ((((x4_1 ++ (⟨#[59, 32]⟩ : ByteArray)) ++ ((rd_T29 t157 x5_1).f0)) ++ (⟨#[58, 32]⟩ : ByteArray)).size + ((rd_T29 t157 x5_1).f1).size ≤ 9223372036854775807) = true := decide_eq_true c27
                                have c27n := c27
                                simp only [ByteArray.size_append, sz_2] at c27n
                                have c27nb := eq_true c27n
                                have c27nc := eq_false (Nat.not_lt.2 c27n)
                                try have c27b2 : (9223372036854775807 < (((x4_1 ++ (⟨#[59, 32]⟩ : ByteArray)) ++ ((rd_T29 t157 x5_1).f0)) ++ (⟨#[58, 32]⟩ : ByteArray)).size + ((rd_T29 t157 x5_1).f1).size) = False := eq_false (Nat.not_lt.2 c27)
                                have H' := Aside0.mk H
                                clear H
                                have p170 : 0 ≤ (x5_1 : Int) := of_decide_eq_true (by first | (with_reducible assumption) | assumption)
                                have q170 : x5_1 < (t157.length : Int) := of_decide_eq_true (by first | (with_reducible assumption) | assumption)
                                obtain ⟨ad170, e170, hx170_0, hx170_1⟩ := at_T29 (Kd.R_reads' HO_3.out).2.2 x5_1 p170 q170
                                obtain rfl : ad160 = ad170 := (by injection e170)
                                replace p170 := eq_true p170
                                replace q170 := eq_true q170
                                have p171 : 0 ≤ (x5_1 : Int) := of_decide_eq_true (by first | (with_reducible assumption) | assumption)
                                have q171 : x5_1 < (t157.length : Int) := of_decide_eq_true (by first | (with_reducible assumption) | assumption)
                                obtain ⟨ad171, e171, hx171_0, hx171_1⟩ := at_T29 (Kd.R_reads' HO_3.out).2.2 x5_1 p171 q171
                                obtain rfl : ad160 = ad171 := (by injection e171)
                                replace p171 := eq_true p171
                                replace q171 := eq_true q171
                                go_wp2
                                repeat (go_quiet (fail); try go_wp2)
                                go_roundg k2
                                case measure => have := HK1.out; have := HK2.out; omega
                                case rel => exact ⟨((((x4_1 ++ (⟨#[59, 32]⟩ : ByteArray)) ++ ((rd_T29 t157 x5_1).f0)) ++ (⟨#[58, 32]⟩ : ByteArray)) ++ ((rd_T29 t157 x5_1).f1)), (wrap64 (x5_1 + 1)), (by first | rfl | (simp; done) | (simp [*]; done)), (by first | rfl | (simp; done) | (simp [*]; done)), H', ⟨by have := HK1.out; have := HK2.out; omega⟩, ⟨by (with_reducible repeat (first | apply Kd.R_alloc | apply Kd.R_drewN | apply Kd.R_drew)); exact HO_3.out⟩, ⟨by repeat (first | (with_reducible first | exact HB.out | apply below_alloc | apply pw_below_drewN | apply below_drew1) | exact HB.out)⟩⟩
                              · rw [if_neg c27] at H
                                exact absurd H (by simp)
                            · rw [if_neg c26] at H
                              exact absurd H (by simp)
                          · rw [if_neg c25] at H
                            exact absurd H (by simp)
                        · rw [if_neg c24] at H
                          exact absurd H (by simp)
                      · rw [if_neg c23] at H
                        exact absurd H (by simp)
                    · rw [if_neg c22] at H
                      exact absurd H (by simp)
                · replace c15 := Bool.eq_false_iff.mpr c15
                  subst c15
                  have H1 : (muslinref17_Clean.l0 k2 t157 x4_1 (wrap64 (x5_1 + 1))) = some r := by rw [if_neg (show ¬ (false = true) by decide)] at H; exact H
                  clear H
                  have H := H1
                  clear H1
                  have H' := Aside0.mk H
                  clear H
                  go_wp2
                  repeat (go_quiet (fail); try go_wp2)
                  go_roundg k2
                  case measure => have := HK1.out; have := HK2.out; omega
                  case rel => exact ⟨(x4_1), (wrap64 (x5_1 + 1)), (by first | rfl | (simp; done) | (simp [*]; done)), (by first | rfl | (simp; done) | (simp [*]; done)), H', ⟨by have := HK1.out; have := HK2.out; omega⟩, ⟨by (with_reducible repeat (first | apply Kd.R_alloc | apply Kd.R_drewN | apply Kd.R_drew)); exact HO_3.out⟩, ⟨by repeat (first | (with_reducible first | exact HB.out | apply below_alloc | apply pw_below_drewN | apply below_drew1) | exact HB.out)⟩⟩
        · rw [if_neg c5] at H
          exact absurd H (by simp)
      · rw [if_neg c4] at H
        have c4b0 : decide (x5_1 < (t157.length : Int)) = false := decide_eq_false c4
        clear c4
        obtain rfl := Option.some.inj H
        obtain ⟨Ao28, co28, eo28⟩ := Kd.R_slice HO_3.out
        subst eo28
        go_wp2
        repeat (go_quiet (fail); try go_wp2)
        go_ret
        exact ⟨by first | rfl | (simp [errW_none, errW_some] <;> rfl) | (simp [*, errW_none, errW_some] <;> rfl), by repeat (first | (with_reducible first | exact HB.out | apply below_alloc | apply pw_below_drewN | apply below_drew1) | exact HB.out)⟩

/-! ### muslinlaw17_CssCuts: function 3 -/
def muslinlaw17_CssCuts.f (k : Nat) (a0 : ByteArray) : Option (Bool) := (muslinlaw17_short.f a0).bind fun t172 => (if t172 = true then ((css_Cut.f k a0).bind fun t174 => ((muslinref17_Cut.f k a0).bind fun t177 => ((muslinref17_Same.f k t174 t177).bind fun t180 => (if t180 = true then ((css_Clean.f a0).bind fun t181 => ((muslinref17_Clean.f k a0).bind fun t182 => (if t181.toList = t182.toList then ((muslinlaw17_live.f k).bind fun t183 => (some t183)) else (some false)))) else (some false))))) else ((muslinlaw17_live.f k).bind fun t173 => (some t173)))
theorem muslinlaw17_CssCuts.mono : ∀ a0 k, LeO (muslinlaw17_CssCuts.f k a0) (muslinlaw17_CssCuts.f (k + 1) a0) := by
  intro a0 k
  unfold muslinlaw17_CssCuts.f
  repeat' first
      | (with_reducible exact css_Cut.mono _ _)
      | (with_reducible exact muslinlaw17_live.mono _)
      | (with_reducible exact muslinref17_Clean.mono _ _)
      | (with_reducible exact muslinref17_Cut.mono _ _)
      | (with_reducible exact muslinref17_Same.mono _ _ _)
      | (with_reducible exact LeO.refl _)
      | (with_reducible exact LeO.none _)
      | (with_reducible refine LeO.ite ?_ ?_)
      | (with_reducible refine LeO.bind ?_ (fun _ => ?_))
      | exact css_Cut.mono _ _
      | exact muslinlaw17_live.mono _
      | exact muslinref17_Clean.mono _ _
      | exact muslinref17_Cut.mono _ _
      | exact muslinref17_Same.mono _ _ _
      | exact LeO.none _
      | refine LeO.ite ?_ ?_
      | refine LeO.bind ?_ (fun _ => ?_)
set_option maxHeartbeats 8000000 in
set_option maxRecDepth 100000 in
theorem muslinlaw17_CssCuts.calls (k : Nat) (a0 : ByteArray) (r : Bool) (w : World) (h : muslinlaw17_CssCuts.f k a0 = some r) (hN : NmAt w) :
    Calls Tryd.prog 3 #[.string a0] w fun e w' => e = .returned (.bool r) ∧ Below w.heap.size w w' := by
  have HN := Aside0.mk hN
  clear hN
  have HB := Aside0.mk (Below.refl w.heap.size w)
  have H : ((muslinlaw17_short.f a0).bind fun t172 => (if t172 = true then ((css_Cut.f k a0).bind fun t174 => ((muslinref17_Cut.f k a0).bind fun t177 => ((muslinref17_Same.f k t174 t177).bind fun t180 => (if t180 = true then ((css_Clean.f a0).bind fun t181 => ((muslinref17_Clean.f k a0).bind fun t182 => (if t181.toList = t182.toList then ((muslinlaw17_live.f k).bind fun t183 => (some t183)) else (some false)))) else (some false))))) else ((muslinlaw17_live.f k).bind fun t173 => (some t173)))) = some r := h
  clear h
  replace H := Option.bind_eq_some_iff.mp H
  obtain ⟨t172, A20, H⟩ := H
  replace H : (if t172 = true then ((css_Cut.f k a0).bind fun t174 => ((muslinref17_Cut.f k a0).bind fun t177 => ((muslinref17_Same.f k t174 t177).bind fun t180 => (if t180 = true then ((css_Clean.f a0).bind fun t181 => ((muslinref17_Clean.f k a0).bind fun t182 => (if t181.toList = t182.toList then ((muslinlaw17_live.f k).bind fun t183 => (some t183)) else (some false)))) else (some false))))) else ((muslinlaw17_live.f k).bind fun t173 => (some t173))) = some r := H
  have A2 := Aside0.mk A20
  clear A20
  by_cases c3 : t172 = true
  · subst c3
    have H1 : ((css_Cut.f k a0).bind fun t174 => ((muslinref17_Cut.f k a0).bind fun t177 => ((muslinref17_Same.f k t174 t177).bind fun t180 => (if t180 = true then ((css_Clean.f a0).bind fun t181 => ((muslinref17_Clean.f k a0).bind fun t182 => (if t181.toList = t182.toList then ((muslinlaw17_live.f k).bind fun t183 => (some t183)) else (some false)))) else (some false))))) = some r := by rw [if_pos rfl] at H; exact H
    clear H
    have H := H1
    clear H1
    replace H := Option.bind_eq_some_iff.mp H
    obtain ⟨t174, A40, H⟩ := H
    replace H : ((muslinref17_Cut.f k a0).bind fun t177 => ((muslinref17_Same.f k t174 t177).bind fun t180 => (if t180 = true then ((css_Clean.f a0).bind fun t181 => ((muslinref17_Clean.f k a0).bind fun t182 => (if t181.toList = t182.toList then ((muslinlaw17_live.f k).bind fun t183 => (some t183)) else (some false)))) else (some false)))) = some r := H
    have A4 := Aside0.mk A40
    clear A40
    replace H := Option.bind_eq_some_iff.mp H
    obtain ⟨t177, A50, H⟩ := H
    replace H : ((muslinref17_Same.f k t174 t177).bind fun t180 => (if t180 = true then ((css_Clean.f a0).bind fun t181 => ((muslinref17_Clean.f k a0).bind fun t182 => (if t181.toList = t182.toList then ((muslinlaw17_live.f k).bind fun t183 => (some t183)) else (some false)))) else (some false))) = some r := H
    have A5 := Aside0.mk A50
    clear A50
    replace H := Option.bind_eq_some_iff.mp H
    obtain ⟨t180, A60, H⟩ := H
    replace H : (if t180 = true then ((css_Clean.f a0).bind fun t181 => ((muslinref17_Clean.f k a0).bind fun t182 => (if t181.toList = t182.toList then ((muslinlaw17_live.f k).bind fun t183 => (some t183)) else (some false)))) else (some false)) = some r := H
    have A6 := Aside0.mk A60
    clear A60
    by_cases c7 : t180 = true
    · subst c7
      have H1 : ((css_Clean.f a0).bind fun t181 => ((muslinref17_Clean.f k a0).bind fun t182 => (if t181.toList = t182.toList then ((muslinlaw17_live.f k).bind fun t183 => (some t183)) else (some false)))) = some r := by rw [if_pos rfl] at H; exact H
      clear H
      have H := H1
      clear H1
      replace H := Option.bind_eq_some_iff.mp H
      obtain ⟨t181, A80, H⟩ := H
      replace H : ((muslinref17_Clean.f k a0).bind fun t182 => (if t181.toList = t182.toList then ((muslinlaw17_live.f k).bind fun t183 => (some t183)) else (some false))) = some r := H
      have A8 := Aside0.mk A80
      clear A80
      replace H := Option.bind_eq_some_iff.mp H
      obtain ⟨t182, A90, H⟩ := H
      replace H : (if t181.toList = t182.toList then ((muslinlaw17_live.f k).bind fun t183 => (some t183)) else (some false)) = some r := H
      have A9 := Aside0.mk A90
      clear A90
      by_cases c10 : t181.toList = t182.toList
      · rw [if_pos c10] at H
        have c10b0 : (t181.toList == t182.toList) = true := beq_iff_eq.mpr c10
        have c10b1 : (t181.toList != t182.toList) = false := bne_eq_false_iff_eq.mpr c10
        clear c10
        replace H := Option.bind_eq_some_iff.mp H
        obtain ⟨t183, A110, H⟩ := H
        replace H : (some t183) = some r := H
        have A11 := Aside0.mk A110
        clear A110
        obtain rfl := Option.some.inj H
        go_enter Tryd.func3, Tryd.ntmps3
        go_wp2_with (first | ((with_reducible refine gate_callee (f := 9) rfl ?_); refine goesL_ (some 4) rfl rfl Tryd.func9 (by kernel_rfl) rfl #[.string a0] rfl (by (try simp only [List.map_toArray, List.map_cons, List.map_nil]); first | done | rfl | (simp only [List.length_drop, List.length_take]; rfl)) ?_; (with_reducible refine (muslinlaw17_short.calls a0 true _ A2.out).mono ?_); rintro e w' ⟨rfl, ⟨nd, rfl⟩⟩; refine ⟨_, rfl, ?_⟩) | ((with_reducible refine gate_callee (f := 12) rfl ?_); refine goesL_ (some 8) rfl rfl Tryd.func12 (by kernel_rfl) rfl #[.string a0] rfl (by (try simp only [List.map_toArray, List.map_cons, List.map_nil]); first | done | rfl | (simp only [List.length_drop, List.length_take]; rfl)) ?_; (with_reducible refine (css_Cut.calls k a0 t174 _ A4.out).mono ?_); rintro e w12 ⟨v175, rfl, ho0, hb⟩; refine ⟨_, rfl, ?_⟩; have n0_ := Aside0.mk (Kd.R_lower ho0 (below_size (by repeat (first | (with_reducible first | exact HB.out | apply below_alloc | apply pw_below_drewN | apply below_drew1) | exact HB.out)))); have n1_ := Aside0.mk (below_step (by repeat (first | (with_reducible first | exact HB.out | apply below_alloc | apply pw_below_drewN | apply below_drew1) | exact HB.out)) hb); clear HB; have HO176 := n0_; have HB := n1_; clear n0_ n1_; (try clear hb); (try clear hb2); (try clear hk); (try clear hi); (try clear ho0)) | ((with_reducible refine gate_callee (f := 13) rfl ?_); refine goesL_ (some 10) rfl rfl Tryd.func13 (by kernel_rfl) rfl #[.string a0] rfl (by (try simp only [List.map_toArray, List.map_cons, List.map_nil]); first | done | rfl | (simp only [List.length_drop, List.length_take]; rfl)) ?_; (with_reducible refine (muslinref17_Cut.calls k a0 t177 _ A5.out).mono ?_); rintro e w13 ⟨v178, rfl, ho0, hb⟩; refine ⟨_, rfl, ?_⟩; have n0_ := Aside0.mk (Kd.R_elder' (by (with_reducible repeat (first | apply Kd.R_alloc | apply Kd.R_drewN | apply Kd.R_drew)); exact HO176.out) (Kd.R_base ho0) hb); have n1_ := Aside0.mk (Kd.R_lower (Kd.R_new' ho0 (Kd.R_lt (by (with_reducible repeat (first | apply Kd.R_alloc | apply Kd.R_drewN | apply Kd.R_drew)); exact HO176.out))) (below_size (by repeat (first | (with_reducible first | exact HB.out | apply below_alloc | apply pw_below_drewN | apply below_drew1) | exact HB.out)))); have n2_ := Aside0.mk (below_step (by repeat (first | (with_reducible first | exact HB.out | apply below_alloc | apply pw_below_drewN | apply below_drew1) | exact HB.out)) hb); clear HO176; clear HB; have HO176 := n0_; have HO179 := n1_; have HB := n2_; clear n0_ n1_ n2_; (try clear hb); (try clear hb2); (try clear hk); (try clear hi); (try clear ho0); obtain ⟨Ao14, co14, eo14⟩ := Kd.R_slice HO176.out; subst eo14; obtain ⟨Ao15, co15, eo15⟩ := Kd.R_slice HO179.out; subst eo15) | ((with_reducible refine gate_callee (f := 11) rfl ?_); refine goesL_ (some 11) rfl rfl Tryd.func11 (by kernel_rfl) rfl #[.slice Ao14 t174.length co14, .slice Ao15 t177.length co15] rfl (by (try simp only [List.map_toArray, List.map_cons, List.map_nil]); first | done | rfl | (simp only [List.length_drop, List.length_take]; rfl)) ?_; (with_reducible refine (muslinref17_Same.calls k _ _ t174 _ _ t177 true _ ?side1 ?side2 ?side3 ?side4 A6.out).mono ?_); (case side1 => repeat (first | exact (Kd.R_reads' HO176.out).2.2 | (with_reducible refine Kd.C_alloc ?_ _) | (with_reducible refine Kd.C_drewN ?_ _) | (with_reducible refine Kd.C_drew ?_))); (case side2 => exact (Kd.R_reads' HO176.out).2.1); (case side3 => repeat (first | exact (Kd.R_reads' HO179.out).2.2 | (with_reducible refine Kd.C_alloc ?_ _) | (with_reducible refine Kd.C_drewN ?_ _) | (with_reducible refine Kd.C_drew ?_))); (case side4 => exact (Kd.R_reads' HO179.out).2.1); rintro e w' ⟨rfl, ⟨nd, rfl⟩⟩; refine ⟨_, rfl, ?_⟩) | (go_at_call 14; (with_reducible refine (css_Clean.calls a0 t181 _ A8.out (NmAt.below HN.out (by repeat (first | (with_reducible first | exact HB.out | apply below_alloc | apply pw_below_drewN | apply below_drew1) | exact HB.out)))).mono ?_); rintro e w16 ⟨rfl, hb⟩; have n0_ := Aside0.mk (Kd.R_below (by (with_reducible repeat (first | apply Kd.R_alloc | apply Kd.R_drewN | apply Kd.R_drew)); exact HO176.out) hb); have n1_ := Aside0.mk (Kd.R_below (by (with_reducible repeat (first | apply Kd.R_alloc | apply Kd.R_drewN | apply Kd.R_drew)); exact HO179.out) hb); have n2_ := Aside0.mk (below_step (by repeat (first | (with_reducible first | exact HB.out | apply below_alloc | apply pw_below_drewN | apply below_drew1) | exact HB.out)) hb); clear HO176; clear HO179; clear HB; have HO176 := n0_; have HO179 := n1_; have HB := n2_; clear n0_ n1_ n2_; (try clear hb); (try clear hb2); (try clear hk); (try clear hi)) | (go_at_call 15; (with_reducible refine (muslinref17_Clean.calls k a0 t182 _ A9.out).mono ?_); rintro e w17 ⟨rfl, hb⟩; have n0_ := Aside0.mk (Kd.R_below (by (with_reducible repeat (first | apply Kd.R_alloc | apply Kd.R_drewN | apply Kd.R_drew)); exact HO176.out) hb); have n1_ := Aside0.mk (Kd.R_below (by (with_reducible repeat (first | apply Kd.R_alloc | apply Kd.R_drewN | apply Kd.R_drew)); exact HO179.out) hb); have n2_ := Aside0.mk (below_step (by repeat (first | (with_reducible first | exact HB.out | apply below_alloc | apply pw_below_drewN | apply below_drew1) | exact HB.out)) hb); clear HO176; clear HO179; clear HB; have HO176 := n0_; have HO179 := n1_; have HB := n2_; clear n0_ n1_ n2_; (try clear hb); (try clear hb2); (try clear hk); (try clear hi)) | (go_at_call 10; (with_reducible refine (muslinlaw17_live.calls k  t183 _ A11.out (NmAt.below HN.out (by repeat (first | (with_reducible first | exact HB.out | apply below_alloc | apply pw_below_drewN | apply below_drew1) | exact HB.out)))).mono ?_); rintro e w18 ⟨rfl, hb⟩; have n0_ := Aside0.mk (Kd.R_below (by (with_reducible repeat (first | apply Kd.R_alloc | apply Kd.R_drewN | apply Kd.R_drew)); exact HO176.out) hb); have n1_ := Aside0.mk (Kd.R_below (by (with_reducible repeat (first | apply Kd.R_alloc | apply Kd.R_drewN | apply Kd.R_drew)); exact HO179.out) hb); have n2_ := Aside0.mk (below_step (by repeat (first | (with_reducible first | exact HB.out | apply below_alloc | apply pw_below_drewN | apply below_drew1) | exact HB.out)) hb); clear HO176; clear HO179; clear HB; have HO176 := n0_; have HO179 := n1_; have HB := n2_; clear n0_ n1_ n2_; (try clear hb); (try clear hb2); (try clear hk); (try clear hi)))
        go_ret
        exact ⟨by first | rfl | (simp [errW_none, errW_some] <;> rfl) | (simp [*, errW_none, errW_some] <;> rfl), by repeat (first | (with_reducible first | exact HB.out | apply below_alloc | apply pw_below_drewN | apply below_drew1) | exact HB.out)⟩
      · rw [if_neg c10] at H
        have c10b0 : (t181.toList == t182.toList) = false := beq_eq_false_iff_ne.mpr c10
        have c10b1 : (t181.toList != t182.toList) = true := bne_iff_ne.mpr c10
        obtain rfl := Option.some.inj H
        go_enter Tryd.func3, Tryd.ntmps3
        go_wp2_with (first | ((with_reducible refine gate_callee (f := 9) rfl ?_); refine goesL_ (some 4) rfl rfl Tryd.func9 (by kernel_rfl) rfl #[.string a0] rfl (by (try simp only [List.map_toArray, List.map_cons, List.map_nil]); first | done | rfl | (simp only [List.length_drop, List.length_take]; rfl)) ?_; (with_reducible refine (muslinlaw17_short.calls a0 true _ A2.out).mono ?_); rintro e w' ⟨rfl, ⟨nd, rfl⟩⟩; refine ⟨_, rfl, ?_⟩) | ((with_reducible refine gate_callee (f := 12) rfl ?_); refine goesL_ (some 8) rfl rfl Tryd.func12 (by kernel_rfl) rfl #[.string a0] rfl (by (try simp only [List.map_toArray, List.map_cons, List.map_nil]); first | done | rfl | (simp only [List.length_drop, List.length_take]; rfl)) ?_; (with_reducible refine (css_Cut.calls k a0 t174 _ A4.out).mono ?_); rintro e w19 ⟨v175, rfl, ho0, hb⟩; refine ⟨_, rfl, ?_⟩; have n0_ := Aside0.mk (Kd.R_lower ho0 (below_size (by repeat (first | (with_reducible first | exact HB.out | apply below_alloc | apply pw_below_drewN | apply below_drew1) | exact HB.out)))); have n1_ := Aside0.mk (below_step (by repeat (first | (with_reducible first | exact HB.out | apply below_alloc | apply pw_below_drewN | apply below_drew1) | exact HB.out)) hb); clear HB; have HO176 := n0_; have HB := n1_; clear n0_ n1_; (try clear hb); (try clear hb2); (try clear hk); (try clear hi); (try clear ho0)) | ((with_reducible refine gate_callee (f := 13) rfl ?_); refine goesL_ (some 10) rfl rfl Tryd.func13 (by kernel_rfl) rfl #[.string a0] rfl (by (try simp only [List.map_toArray, List.map_cons, List.map_nil]); first | done | rfl | (simp only [List.length_drop, List.length_take]; rfl)) ?_; (with_reducible refine (muslinref17_Cut.calls k a0 t177 _ A5.out).mono ?_); rintro e w20 ⟨v178, rfl, ho0, hb⟩; refine ⟨_, rfl, ?_⟩; have n0_ := Aside0.mk (Kd.R_elder' (by (with_reducible repeat (first | apply Kd.R_alloc | apply Kd.R_drewN | apply Kd.R_drew)); exact HO176.out) (Kd.R_base ho0) hb); have n1_ := Aside0.mk (Kd.R_lower (Kd.R_new' ho0 (Kd.R_lt (by (with_reducible repeat (first | apply Kd.R_alloc | apply Kd.R_drewN | apply Kd.R_drew)); exact HO176.out))) (below_size (by repeat (first | (with_reducible first | exact HB.out | apply below_alloc | apply pw_below_drewN | apply below_drew1) | exact HB.out)))); have n2_ := Aside0.mk (below_step (by repeat (first | (with_reducible first | exact HB.out | apply below_alloc | apply pw_below_drewN | apply below_drew1) | exact HB.out)) hb); clear HO176; clear HB; have HO176 := n0_; have HO179 := n1_; have HB := n2_; clear n0_ n1_ n2_; (try clear hb); (try clear hb2); (try clear hk); (try clear hi); (try clear ho0); obtain ⟨Ao21, co21, eo21⟩ := Kd.R_slice HO176.out; subst eo21; obtain ⟨Ao22, co22, eo22⟩ := Kd.R_slice HO179.out; subst eo22) | ((with_reducible refine gate_callee (f := 11) rfl ?_); refine goesL_ (some 11) rfl rfl Tryd.func11 (by kernel_rfl) rfl #[.slice Ao21 t174.length co21, .slice Ao22 t177.length co22] rfl (by (try simp only [List.map_toArray, List.map_cons, List.map_nil]); first | done | rfl | (simp only [List.length_drop, List.length_take]; rfl)) ?_; (with_reducible refine (muslinref17_Same.calls k _ _ t174 _ _ t177 true _ ?side1 ?side2 ?side3 ?side4 A6.out).mono ?_); (case side1 => repeat (first | exact (Kd.R_reads' HO176.out).2.2 | (with_reducible refine Kd.C_alloc ?_ _) | (with_reducible refine Kd.C_drewN ?_ _) | (with_reducible refine Kd.C_drew ?_))); (case side2 => exact (Kd.R_reads' HO176.out).2.1); (case side3 => repeat (first | exact (Kd.R_reads' HO179.out).2.2 | (with_reducible refine Kd.C_alloc ?_ _) | (with_reducible refine Kd.C_drewN ?_ _) | (with_reducible refine Kd.C_drew ?_))); (case side4 => exact (Kd.R_reads' HO179.out).2.1); rintro e w' ⟨rfl, ⟨nd, rfl⟩⟩; refine ⟨_, rfl, ?_⟩) | (go_at_call 14; (with_reducible refine (css_Clean.calls a0 t181 _ A8.out (NmAt.below HN.out (by repeat (first | (with_reducible first | exact HB.out | apply below_alloc | apply pw_below_drewN | apply below_drew1) | exact HB.out)))).mono ?_); rintro e w23 ⟨rfl, hb⟩; have n0_ := Aside0.mk (Kd.R_below (by (with_reducible repeat (first | apply Kd.R_alloc | apply Kd.R_drewN | apply Kd.R_drew)); exact HO176.out) hb); have n1_ := Aside0.mk (Kd.R_below (by (with_reducible repeat (first | apply Kd.R_alloc | apply Kd.R_drewN | apply Kd.R_drew)); exact HO179.out) hb); have n2_ := Aside0.mk (below_step (by repeat (first | (with_reducible first | exact HB.out | apply below_alloc | apply pw_below_drewN | apply below_drew1) | exact HB.out)) hb); clear HO176; clear HO179; clear HB; have HO176 := n0_; have HO179 := n1_; have HB := n2_; clear n0_ n1_ n2_; (try clear hb); (try clear hb2); (try clear hk); (try clear hi)) | (go_at_call 15; (with_reducible refine (muslinref17_Clean.calls k a0 t182 _ A9.out).mono ?_); rintro e w24 ⟨rfl, hb⟩; have n0_ := Aside0.mk (Kd.R_below (by (with_reducible repeat (first | apply Kd.R_alloc | apply Kd.R_drewN | apply Kd.R_drew)); exact HO176.out) hb); have n1_ := Aside0.mk (Kd.R_below (by (with_reducible repeat (first | apply Kd.R_alloc | apply Kd.R_drewN | apply Kd.R_drew)); exact HO179.out) hb); have n2_ := Aside0.mk (below_step (by repeat (first | (with_reducible first | exact HB.out | apply below_alloc | apply pw_below_drewN | apply below_drew1) | exact HB.out)) hb); clear HO176; clear HO179; clear HB; have HO176 := n0_; have HO179 := n1_; have HB := n2_; clear n0_ n1_ n2_; (try clear hb); (try clear hb2); (try clear hk); (try clear hi)))
        go_ret
        exact ⟨by first | rfl | (simp [errW_none, errW_some] <;> rfl) | (simp [*, errW_none, errW_some] <;> rfl), by repeat (first | (with_reducible first | exact HB.out | apply below_alloc | apply pw_below_drewN | apply below_drew1) | exact HB.out)⟩
    · replace c7 := Bool.eq_false_iff.mpr c7
      subst c7
      have H1 : (some false) = some r := by rw [if_neg (show ¬ (false = true) by decide)] at H; exact H
      clear H
      have H := H1
      clear H1
      obtain rfl := Option.some.inj H
      go_enter Tryd.func3, Tryd.ntmps3
      go_wp2_with (first | ((with_reducible refine gate_callee (f := 9) rfl ?_); refine goesL_ (some 4) rfl rfl Tryd.func9 (by kernel_rfl) rfl #[.string a0] rfl (by (try simp only [List.map_toArray, List.map_cons, List.map_nil]); first | done | rfl | (simp only [List.length_drop, List.length_take]; rfl)) ?_; (with_reducible refine (muslinlaw17_short.calls a0 true _ A2.out).mono ?_); rintro e w' ⟨rfl, ⟨nd, rfl⟩⟩; refine ⟨_, rfl, ?_⟩) | ((with_reducible refine gate_callee (f := 12) rfl ?_); refine goesL_ (some 8) rfl rfl Tryd.func12 (by kernel_rfl) rfl #[.string a0] rfl (by (try simp only [List.map_toArray, List.map_cons, List.map_nil]); first | done | rfl | (simp only [List.length_drop, List.length_take]; rfl)) ?_; (with_reducible refine (css_Cut.calls k a0 t174 _ A4.out).mono ?_); rintro e w25 ⟨v175, rfl, ho0, hb⟩; refine ⟨_, rfl, ?_⟩; have n0_ := Aside0.mk (Kd.R_lower ho0 (below_size (by repeat (first | (with_reducible first | exact HB.out | apply below_alloc | apply pw_below_drewN | apply below_drew1) | exact HB.out)))); have n1_ := Aside0.mk (below_step (by repeat (first | (with_reducible first | exact HB.out | apply below_alloc | apply pw_below_drewN | apply below_drew1) | exact HB.out)) hb); clear HB; have HO176 := n0_; have HB := n1_; clear n0_ n1_; (try clear hb); (try clear hb2); (try clear hk); (try clear hi); (try clear ho0)) | ((with_reducible refine gate_callee (f := 13) rfl ?_); refine goesL_ (some 10) rfl rfl Tryd.func13 (by kernel_rfl) rfl #[.string a0] rfl (by (try simp only [List.map_toArray, List.map_cons, List.map_nil]); first | done | rfl | (simp only [List.length_drop, List.length_take]; rfl)) ?_; (with_reducible refine (muslinref17_Cut.calls k a0 t177 _ A5.out).mono ?_); rintro e w26 ⟨v178, rfl, ho0, hb⟩; refine ⟨_, rfl, ?_⟩; have n0_ := Aside0.mk (Kd.R_elder' (by (with_reducible repeat (first | apply Kd.R_alloc | apply Kd.R_drewN | apply Kd.R_drew)); exact HO176.out) (Kd.R_base ho0) hb); have n1_ := Aside0.mk (Kd.R_lower (Kd.R_new' ho0 (Kd.R_lt (by (with_reducible repeat (first | apply Kd.R_alloc | apply Kd.R_drewN | apply Kd.R_drew)); exact HO176.out))) (below_size (by repeat (first | (with_reducible first | exact HB.out | apply below_alloc | apply pw_below_drewN | apply below_drew1) | exact HB.out)))); have n2_ := Aside0.mk (below_step (by repeat (first | (with_reducible first | exact HB.out | apply below_alloc | apply pw_below_drewN | apply below_drew1) | exact HB.out)) hb); clear HO176; clear HB; have HO176 := n0_; have HO179 := n1_; have HB := n2_; clear n0_ n1_ n2_; (try clear hb); (try clear hb2); (try clear hk); (try clear hi); (try clear ho0); obtain ⟨Ao27, co27, eo27⟩ := Kd.R_slice HO176.out; subst eo27; obtain ⟨Ao28, co28, eo28⟩ := Kd.R_slice HO179.out; subst eo28) | ((with_reducible refine gate_callee (f := 11) rfl ?_); refine goesL_ (some 11) rfl rfl Tryd.func11 (by kernel_rfl) rfl #[.slice Ao27 t174.length co27, .slice Ao28 t177.length co28] rfl (by (try simp only [List.map_toArray, List.map_cons, List.map_nil]); first | done | rfl | (simp only [List.length_drop, List.length_take]; rfl)) ?_; (with_reducible refine (muslinref17_Same.calls k _ _ t174 _ _ t177 false _ ?side1 ?side2 ?side3 ?side4 A6.out).mono ?_); (case side1 => repeat (first | exact (Kd.R_reads' HO176.out).2.2 | (with_reducible refine Kd.C_alloc ?_ _) | (with_reducible refine Kd.C_drewN ?_ _) | (with_reducible refine Kd.C_drew ?_))); (case side2 => exact (Kd.R_reads' HO176.out).2.1); (case side3 => repeat (first | exact (Kd.R_reads' HO179.out).2.2 | (with_reducible refine Kd.C_alloc ?_ _) | (with_reducible refine Kd.C_drewN ?_ _) | (with_reducible refine Kd.C_drew ?_))); (case side4 => exact (Kd.R_reads' HO179.out).2.1); rintro e w' ⟨rfl, ⟨nd, rfl⟩⟩; refine ⟨_, rfl, ?_⟩))
      go_ret
      exact ⟨by first | rfl | (simp [errW_none, errW_some] <;> rfl) | (simp [*, errW_none, errW_some] <;> rfl), by repeat (first | (with_reducible first | exact HB.out | apply below_alloc | apply pw_below_drewN | apply below_drew1) | exact HB.out)⟩
  · replace c3 := Bool.eq_false_iff.mpr c3
    subst c3
    have H1 : ((muslinlaw17_live.f k).bind fun t173 => (some t173)) = some r := by rw [if_neg (show ¬ (false = true) by decide)] at H; exact H
    clear H
    have H := H1
    clear H1
    replace H := Option.bind_eq_some_iff.mp H
    obtain ⟨t173, A290, H⟩ := H
    replace H : (some t173) = some r := H
    have A29 := Aside0.mk A290
    clear A290
    obtain rfl := Option.some.inj H
    go_enter Tryd.func3, Tryd.ntmps3
    go_wp2_with (first | ((with_reducible refine gate_callee (f := 9) rfl ?_); refine goesL_ (some 4) rfl rfl Tryd.func9 (by kernel_rfl) rfl #[.string a0] rfl (by (try simp only [List.map_toArray, List.map_cons, List.map_nil]); first | done | rfl | (simp only [List.length_drop, List.length_take]; rfl)) ?_; (with_reducible refine (muslinlaw17_short.calls a0 false _ A2.out).mono ?_); rintro e w' ⟨rfl, ⟨nd, rfl⟩⟩; refine ⟨_, rfl, ?_⟩) | ((with_reducible refine gate_callee (f := 10) rfl ?_); refine goesL_ (some 6) rfl rfl Tryd.func10 (by kernel_rfl) rfl #[] rfl (by (try simp only [List.map_toArray, List.map_cons, List.map_nil]); first | done | rfl | (simp only [List.length_drop, List.length_take]; rfl)) ?_; (with_reducible refine (muslinlaw17_live.calls k  t173 _ A29.out (NmAt.below HN.out (by repeat (first | (with_reducible first | exact HB.out | apply below_alloc | apply pw_below_drewN | apply below_drew1) | exact HB.out)))).mono ?_); rintro e w30 ⟨rfl, hb⟩; refine ⟨_, rfl, ?_⟩; have n0_ := Aside0.mk (below_step (by repeat (first | (with_reducible first | exact HB.out | apply below_alloc | apply pw_below_drewN | apply below_drew1) | exact HB.out)) hb); clear HB; have HB := n0_; clear n0_; (try clear hb); (try clear hb2); (try clear hk); (try clear hi)))
    go_ret
    exact ⟨by first | rfl | (simp [errW_none, errW_some] <;> rfl) | (simp [*, errW_none, errW_some] <;> rfl), by repeat (first | (with_reducible first | exact HB.out | apply below_alloc | apply pw_below_drewN | apply below_drew1) | exact HB.out)⟩

/-- THE ONE PURE STATEMENT of muslinlaw17_CssCuts: yours. -/
def muslinlaw17_CssCuts.Pure : Prop := ∀ (a0 : ByteArray), a0.size ≤ 140737488351232 → ∃ k, muslinlaw17_CssCuts.f k a0 = some true
theorem muslinlaw17_CssCuts.walk (P : muslinlaw17_CssCuts.Pure) (a0 : ByteArray) (w : World) (w0 : a0.size ≤ 140737488351232) (hN : NmAt w) :
    Calls Tryd.prog 3 #[.string a0] w fun e w' => e = .returned (.bool true) ∧ Below w.heap.size w w' := by
  obtain ⟨k, h⟩ := P a0 w0
  refine (muslinlaw17_CssCuts.calls k a0 true w h hN).mono ?_
  rintro e w' ⟨rfl, hd⟩
  exact ⟨rfl, hd⟩

/-! ### muslinlaw17_CssSafe: function 4 -/
def muslinlaw17_CssSafe.j0 : Nat → ByteArray → ByteArray → Bool → Option (Bool)
  | 0, _, _, _ => none
  | k + 1, x0, x1, x12 => if x12 = true then ((muslinlaw17_live.f k).bind fun t186 => (some t186)) else ((css_Safe.f x0 x1).bind fun t187 => ((muslinref17_Safe.f k x0 x1).bind fun t188 => (if (t187 == t188) = true then ((muslinlaw17_live.f k).bind fun t189 => (some t189)) else (some false))))
def muslinlaw17_CssSafe.f (k : Nat) (a0 : ByteArray) (a1 : ByteArray) : Option (Bool) := (muslinlaw17_short.f a0).bind fun t184 => (if t184 = true then ((muslinlaw17_short.f a1).bind fun t185 => (muslinlaw17_CssSafe.j0 k a0 a1 (!t185))) else (muslinlaw17_CssSafe.j0 k a0 a1 true))
theorem muslinlaw17_CssSafe.mono_l : ∀ k, (∀ y0 y1 y2, LeO (muslinlaw17_CssSafe.j0 k y0 y1 y2) (muslinlaw17_CssSafe.j0 (k + 1) y0 y1 y2))
  | 0 => fun _ _ _ r h => by simp [muslinlaw17_CssSafe.j0] at h
  | k + 1 => by
    have ih0 := muslinlaw17_CssSafe.mono_l k
    · intro y0 y1 y2
      unfold muslinlaw17_CssSafe.j0
      repeat' first
      | (with_reducible exact ih0 _ _ _)
      | (with_reducible exact muslinlaw17_live.mono _)
      | (with_reducible exact muslinref17_Safe.mono _ _ _)
      | (with_reducible exact LeO.refl _)
      | (with_reducible exact LeO.none _)
      | (with_reducible refine LeO.ite ?_ ?_)
      | (with_reducible refine LeO.bind ?_ (fun _ => ?_))
      | exact ih0 _ _ _
      | exact muslinlaw17_live.mono _
      | exact muslinref17_Safe.mono _ _ _
      | exact LeO.none _
      | refine LeO.ite ?_ ?_
      | refine LeO.bind ?_ (fun _ => ?_)
theorem muslinlaw17_CssSafe.mono : ∀ a0 a1 k, LeO (muslinlaw17_CssSafe.f k a0 a1) (muslinlaw17_CssSafe.f (k + 1) a0 a1) := by
  intro a0 a1 k
  have ih0 := muslinlaw17_CssSafe.mono_l k
  unfold muslinlaw17_CssSafe.f
  repeat' first
      | (with_reducible exact ih0 _ _ _)
      | (with_reducible exact muslinlaw17_live.mono _)
      | (with_reducible exact muslinref17_Safe.mono _ _ _)
      | (with_reducible exact LeO.refl _)
      | (with_reducible exact LeO.none _)
      | (with_reducible refine LeO.ite ?_ ?_)
      | (with_reducible refine LeO.bind ?_ (fun _ => ?_))
      | exact ih0 _ _ _
      | exact muslinlaw17_live.mono _
      | exact muslinref17_Safe.mono _ _ _
      | exact LeO.none _
      | refine LeO.ite ?_ ?_
      | refine LeO.bind ?_ (fun _ => ?_)
set_option maxHeartbeats 8000000 in
set_option maxRecDepth 100000 in
theorem muslinlaw17_CssSafe.calls (k : Nat) (a0 : ByteArray) (a1 : ByteArray) (r : Bool) (w : World) (h : muslinlaw17_CssSafe.f k a0 a1 = some r) (hN : NmAt w) :
    Calls Tryd.prog 4 #[.string a0, .string a1] w fun e w' => e = .returned (.bool r) ∧ Below w.heap.size w w' := by
  have HN := Aside0.mk hN
  clear hN
  have HB := Aside0.mk (Below.refl w.heap.size w)
  have H : ((muslinlaw17_short.f a0).bind fun t184 => (if t184 = true then ((muslinlaw17_short.f a1).bind fun t185 => (muslinlaw17_CssSafe.j0 k a0 a1 (!t185))) else (muslinlaw17_CssSafe.j0 k a0 a1 true))) = some r := h
  clear h
  have HC3 := Aside0.mk H
  clear H
  go_enter Tryd.func4, Tryd.ntmps4
  go_upto_region 1 with (fail)
  go_cut [12] (fun v12 wc => ∃ (kq : Nat) (x12_2 : Bool), v12 = .bool x12_2 ∧ Aside0 (muslinlaw17_CssSafe.j0 kq a0 a1 x12_2 = some r) ∧ Aside0 (kq ≤ k) ∧ Aside0 (Below w.heap.size w wc))
  case first =>
    have H := HC3.out
    clear HC3
    replace H := Option.bind_eq_some_iff.mp H
    obtain ⟨t184, A40, H⟩ := H
    replace H : (if t184 = true then ((muslinlaw17_short.f a1).bind fun t185 => (muslinlaw17_CssSafe.j0 k a0 a1 (!t185))) else (muslinlaw17_CssSafe.j0 k a0 a1 true)) = some r := H
    have A4 := Aside0.mk A40
    clear A40
    by_cases c5 : t184 = true
    · subst c5
      have H1 : ((muslinlaw17_short.f a1).bind fun t185 => (muslinlaw17_CssSafe.j0 k a0 a1 (!t185))) = some r := by rw [if_pos rfl] at H; exact H
      clear H
      have H := H1
      clear H1
      replace H := Option.bind_eq_some_iff.mp H
      obtain ⟨t185, A60, H⟩ := H
      replace H : (muslinlaw17_CssSafe.j0 k a0 a1 (!t185)) = some r := H
      have A6 := Aside0.mk A60
      clear A60
      have H' := Aside0.mk H
      clear H
      go_wp2_with (first | ((with_reducible refine gate_callee (f := 9) rfl ?_); refine goesL_ (some 6) rfl rfl Tryd.func9 (by kernel_rfl) rfl #[.string a0] rfl (by (try simp only [List.map_toArray, List.map_cons, List.map_nil]); first | done | rfl | (simp only [List.length_drop, List.length_take]; rfl)) ?_; (with_reducible refine (muslinlaw17_short.calls a0 true _ A4.out).mono ?_); rintro e w' ⟨rfl, ⟨nd, rfl⟩⟩; refine ⟨_, rfl, ?_⟩) | (go_at_call 9; (with_reducible refine (muslinlaw17_short.calls a1 t185 _ A6.out).mono ?_); rintro e w' ⟨rfl, ⟨nd, rfl⟩⟩))
      go_meet
      case rel => exact ⟨_, (!t185), (by first | rfl | (simp; done) | (simp [*]; done)), H', ⟨by first | omega | exact Nat.le_refl _⟩, ⟨by repeat (first | (with_reducible first | exact HB.out | apply below_alloc | apply pw_below_drewN | apply below_drew1) | exact HB.out)⟩⟩
    · replace c5 := Bool.eq_false_iff.mpr c5
      subst c5
      have H1 : (muslinlaw17_CssSafe.j0 k a0 a1 true) = some r := by rw [if_neg (show ¬ (false = true) by decide)] at H; exact H
      clear H
      have H := H1
      clear H1
      have H' := Aside0.mk H
      clear H
      go_wp2_with (first | ((with_reducible refine gate_callee (f := 9) rfl ?_); refine goesL_ (some 6) rfl rfl Tryd.func9 (by kernel_rfl) rfl #[.string a0] rfl (by (try simp only [List.map_toArray, List.map_cons, List.map_nil]); first | done | rfl | (simp only [List.length_drop, List.length_take]; rfl)) ?_; (with_reducible refine (muslinlaw17_short.calls a0 false _ A4.out).mono ?_); rintro e w' ⟨rfl, ⟨nd, rfl⟩⟩; refine ⟨_, rfl, ?_⟩))
      go_meet
      case rel => exact ⟨_, (true), (by first | rfl | (simp; done) | (simp [*]; done)), H', ⟨by first | omega | exact Nat.le_refl _⟩, ⟨by repeat (first | (with_reducible first | exact HB.out | apply below_alloc | apply pw_below_drewN | apply below_drew1) | exact HB.out)⟩⟩
  case rest =>
    clear HC3
    try clear p2
    try clear c4
    try clear c5
    obtain ⟨kq, x12_2, rfl, HA, HJ2, HB⟩ := hcut
    cases kq with
    | zero => exact absurd HA.out (by simp [muslinlaw17_CssSafe.j0])
    | succ kj2 =>
      have H := HA.out
      clear HA
      simp only [muslinlaw17_CssSafe.j0] at H
      by_cases c7 : x12_2 = true
      · subst c7
        have H1 : ((muslinlaw17_live.f kj2).bind fun t186 => (some t186)) = some r := by rw [if_pos rfl] at H; exact H
        clear H
        have H := H1
        clear H1
        replace H := Option.bind_eq_some_iff.mp H
        obtain ⟨t186, A80, H⟩ := H
        replace H : (some t186) = some r := H
        have A8 := Aside0.mk A80
        clear A80
        obtain rfl := Option.some.inj H
        go_wp2_with (first | ((with_reducible refine gate_callee (f := 10) rfl ?_); refine goesL_ (some 13) rfl rfl Tryd.func10 (by kernel_rfl) rfl #[] rfl (by (try simp only [List.map_toArray, List.map_cons, List.map_nil]); first | done | rfl | (simp only [List.length_drop, List.length_take]; rfl)) ?_; (with_reducible refine (muslinlaw17_live.calls kj2  t186 _ A8.out (NmAt.below HN.out (by repeat (first | (with_reducible first | exact HB.out | apply below_alloc | apply pw_below_drewN | apply below_drew1) | exact HB.out)))).mono ?_); rintro e w9 ⟨rfl, hb⟩; refine ⟨_, rfl, ?_⟩; have n0_ := Aside0.mk (below_step (by repeat (first | (with_reducible first | exact HB.out | apply below_alloc | apply pw_below_drewN | apply below_drew1) | exact HB.out)) hb); clear HB; have HB := n0_; clear n0_; (try clear hb); (try clear hb2); (try clear hk); (try clear hi)))
        go_ret
        exact ⟨by first | rfl | (simp [errW_none, errW_some] <;> rfl) | (simp [*, errW_none, errW_some] <;> rfl), by repeat (first | (with_reducible first | exact HB.out | apply below_alloc | apply pw_below_drewN | apply below_drew1) | exact HB.out)⟩
      · replace c7 := Bool.eq_false_iff.mpr c7
        subst c7
        have H1 : ((css_Safe.f a0 a1).bind fun t187 => ((muslinref17_Safe.f kj2 a0 a1).bind fun t188 => (if (t187 == t188) = true then ((muslinlaw17_live.f kj2).bind fun t189 => (some t189)) else (some false)))) = some r := by rw [if_neg (show ¬ (false = true) by decide)] at H; exact H
        clear H
        have H := H1
        clear H1
        replace H := Option.bind_eq_some_iff.mp H
        obtain ⟨t187, A100, H⟩ := H
        replace H : ((muslinref17_Safe.f kj2 a0 a1).bind fun t188 => (if (t187 == t188) = true then ((muslinlaw17_live.f kj2).bind fun t189 => (some t189)) else (some false))) = some r := H
        have A10 := Aside0.mk A100
        clear A100
        replace H := Option.bind_eq_some_iff.mp H
        obtain ⟨t188, A110, H⟩ := H
        replace H : (if (t187 == t188) = true then ((muslinlaw17_live.f kj2).bind fun t189 => (some t189)) else (some false)) = some r := H
        have A11 := Aside0.mk A110
        clear A110
        by_cases c12 : (t187 == t188) = true
        · rw [if_pos c12] at H
          have c12b0 : (t187 == t188) = true := c12
          (try (have c12b1 : decide (t187 = t188) = true := by simpa using c12))
          (try (have c12b2 : (t187 == t188) = true := by simpa using c12))
          clear c12
          replace H := Option.bind_eq_some_iff.mp H
          obtain ⟨t189, A130, H⟩ := H
          replace H : (some t189) = some r := H
          have A13 := Aside0.mk A130
          clear A130
          obtain rfl := Option.some.inj H
          go_wp2_with (first | ((with_reducible refine gate_callee (f := 16) rfl ?_); refine goesL_ (some 16) rfl rfl Tryd.func16 (by kernel_rfl) rfl #[.string a0, .string a1] rfl (by (try simp only [List.map_toArray, List.map_cons, List.map_nil]); first | done | rfl | (simp only [List.length_drop, List.length_take]; rfl)) ?_; (with_reducible refine (css_Safe.calls a0 a1 t187 _ A10.out (NmAt.below HN.out (by repeat (first | (with_reducible first | exact HB.out | apply below_alloc | apply pw_below_drewN | apply below_drew1) | exact HB.out)))).mono ?_); rintro e w14 ⟨rfl, hb⟩; refine ⟨_, rfl, ?_⟩; have n0_ := Aside0.mk (below_step (by repeat (first | (with_reducible first | exact HB.out | apply below_alloc | apply pw_below_drewN | apply below_drew1) | exact HB.out)) hb); clear HB; have HB := n0_; clear n0_; (try clear hb); (try clear hb2); (try clear hk); (try clear hi)) | ((with_reducible refine gate_callee (f := 17) rfl ?_); refine goesL_ (some 19) rfl rfl Tryd.func17 (by kernel_rfl) rfl #[.string a0, .string a1] rfl (by (try simp only [List.map_toArray, List.map_cons, List.map_nil]); first | done | rfl | (simp only [List.length_drop, List.length_take]; rfl)) ?_; (with_reducible refine (muslinref17_Safe.calls kj2 a0 a1 t188 _ A11.out).mono ?_); rintro e w' ⟨rfl, ⟨nd, rfl⟩⟩; refine ⟨_, rfl, ?_⟩) | (go_at_call 10; (with_reducible refine (muslinlaw17_live.calls kj2  t189 _ A13.out (NmAt.below HN.out (by repeat (first | (with_reducible first | exact HB.out | apply below_alloc | apply pw_below_drewN | apply below_drew1) | exact HB.out)))).mono ?_); rintro e w15 ⟨rfl, hb⟩; have n0_ := Aside0.mk (below_step (by repeat (first | (with_reducible first | exact HB.out | apply below_alloc | apply pw_below_drewN | apply below_drew1) | exact HB.out)) hb); clear HB; have HB := n0_; clear n0_; (try clear hb); (try clear hb2); (try clear hk); (try clear hi)))
          go_ret
          exact ⟨by first | rfl | (simp [errW_none, errW_some] <;> rfl) | (simp [*, errW_none, errW_some] <;> rfl), by repeat (first | (with_reducible first | exact HB.out | apply below_alloc | apply pw_below_drewN | apply below_drew1) | exact HB.out)⟩
        · rw [if_neg c12] at H
          have c12b0 : (t187 == t188) = false := by simpa using c12
          (try (have c12b1 : decide (t187 = t188) = false := by simpa using c12))
          (try (have c12b2 : (t187 == t188) = false := by simpa using c12))
          (try (have c12b3 : ¬ (t187 = t188) := by simpa using c12))
          clear c12
          obtain rfl := Option.some.inj H
          go_wp2_with (first | ((with_reducible refine gate_callee (f := 16) rfl ?_); refine goesL_ (some 16) rfl rfl Tryd.func16 (by kernel_rfl) rfl #[.string a0, .string a1] rfl (by (try simp only [List.map_toArray, List.map_cons, List.map_nil]); first | done | rfl | (simp only [List.length_drop, List.length_take]; rfl)) ?_; (with_reducible refine (css_Safe.calls a0 a1 t187 _ A10.out (NmAt.below HN.out (by repeat (first | (with_reducible first | exact HB.out | apply below_alloc | apply pw_below_drewN | apply below_drew1) | exact HB.out)))).mono ?_); rintro e w16 ⟨rfl, hb⟩; refine ⟨_, rfl, ?_⟩; have n0_ := Aside0.mk (below_step (by repeat (first | (with_reducible first | exact HB.out | apply below_alloc | apply pw_below_drewN | apply below_drew1) | exact HB.out)) hb); clear HB; have HB := n0_; clear n0_; (try clear hb); (try clear hb2); (try clear hk); (try clear hi)) | ((with_reducible refine gate_callee (f := 17) rfl ?_); refine goesL_ (some 19) rfl rfl Tryd.func17 (by kernel_rfl) rfl #[.string a0, .string a1] rfl (by (try simp only [List.map_toArray, List.map_cons, List.map_nil]); first | done | rfl | (simp only [List.length_drop, List.length_take]; rfl)) ?_; (with_reducible refine (muslinref17_Safe.calls kj2 a0 a1 t188 _ A11.out).mono ?_); rintro e w' ⟨rfl, ⟨nd, rfl⟩⟩; refine ⟨_, rfl, ?_⟩))
          go_ret
          exact ⟨by first | rfl | (simp [errW_none, errW_some] <;> rfl) | (simp [*, errW_none, errW_some] <;> rfl), by repeat (first | (with_reducible first | exact HB.out | apply below_alloc | apply pw_below_drewN | apply below_drew1) | exact HB.out)⟩

/-- THE ONE PURE STATEMENT of muslinlaw17_CssSafe: yours. -/
def muslinlaw17_CssSafe.Pure : Prop := ∀ (a0 : ByteArray) (a1 : ByteArray), a0.size ≤ 140737488351232 → a1.size ≤ 140737488351232 → ∃ k, muslinlaw17_CssSafe.f k a0 a1 = some true
theorem muslinlaw17_CssSafe.walk (P : muslinlaw17_CssSafe.Pure) (a0 : ByteArray) (a1 : ByteArray) (w : World) (w0 : a0.size ≤ 140737488351232) (w1 : a1.size ≤ 140737488351232) (hN : NmAt w) :
    Calls Tryd.prog 4 #[.string a0, .string a1] w fun e w' => e = .returned (.bool true) ∧ Below w.heap.size w w' := by
  obtain ⟨k, h⟩ := P a0 a1 w0 w1
  refine (muslinlaw17_CssSafe.calls k a0 a1 true w h hN).mono ?_
  rintro e w' ⟨rfl, hd⟩
  exact ⟨rfl, hd⟩

end Go.Proofs.YtollfaphadcnnaaDoor.Pr
