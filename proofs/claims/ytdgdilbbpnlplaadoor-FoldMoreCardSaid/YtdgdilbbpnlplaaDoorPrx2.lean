/- Written by a program of this session (printa.py), with functions proved by hand counted as printed; Lean checks it. -/
import Derived.Test.YtdgdilbbpnlplaaDoorPrx0
namespace Go.Proofs.YtdgdilbbpnlplaaDoor.Pr
open Go.RowKit Go.Proofs.YtdgdilbbpnlplaaDoorW.PrintWords Go.Proofs.YtdgdilbbpnlplaaDoorW.PrintLast Go.Proofs.YtdgdilbbpnlplaaDoorW.PrintMore
attribute [local go_sem] max2_int min2_int max_two min_two max_three min_three max_four min_four   -- for this text's walks alone
set_option linter.unusedVariables false
set_option linter.unusedSimpArgs false

/-! ### muslinref14_walk: function 19 -/
mutual
def muslinref14_walk.j0 : Nat → List (S32) → Int → Bool → Option (Int)
  | 0, _, _, _ => none
  | k + 1, x0, x1, x17 => if x17 = true then (some 61) else (muslinref14_walk.l0 k x0 x1 0 0)
def muslinref14_walk.l0 : Nat → List (S32) → Int → Int → Int → Option (Int)
  | 0, _, _, _, _ => none
  | k + 1, x0, x1, x5, x6 => if x6 < (x0.length : Int) then (muslinref14_walk.j2 k x0 x1 x5 x6 (decide (x5 ≤ 60))) else (muslinref14_walk.j2 k x0 x1 x5 x6 false)
def muslinref14_walk.j2 : Nat → List (S32) → Int → Int → Int → Bool → Option (Int)
  | 0, _, _, _, _, _ => none
  | k + 1, x0, x1, x5, x6, x25 => if x25 = true then (if 0 ≤ x6 then (if x6 < (x0.length : Int) then (if (((rd_T32 x0 x6).f0).size : Int) > 300 then (muslinref14_walk.j3 k x0 x1 x5 x6 true) else (if (((rd_T32 x0 x6).f2).size : Int) > 300 then (muslinref14_walk.j3 k x0 x1 x5 x6 true) else (muslinref14_walk.j3 k x0 x1 x5 x6 (decide ((((rd_T32 x0 x6).f1).length : Int) > 40))))) else (none)) else (none)) else (some x5)
def muslinref14_walk.j3 : Nat → List (S32) → Int → Int → Int → Bool → Option (Int)
  | 0, _, _, _, _, _ => none
  | k + 1, x0, x1, x5, x6, x52 => if x52 = true then (some 61) else (muslinref14_walk.l1 k x0 x1 x5 x6 0)
def muslinref14_walk.l1 : Nat → List (S32) → Int → Int → Int → Int → Option (Int)
  | 0, _, _, _, _, _ => none
  | k + 1, x0, x1, x5, x6, x7 => if 0 ≤ x6 then (if x6 < (x0.length : Int) then (if x7 < (((rd_T32 x0 x6).f1).length : Int) then (if 0 ≤ x7 then (if (((rd_T41 ((rd_T32 x0 x6).f1) x7).f0).size : Int) > 300 then (some 61) else (if (((rd_T41 ((rd_T32 x0 x6).f1) x7).f1).size : Int) > 300 then (some 61) else (muslinref14_walk.l1 k x0 x1 x5 x6 (wrap64 (x7 + 1))))) else (none)) else ((muslinref14_walk.f k ((rd_T32 x0 x6).f3) (wrap64 (x1 - 1))).bind fun t110 => (muslinref14_walk.l0 k x0 x1 (wrap64 ((wrap64 (x5 + 1)) + t110)) (wrap64 (x6 + 1))))) else (none)) else (none)
def muslinref14_walk.f : Nat → List (S32) → Int → Option (Int)
  | 0, _, _ => none
  | k + 1, l0, a1 => if (l0.length : Int) = 0 then (some 0) else (if a1 = 0 then (muslinref14_walk.j0 k l0 a1 true) else (muslinref14_walk.j0 k l0 a1 (decide ((l0.length : Int) > 60))))
end
theorem muslinref14_walk.mono_l : ∀ k, (∀ y0 y1, LeO (muslinref14_walk.f k y0 y1) (muslinref14_walk.f (k + 1) y0 y1)) ∧ (∀ y0 y1 y2, LeO (muslinref14_walk.j0 k y0 y1 y2) (muslinref14_walk.j0 (k + 1) y0 y1 y2)) ∧ (∀ y0 y1 y2 y3, LeO (muslinref14_walk.l0 k y0 y1 y2 y3) (muslinref14_walk.l0 (k + 1) y0 y1 y2 y3)) ∧ (∀ y0 y1 y2 y3 y4, LeO (muslinref14_walk.j2 k y0 y1 y2 y3 y4) (muslinref14_walk.j2 (k + 1) y0 y1 y2 y3 y4)) ∧ (∀ y0 y1 y2 y3 y4, LeO (muslinref14_walk.j3 k y0 y1 y2 y3 y4) (muslinref14_walk.j3 (k + 1) y0 y1 y2 y3 y4)) ∧ (∀ y0 y1 y2 y3 y4, LeO (muslinref14_walk.l1 k y0 y1 y2 y3 y4) (muslinref14_walk.l1 (k + 1) y0 y1 y2 y3 y4))
  | 0 => ⟨fun _ _ r h => by simp [muslinref14_walk.f] at h, fun _ _ _ r h => by simp [muslinref14_walk.j0] at h, fun _ _ _ _ r h => by simp [muslinref14_walk.l0] at h, fun _ _ _ _ _ r h => by simp [muslinref14_walk.j2] at h, fun _ _ _ _ _ r h => by simp [muslinref14_walk.j3] at h, fun _ _ _ _ _ r h => by simp [muslinref14_walk.l1] at h⟩
  | k + 1 => by
    obtain ⟨ih0, ih1, ih2, ih3, ih4, ih5⟩ := muslinref14_walk.mono_l k
    refine ⟨?_, ?_, ?_, ?_, ?_, ?_⟩
    · intro y0 y1
      unfold muslinref14_walk.f
      repeat' first
      | (with_reducible exact ih0 _ _)
      | (with_reducible exact ih1 _ _ _)
      | (with_reducible exact ih2 _ _ _ _)
      | (with_reducible exact ih3 _ _ _ _ _)
      | (with_reducible exact ih4 _ _ _ _ _)
      | (with_reducible exact ih5 _ _ _ _ _)
      | (with_reducible exact LeO.refl _)
      | (with_reducible exact LeO.none _)
      | (with_reducible refine LeO.ite ?_ ?_)
      | (with_reducible refine LeO.bind ?_ (fun _ => ?_))
      | exact ih0 _ _
      | exact ih1 _ _ _
      | exact ih2 _ _ _ _
      | exact ih3 _ _ _ _ _
      | exact ih4 _ _ _ _ _
      | exact ih5 _ _ _ _ _
      | exact LeO.none _
      | refine LeO.ite ?_ ?_
      | refine LeO.bind ?_ (fun _ => ?_)
    · intro y0 y1 y2
      unfold muslinref14_walk.j0
      repeat' first
      | (with_reducible exact ih0 _ _)
      | (with_reducible exact ih1 _ _ _)
      | (with_reducible exact ih2 _ _ _ _)
      | (with_reducible exact ih3 _ _ _ _ _)
      | (with_reducible exact ih4 _ _ _ _ _)
      | (with_reducible exact ih5 _ _ _ _ _)
      | (with_reducible exact LeO.refl _)
      | (with_reducible exact LeO.none _)
      | (with_reducible refine LeO.ite ?_ ?_)
      | (with_reducible refine LeO.bind ?_ (fun _ => ?_))
      | exact ih0 _ _
      | exact ih1 _ _ _
      | exact ih2 _ _ _ _
      | exact ih3 _ _ _ _ _
      | exact ih4 _ _ _ _ _
      | exact ih5 _ _ _ _ _
      | exact LeO.none _
      | refine LeO.ite ?_ ?_
      | refine LeO.bind ?_ (fun _ => ?_)
    · intro y0 y1 y2 y3
      unfold muslinref14_walk.l0
      repeat' first
      | (with_reducible exact ih0 _ _)
      | (with_reducible exact ih1 _ _ _)
      | (with_reducible exact ih2 _ _ _ _)
      | (with_reducible exact ih3 _ _ _ _ _)
      | (with_reducible exact ih4 _ _ _ _ _)
      | (with_reducible exact ih5 _ _ _ _ _)
      | (with_reducible exact LeO.refl _)
      | (with_reducible exact LeO.none _)
      | (with_reducible refine LeO.ite ?_ ?_)
      | (with_reducible refine LeO.bind ?_ (fun _ => ?_))
      | exact ih0 _ _
      | exact ih1 _ _ _
      | exact ih2 _ _ _ _
      | exact ih3 _ _ _ _ _
      | exact ih4 _ _ _ _ _
      | exact ih5 _ _ _ _ _
      | exact LeO.none _
      | refine LeO.ite ?_ ?_
      | refine LeO.bind ?_ (fun _ => ?_)
    · intro y0 y1 y2 y3 y4
      unfold muslinref14_walk.j2
      repeat' first
      | (with_reducible exact ih0 _ _)
      | (with_reducible exact ih1 _ _ _)
      | (with_reducible exact ih2 _ _ _ _)
      | (with_reducible exact ih3 _ _ _ _ _)
      | (with_reducible exact ih4 _ _ _ _ _)
      | (with_reducible exact ih5 _ _ _ _ _)
      | (with_reducible exact LeO.refl _)
      | (with_reducible exact LeO.none _)
      | (with_reducible refine LeO.ite ?_ ?_)
      | (with_reducible refine LeO.bind ?_ (fun _ => ?_))
      | exact ih0 _ _
      | exact ih1 _ _ _
      | exact ih2 _ _ _ _
      | exact ih3 _ _ _ _ _
      | exact ih4 _ _ _ _ _
      | exact ih5 _ _ _ _ _
      | exact LeO.none _
      | refine LeO.ite ?_ ?_
      | refine LeO.bind ?_ (fun _ => ?_)
    · intro y0 y1 y2 y3 y4
      unfold muslinref14_walk.j3
      repeat' first
      | (with_reducible exact ih0 _ _)
      | (with_reducible exact ih1 _ _ _)
      | (with_reducible exact ih2 _ _ _ _)
      | (with_reducible exact ih3 _ _ _ _ _)
      | (with_reducible exact ih4 _ _ _ _ _)
      | (with_reducible exact ih5 _ _ _ _ _)
      | (with_reducible exact LeO.refl _)
      | (with_reducible exact LeO.none _)
      | (with_reducible refine LeO.ite ?_ ?_)
      | (with_reducible refine LeO.bind ?_ (fun _ => ?_))
      | exact ih0 _ _
      | exact ih1 _ _ _
      | exact ih2 _ _ _ _
      | exact ih3 _ _ _ _ _
      | exact ih4 _ _ _ _ _
      | exact ih5 _ _ _ _ _
      | exact LeO.none _
      | refine LeO.ite ?_ ?_
      | refine LeO.bind ?_ (fun _ => ?_)
    · intro y0 y1 y2 y3 y4
      unfold muslinref14_walk.l1
      repeat' first
      | (with_reducible exact ih0 _ _)
      | (with_reducible exact ih1 _ _ _)
      | (with_reducible exact ih2 _ _ _ _)
      | (with_reducible exact ih3 _ _ _ _ _)
      | (with_reducible exact ih4 _ _ _ _ _)
      | (with_reducible exact ih5 _ _ _ _ _)
      | (with_reducible exact LeO.refl _)
      | (with_reducible exact LeO.none _)
      | (with_reducible refine LeO.ite ?_ ?_)
      | (with_reducible refine LeO.bind ?_ (fun _ => ?_))
      | exact ih0 _ _
      | exact ih1 _ _ _
      | exact ih2 _ _ _ _
      | exact ih3 _ _ _ _ _
      | exact ih4 _ _ _ _ _
      | exact ih5 _ _ _ _ _
      | exact LeO.none _
      | refine LeO.ite ?_ ?_
      | refine LeO.bind ?_ (fun _ => ?_)
theorem muslinref14_walk.mono : ∀ a0 a1 k, LeO (muslinref14_walk.f k a0 a1) (muslinref14_walk.f (k + 1) a0 a1) := by
  intro a0 a1 k
  obtain ⟨ih0, ih1, ih2, ih3, ih4, ih5⟩ := muslinref14_walk.mono_l k
  exact ih0 a0 a1
set_option maxHeartbeats 8000000 in
set_option maxRecDepth 100000 in
theorem muslinref14_walk.calls (k : Nat) : ∀ (A0 : Option Addr) (c0 : Nat) (l0 : List (S32)) (a1 : Int) (r : Int) (w : World) (hr0 : Kd.C k32 w A0 l0.length l0) (hc0 : l0.length ≤ c0) (h : muslinref14_walk.f k l0 a1 = some r),
    Calls Tryd.prog 19 #[.slice A0 l0.length c0, .int .i64 a1] w fun e w' => e = .returned (.int .i64 r) ∧ Drawn0 w w' := by
  induction k using Nat.strongRecOn with
  | _ k ih =>
  intro A0 c0 l0 a1 r w hr0 hc0 h
  cases k with
  | zero => exact absurd h (by simp [muslinref14_walk.f])
  | succ k =>
  simp only [muslinref14_walk.f] at h
  have HR0 := Aside0.mk hr0
  have HC0 := Aside0.mk hc0
  clear hr0 hc0
  have H : (if (l0.length : Int) = 0 then (some 0) else (if a1 = 0 then (muslinref14_walk.j0 k l0 a1 true) else (muslinref14_walk.j0 k l0 a1 (decide ((l0.length : Int) > 60))))) = some r := h
  clear h
  by_cases c3 : (l0.length : Int) = 0
  · rw [if_pos c3] at H
    have c3b0 : ((l0.length : Int) == 0) = true := beq_iff_eq.mpr c3
    have c3b1 : ((l0.length : Int) != 0) = false := bne_eq_false_iff_eq.mpr c3
    clear c3
    obtain rfl := Option.some.inj H
    go_enter Tryd.func19, Tryd.ntmps19
    go_wp2
    go_ret
    exact ⟨by first | rfl | (simp; done) | (simp [*]; done), by repeat (first | exact Drawn0.refl _ | apply Drawn0.step)⟩
  · rw [if_neg c3] at H
    have c3b0 : ((l0.length : Int) == 0) = false := beq_eq_false_iff_ne.mpr c3
    have c3b1 : ((l0.length : Int) != 0) = true := bne_iff_ne.mpr c3
    have c3b2 : ¬ (l0 = []) := fun h_ => c3 (by rw [h_]; rfl)
    have HC4 := Aside0.mk H
    clear H
    go_enter Tryd.func19, Tryd.ntmps19
    go_upto_region 3 with (fail)
    go_cut [17] (fun v17 wc => ∃ (kq : Nat) (x17_3 : Bool), v17 = .bool x17_3 ∧ Aside0 (muslinref14_walk.j0 kq l0 a1 x17_3 = some r) ∧ Aside0 (kq ≤ k) ∧ Drawn0 w wc)
    case first =>
      have H := HC4.out
      clear HC4
      by_cases c5 : a1 = 0
      · rw [if_pos c5] at H
        have c5b0 : (a1 == 0) = true := beq_iff_eq.mpr c5
        have c5b1 : (a1 != 0) = false := bne_eq_false_iff_eq.mpr c5
        clear c5
        (first | rw [c5b0] | (simp only [i64_w, i32_w]; rw [c5b0]) | skip)
        have H' := Aside0.mk H
        clear H
        go_wp2
        go_meet
        case rel => exact ⟨_, (true), (by first | rfl | (simp; done) | (simp [*]; done)), H', ⟨by first | omega | exact Nat.le_refl _⟩, by repeat (first | exact Drawn0.refl _ | apply Drawn0.step)⟩
      · rw [if_neg c5] at H
        have c5b0 : (a1 == 0) = false := beq_eq_false_iff_ne.mpr c5
        have c5b1 : (a1 != 0) = true := bne_iff_ne.mpr c5
        (first | rw [c5b0] | (simp only [i64_w, i32_w]; rw [c5b0]) | skip)
        have H' := Aside0.mk H
        clear H
        go_wp2
        go_meet
        case rel => exact ⟨_, (decide ((l0.length : Int) > 60)), (by first | rfl | (simp; done) | (simp [*]; done)), H', ⟨by first | omega | exact Nat.le_refl _⟩, by repeat (first | exact Drawn0.refl _ | apply Drawn0.step)⟩
    case rest =>
      clear HC4
      try clear c1
      try clear p2
      try clear c3
      try clear c3b0
      try clear c3b1
      try clear c3b2
      try clear c5
      try clear c5b0
      try clear c5b1
      obtain ⟨kq, x17_3, rfl, HA, HJ3, ⟨mc3, rfl⟩⟩ := hcut
      cases kq with
      | zero => exact absurd HA.out (by simp [muslinref14_walk.j0])
      | succ kj3 =>
        have H := HA.out
        clear HA
        simp only [muslinref14_walk.j0] at H
        by_cases c6 : x17_3 = true
        · subst c6
          have H1 : (some 61) = some r := by rw [if_pos rfl] at H; exact H
          clear H
          have H := H1
          clear H1
          obtain rfl := Option.some.inj H
          go_wp2
          go_ret
          exact ⟨by first | rfl | (simp; done) | (simp [*]; done), by repeat (first | exact Drawn0.refl _ | apply Drawn0.step)⟩
        · replace c6 := Bool.eq_false_iff.mpr c6
          subst c6
          have H1 : (muslinref14_walk.l0 kj3 l0 a1 0 0) = some r := by rw [if_neg (show ¬ (false = true) by decide)] at H; exact H
          clear H
          have H := H1
          clear H1
          have H' := Aside0.mk H
          clear H
          go_wp2
          go_loopg [5, 6] kj3 (fun kq v5 v6 w' => ∃ (x5_2 : Int) (x6_2 : Int), v5 = .int .i64 x5_2 ∧ v6 = .int .i64 x6_2 ∧ Aside0 (muslinref14_walk.l0 kq l0 a1 x5_2 x6_2 = some r) ∧ Aside0 (kq ≤ kj3) ∧ Drawn0 w w')
          case atStart => exact ⟨(0), (0), (by first | rfl | (simp; done) | (simp [*]; done)), (by first | rfl | (simp; done) | (simp [*]; done)), H', ⟨Nat.le_refl _⟩, by repeat (first | exact Drawn0.refl _ | apply Drawn0.step)⟩
          case round =>
            clear H'
            try clear c1
            try clear p2
            try clear c3
            try clear c3b0
            try clear c3b1
            try clear c3b2
            try clear c5
            try clear c5b0
            try clear c5b1
            try clear c6
            try clear p2
            obtain ⟨x5_2, x6_2, rfl, rfl, HA, HK2, ⟨m2, rfl⟩⟩ := hrel
            cases gk with
            | zero => exact absurd HA.out (by simp [muslinref14_walk.l0])
            | succ k2 =>
              have H := HA.out
              clear HA
              simp only [muslinref14_walk.l0] at H
              have HC7 := Aside0.mk H
              clear H
              go_upto_region 7 with (fail)
              go_cut [25] (fun v25 wc => ∃ (kq : Nat) (x25_6 : Bool), v25 = .bool x25_6 ∧ Aside0 (muslinref14_walk.j2 kq l0 a1 x5_2 x6_2 x25_6 = some r) ∧ Aside0 (kq ≤ k2) ∧ Drawn0 w wc)
              case first =>
                have H := HC7.out
                clear HC7
                by_cases c8 : x6_2 < (l0.length : Int)
                · rw [if_pos c8] at H
                  have c8b0 : decide (x6_2 < (l0.length : Int)) = true := decide_eq_true c8
                  clear c8
                  (first | rw [c8b0] | (simp only [i64_w, i32_w]; rw [c8b0]) | skip)
                  have H' := Aside0.mk H
                  clear H
                  go_wp2
                  go_meet
                  case rel => exact ⟨_, (decide (x5_2 ≤ 60)), (by first | rfl | (simp; done) | (simp [*]; done)), H', ⟨by have := HJ3.out; have := HK2.out; first | omega | exact Nat.le_refl _⟩, by repeat (first | exact Drawn0.refl _ | apply Drawn0.step)⟩
                · rw [if_neg c8] at H
                  have c8b0 : decide (x6_2 < (l0.length : Int)) = false := decide_eq_false c8
                  clear c8
                  (first | rw [c8b0] | (simp only [i64_w, i32_w]; rw [c8b0]) | skip)
                  have H' := Aside0.mk H
                  clear H
                  go_wp2
                  go_meet
                  case rel => exact ⟨_, (false), (by first | rfl | (simp; done) | (simp [*]; done)), H', ⟨by have := HJ3.out; have := HK2.out; first | omega | exact Nat.le_refl _⟩, by repeat (first | exact Drawn0.refl _ | apply Drawn0.step)⟩
              case rest =>
                clear HC7
                try clear c1
                try clear p2
                try clear c3
                try clear c3b0
                try clear c3b1
                try clear c3b2
                try clear c5
                try clear c5b0
                try clear c5b1
                try clear c6
                try clear c8
                try clear c8b0
                try clear p2
                obtain ⟨kq, x25_6, rfl, HA, HJ6, ⟨mc6, rfl⟩⟩ := hcut
                cases kq with
                | zero => exact absurd HA.out (by simp [muslinref14_walk.j2])
                | succ kj6 =>
                  have H := HA.out
                  clear HA
                  simp only [muslinref14_walk.j2] at H
                  by_cases c9 : x25_6 = true
                  · subst c9
                    have H1 : (if 0 ≤ x6_2 then (if x6_2 < (l0.length : Int) then (if (((rd_T32 l0 x6_2).f0).size : Int) > 300 then (muslinref14_walk.j3 kj6 l0 a1 x5_2 x6_2 true) else (if (((rd_T32 l0 x6_2).f2).size : Int) > 300 then (muslinref14_walk.j3 kj6 l0 a1 x5_2 x6_2 true) else (muslinref14_walk.j3 kj6 l0 a1 x5_2 x6_2 (decide ((((rd_T32 l0 x6_2).f1).length : Int) > 40))))) else (none)) else (none)) = some r := by rw [if_pos rfl] at H; exact H
                    clear H
                    have H := H1
                    clear H1
                    have HC10 := Aside0.mk H
                    clear H
                    go_upto_region 9 with (fail)
                    go_cut [52] (fun v52 wc => ∃ (kq : Nat) (x52_9 : Bool), v52 = .bool x52_9 ∧ Aside0 (muslinref14_walk.j3 kq l0 a1 x5_2 x6_2 x52_9 = some r) ∧ Aside0 (kq ≤ kj6) ∧ Drawn0 w wc)
                    case first =>
                      have H := HC10.out
                      clear HC10
                      by_cases c11 : 0 ≤ x6_2
                      · rw [if_pos c11] at H
                        have c11b0 : decide (0 ≤ x6_2) = true := decide_eq_true c11
                        clear c11
                        (first | rw [c11b0] | (simp only [i64_w, i32_w]; rw [c11b0]) | skip)
                        by_cases c12 : x6_2 < (l0.length : Int)
                        · rw [if_pos c12] at H
                          have c12b0 : decide (x6_2 < (l0.length : Int)) = true := decide_eq_true c12
                          clear c12
                          by_cases c13 : (((rd_T32 l0 x6_2).f0).size : Int) > 300
                          · rw [if_pos c13] at H
                            have c13b0 : decide (300 < (((rd_T32 l0 x6_2).f0).size : Int)) = true := decide_eq_true c13
                            have c13b1 : decide (300 < ((rd_T32 l0 x6_2).f0).size) = true := decide_eq_true (by omega)
                            clear c13
                            have H' := Aside0.mk H
                            clear H
                            have p101 : 0 ≤ (x6_2 : Int) := of_decide_eq_true (by first | (with_reducible assumption) | assumption)
                            have q101 : x6_2 < (l0.length : Int) := of_decide_eq_true (by first | (with_reducible assumption) | assumption)
                            obtain ⟨ad101, A101_1, c101_1, A101_3, c101_3, e101, hx101_0, hx101_1, hx101_2, hx101_3, hl101_1, hi101_1, hl101_3, hi101_3⟩ := at_T32 HR0.out x6_2 p101 q101
                            cases e101
                            have HR101_1 := Aside0.mk hi101_1
                            have HC101_1 := Aside0.mk hl101_1
                            clear hi101_1 hl101_1
                            have HR101_3 := Aside0.mk hi101_3
                            have HC101_3 := Aside0.mk hl101_3
                            clear hi101_3 hl101_3
                            replace p101 := eq_true p101
                            replace q101 := eq_true q101
                            go_wp2
                            go_meet
                            case rel => exact ⟨_, (true), (by first | rfl | (simp; done) | (simp [*]; done)), H', ⟨by have := HJ3.out; have := HK2.out; have := HJ6.out; first | omega | exact Nat.le_refl _⟩, by repeat (first | exact Drawn0.refl _ | apply Drawn0.step)⟩
                          · rw [if_neg c13] at H
                            have c13b0 : decide (300 < (((rd_T32 l0 x6_2).f0).size : Int)) = false := decide_eq_false c13
                            have c13b1 : decide (300 < ((rd_T32 l0 x6_2).f0).size) = false := decide_eq_false (by omega)
                            clear c13
                            by_cases c14 : (((rd_T32 l0 x6_2).f2).size : Int) > 300
                            · rw [if_pos c14] at H
                              have c14b0 : decide (300 < (((rd_T32 l0 x6_2).f2).size : Int)) = true := decide_eq_true c14
                              have c14b1 : decide (300 < ((rd_T32 l0 x6_2).f2).size) = true := decide_eq_true (by omega)
                              clear c14
                              have H' := Aside0.mk H
                              clear H
                              have p101 : 0 ≤ (x6_2 : Int) := of_decide_eq_true (by first | (with_reducible assumption) | assumption)
                              have q101 : x6_2 < (l0.length : Int) := of_decide_eq_true (by first | (with_reducible assumption) | assumption)
                              obtain ⟨ad101, A101_1, c101_1, A101_3, c101_3, e101, hx101_0, hx101_1, hx101_2, hx101_3, hl101_1, hi101_1, hl101_3, hi101_3⟩ := at_T32 HR0.out x6_2 p101 q101
                              cases e101
                              have HR101_1 := Aside0.mk hi101_1
                              have HC101_1 := Aside0.mk hl101_1
                              clear hi101_1 hl101_1
                              have HR101_3 := Aside0.mk hi101_3
                              have HC101_3 := Aside0.mk hl101_3
                              clear hi101_3 hl101_3
                              replace p101 := eq_true p101
                              replace q101 := eq_true q101
                              have p102 : 0 ≤ (x6_2 : Int) := of_decide_eq_true (by first | (with_reducible assumption) | assumption)
                              have q102 : x6_2 < (l0.length : Int) := of_decide_eq_true (by first | (with_reducible assumption) | assumption)
                              obtain ⟨ad102, A102_1, c102_1, A102_3, c102_3, e102, hx102_0, hx102_1, hx102_2, hx102_3, hl102_1, hi102_1, hl102_3, hi102_3⟩ := at_T32 HR0.out x6_2 p102 q102
                              obtain rfl : ad101 = ad102 := (by injection e102)
                              have HR102_1 := Aside0.mk hi102_1
                              have HC102_1 := Aside0.mk hl102_1
                              clear hi102_1 hl102_1
                              have HR102_3 := Aside0.mk hi102_3
                              have HC102_3 := Aside0.mk hl102_3
                              clear hi102_3 hl102_3
                              replace p102 := eq_true p102
                              replace q102 := eq_true q102
                              have ea_ := Option.some.inj (hx101_1.symm.trans hx102_1)
                              injection ea_ with ea_ en_ ec_
                              subst ea_
                              subst ec_
                              clear en_
                              have ea_ := Option.some.inj (hx101_3.symm.trans hx102_3)
                              injection ea_ with ea_ en_ ec_
                              subst ea_
                              subst ec_
                              clear en_
                              go_wp2
                              go_meet
                              case rel => exact ⟨_, (true), (by first | rfl | (simp; done) | (simp [*]; done)), H', ⟨by have := HJ3.out; have := HK2.out; have := HJ6.out; first | omega | exact Nat.le_refl _⟩, by repeat (first | exact Drawn0.refl _ | apply Drawn0.step)⟩
                            · rw [if_neg c14] at H
                              have c14b0 : decide (300 < (((rd_T32 l0 x6_2).f2).size : Int)) = false := decide_eq_false c14
                              have c14b1 : decide (300 < ((rd_T32 l0 x6_2).f2).size) = false := decide_eq_false (by omega)
                              clear c14
                              have H' := Aside0.mk H
                              clear H
                              have p101 : 0 ≤ (x6_2 : Int) := of_decide_eq_true (by first | (with_reducible assumption) | assumption)
                              have q101 : x6_2 < (l0.length : Int) := of_decide_eq_true (by first | (with_reducible assumption) | assumption)
                              obtain ⟨ad101, A101_1, c101_1, A101_3, c101_3, e101, hx101_0, hx101_1, hx101_2, hx101_3, hl101_1, hi101_1, hl101_3, hi101_3⟩ := at_T32 HR0.out x6_2 p101 q101
                              cases e101
                              have HR101_1 := Aside0.mk hi101_1
                              have HC101_1 := Aside0.mk hl101_1
                              clear hi101_1 hl101_1
                              have HR101_3 := Aside0.mk hi101_3
                              have HC101_3 := Aside0.mk hl101_3
                              clear hi101_3 hl101_3
                              replace p101 := eq_true p101
                              replace q101 := eq_true q101
                              have p102 : 0 ≤ (x6_2 : Int) := of_decide_eq_true (by first | (with_reducible assumption) | assumption)
                              have q102 : x6_2 < (l0.length : Int) := of_decide_eq_true (by first | (with_reducible assumption) | assumption)
                              obtain ⟨ad102, A102_1, c102_1, A102_3, c102_3, e102, hx102_0, hx102_1, hx102_2, hx102_3, hl102_1, hi102_1, hl102_3, hi102_3⟩ := at_T32 HR0.out x6_2 p102 q102
                              obtain rfl : ad101 = ad102 := (by injection e102)
                              have HR102_1 := Aside0.mk hi102_1
                              have HC102_1 := Aside0.mk hl102_1
                              clear hi102_1 hl102_1
                              have HR102_3 := Aside0.mk hi102_3
                              have HC102_3 := Aside0.mk hl102_3
                              clear hi102_3 hl102_3
                              replace p102 := eq_true p102
                              replace q102 := eq_true q102
                              have ea_ := Option.some.inj (hx101_1.symm.trans hx102_1)
                              injection ea_ with ea_ en_ ec_
                              subst ea_
                              subst ec_
                              clear en_
                              have ea_ := Option.some.inj (hx101_3.symm.trans hx102_3)
                              injection ea_ with ea_ en_ ec_
                              subst ea_
                              subst ec_
                              clear en_
                              have p103 : 0 ≤ (x6_2 : Int) := of_decide_eq_true (by first | (with_reducible assumption) | assumption)
                              have q103 : x6_2 < (l0.length : Int) := of_decide_eq_true (by first | (with_reducible assumption) | assumption)
                              obtain ⟨ad103, A103_1, c103_1, A103_3, c103_3, e103, hx103_0, hx103_1, hx103_2, hx103_3, hl103_1, hi103_1, hl103_3, hi103_3⟩ := at_T32 HR0.out x6_2 p103 q103
                              obtain rfl : ad101 = ad103 := (by injection e103)
                              have HR103_1 := Aside0.mk hi103_1
                              have HC103_1 := Aside0.mk hl103_1
                              clear hi103_1 hl103_1
                              have HR103_3 := Aside0.mk hi103_3
                              have HC103_3 := Aside0.mk hl103_3
                              clear hi103_3 hl103_3
                              replace p103 := eq_true p103
                              replace q103 := eq_true q103
                              have ea_ := Option.some.inj (hx101_1.symm.trans hx103_1)
                              injection ea_ with ea_ en_ ec_
                              subst ea_
                              subst ec_
                              clear en_
                              have ea_ := Option.some.inj (hx101_3.symm.trans hx103_3)
                              injection ea_ with ea_ en_ ec_
                              subst ea_
                              subst ec_
                              clear en_
                              go_wp2
                              go_meet
                              case rel => exact ⟨_, (decide ((((rd_T32 l0 x6_2).f1).length : Int) > 40)), (by first | rfl | (simp; done) | (simp [*]; done)), H', ⟨by have := HJ3.out; have := HK2.out; have := HJ6.out; first | omega | exact Nat.le_refl _⟩, by repeat (first | exact Drawn0.refl _ | apply Drawn0.step)⟩
                        · rw [if_neg c12] at H
                          exact absurd H (by simp)
                      · rw [if_neg c11] at H
                        exact absurd H (by simp)
                    case rest =>
                      clear HC10
                      try clear c1
                      try clear p1
                      try clear q1
                      try clear hx1
                      try clear p2
                      try clear c3
                      try clear c3b0
                      try clear c3b1
                      try clear c3b2
                      try clear c5
                      try clear c5b0
                      try clear c5b1
                      try clear c6
                      try clear c8
                      try clear c8b0
                      try clear c9
                      try clear c10
                      try clear p10
                      try clear q10
                      try clear hx10
                      try clear c11
                      try clear c11b0
                      try clear c12
                      try clear c12b0
                      try clear c13
                      try clear c13b0
                      try clear c13b1
                      try clear c14
                      try clear c14b0
                      try clear c14b1
                      try clear hx101_0
                      try clear hx101_1
                      try clear hx101_2
                      try clear hx101_3
                      try clear hx102_0
                      try clear hx102_1
                      try clear hx102_2
                      try clear hx102_3
                      try clear hx103_0
                      try clear hx103_1
                      try clear hx103_2
                      try clear hx103_3
                      try clear p101
                      try clear p102
                      try clear p103
                      try clear p2
                      try clear q101
                      try clear q102
                      try clear q103
                      obtain ⟨kq, x52_9, rfl, HA, HJ9, ⟨mc9, rfl⟩⟩ := hcut
                      cases kq with
                      | zero => exact absurd HA.out (by simp [muslinref14_walk.j3])
                      | succ kj9 =>
                        have H := HA.out
                        clear HA
                        simp only [muslinref14_walk.j3] at H
                        by_cases c15 : x52_9 = true
                        · subst c15
                          have H1 : (some 61) = some r := by rw [if_pos rfl] at H; exact H
                          clear H
                          have H := H1
                          clear H1
                          obtain rfl := Option.some.inj H
                          go_wp2
                          go_ret
                          exact ⟨by first | rfl | (simp; done) | (simp [*]; done), by repeat (first | exact Drawn0.refl _ | apply Drawn0.step)⟩
                        · replace c15 := Bool.eq_false_iff.mpr c15
                          subst c15
                          have H1 : (muslinref14_walk.l1 kj9 l0 a1 x5_2 x6_2 0) = some r := by rw [if_neg (show ¬ (false = true) by decide)] at H; exact H
                          clear H
                          have H := H1
                          clear H1
                          have H' := Aside0.mk H
                          clear H
                          go_wp2
                          go_loopg [7] kj9 (fun kq v7 w' => ∃ (x7_5 : Int), v7 = .int .i64 x7_5 ∧ Aside0 (muslinref14_walk.l1 kq l0 a1 x5_2 x6_2 x7_5 = some r) ∧ Aside0 (kq ≤ kj9) ∧ Drawn0 w w')
                          case atStart => exact ⟨(0), (by first | rfl | (simp; done) | (simp [*]; done)), H', ⟨Nat.le_refl _⟩, by repeat (first | exact Drawn0.refl _ | apply Drawn0.step)⟩
                          case round =>
                            clear H'
                            try clear c1
                            try clear p1
                            try clear q1
                            try clear hx1
                            try clear p2
                            try clear c3
                            try clear c3b0
                            try clear c3b1
                            try clear c3b2
                            try clear c5
                            try clear c5b0
                            try clear c5b1
                            try clear c6
                            try clear c8
                            try clear c8b0
                            try clear c9
                            try clear c10
                            try clear p10
                            try clear q10
                            try clear hx10
                            try clear c11
                            try clear c11b0
                            try clear c12
                            try clear c12b0
                            try clear c13
                            try clear c13b0
                            try clear c13b1
                            try clear c14
                            try clear c14b0
                            try clear c14b1
                            try clear c15
                            try clear hx101_0
                            try clear hx101_1
                            try clear hx101_2
                            try clear hx101_3
                            try clear hx102_0
                            try clear hx102_1
                            try clear hx102_2
                            try clear hx102_3
                            try clear hx103_0
                            try clear hx103_1
                            try clear hx103_2
                            try clear hx103_3
                            try clear p1
                            try clear p10
                            try clear p101
                            try clear p102
                            try clear p103
                            try clear p2
                            try clear q1
                            try clear q10
                            try clear q101
                            try clear q102
                            try clear q103
                            obtain ⟨x7_5, rfl, HA, HK5, ⟨m5, rfl⟩⟩ := hrel
                            cases gk with
                            | zero => exact absurd HA.out (by simp [muslinref14_walk.l1])
                            | succ k5 =>
                              have H := HA.out
                              clear HA
                              simp only [muslinref14_walk.l1] at H
                              by_cases c16 : 0 ≤ x6_2
                              · rw [if_pos c16] at H
                                have c16b0 : decide (0 ≤ x6_2) = true := decide_eq_true c16
                                clear c16
                                by_cases c17 : x6_2 < (l0.length : Int)
                                · rw [if_pos c17] at H
                                  have c17b0 : decide (x6_2 < (l0.length : Int)) = true := decide_eq_true c17
                                  clear c17
                                  by_cases c18 : x7_5 < (((rd_T32 l0 x6_2).f1).length : Int)
                                  · rw [if_pos c18] at H
                                    have c18b0 : decide (x7_5 < (((rd_T32 l0 x6_2).f1).length : Int)) = true := decide_eq_true c18
                                    clear c18
                                    by_cases c19 : 0 ≤ x7_5
                                    · rw [if_pos c19] at H
                                      have c19b0 : decide (0 ≤ x7_5) = true := decide_eq_true c19
                                      clear c19
                                      by_cases c20 : (((rd_T41 ((rd_T32 l0 x6_2).f1) x7_5).f0).size : Int) > 300
                                      · rw [if_pos c20] at H
                                        have c20b0 : decide (300 < (((rd_T41 ((rd_T32 l0 x6_2).f1) x7_5).f0).size : Int)) = true := decide_eq_true c20
                                        have c20b1 : decide (300 < ((rd_T41 ((rd_T32 l0 x6_2).f1) x7_5).f0).size) = true := decide_eq_true (by omega)
                                        clear c20
                                        obtain rfl := Option.some.inj H
                                        have p104 : 0 ≤ (x6_2 : Int) := of_decide_eq_true (by first | (with_reducible assumption) | assumption)
                                        have q104 : x6_2 < (l0.length : Int) := of_decide_eq_true (by first | (with_reducible assumption) | assumption)
                                        obtain ⟨ad104, A104_1, c104_1, A104_3, c104_3, e104, hx104_0, hx104_1, hx104_2, hx104_3, hl104_1, hi104_1, hl104_3, hi104_3⟩ := at_T32 HR0.out x6_2 p104 q104
                                        cases e104
                                        have HR104_1 := Aside0.mk hi104_1
                                        have HC104_1 := Aside0.mk hl104_1
                                        clear hi104_1 hl104_1
                                        have HR104_3 := Aside0.mk hi104_3
                                        have HC104_3 := Aside0.mk hl104_3
                                        clear hi104_3 hl104_3
                                        replace p104 := eq_true p104
                                        replace q104 := eq_true q104
                                        have p105 : 0 ≤ (x6_2 : Int) := of_decide_eq_true (by first | (with_reducible assumption) | assumption)
                                        have q105 : x6_2 < (l0.length : Int) := of_decide_eq_true (by first | (with_reducible assumption) | assumption)
                                        obtain ⟨ad105, A105_1, c105_1, A105_3, c105_3, e105, hx105_0, hx105_1, hx105_2, hx105_3, hl105_1, hi105_1, hl105_3, hi105_3⟩ := at_T32 HR0.out x6_2 p105 q105
                                        obtain rfl : ad104 = ad105 := (by injection e105)
                                        have HR105_1 := Aside0.mk hi105_1
                                        have HC105_1 := Aside0.mk hl105_1
                                        clear hi105_1 hl105_1
                                        have HR105_3 := Aside0.mk hi105_3
                                        have HC105_3 := Aside0.mk hl105_3
                                        clear hi105_3 hl105_3
                                        replace p105 := eq_true p105
                                        replace q105 := eq_true q105
                                        have ea_ := Option.some.inj (hx104_1.symm.trans hx105_1)
                                        injection ea_ with ea_ en_ ec_
                                        subst ea_
                                        subst ec_
                                        clear en_
                                        have ea_ := Option.some.inj (hx104_3.symm.trans hx105_3)
                                        injection ea_ with ea_ en_ ec_
                                        subst ea_
                                        subst ec_
                                        clear en_
                                        have p106 : 0 ≤ (x7_5 : Int) := of_decide_eq_true (by first | (with_reducible assumption) | assumption)
                                        have q106 : x7_5 < (((rd_T32 l0 x6_2).f1).length : Int) := of_decide_eq_true (by first | (with_reducible assumption) | assumption)
                                        obtain ⟨ad106, e106, hx106_0, hx106_1⟩ := at_T41 HR105_1.out x7_5 p106 q106
                                        cases e106
                                        replace p106 := eq_true p106
                                        replace q106 := eq_true q106
                                        go_wp2
                                        go_ret
                                        exact ⟨by first | rfl | (simp; done) | (simp [*]; done), by repeat (first | exact Drawn0.refl _ | apply Drawn0.step)⟩
                                      · rw [if_neg c20] at H
                                        have c20b0 : decide (300 < (((rd_T41 ((rd_T32 l0 x6_2).f1) x7_5).f0).size : Int)) = false := decide_eq_false c20
                                        have c20b1 : decide (300 < ((rd_T41 ((rd_T32 l0 x6_2).f1) x7_5).f0).size) = false := decide_eq_false (by omega)
                                        clear c20
                                        by_cases c21 : (((rd_T41 ((rd_T32 l0 x6_2).f1) x7_5).f1).size : Int) > 300
                                        · rw [if_pos c21] at H
                                          have c21b0 : decide (300 < (((rd_T41 ((rd_T32 l0 x6_2).f1) x7_5).f1).size : Int)) = true := decide_eq_true c21
                                          have c21b1 : decide (300 < ((rd_T41 ((rd_T32 l0 x6_2).f1) x7_5).f1).size) = true := decide_eq_true (by omega)
                                          clear c21
                                          obtain rfl := Option.some.inj H
                                          have p104 : 0 ≤ (x6_2 : Int) := of_decide_eq_true (by first | (with_reducible assumption) | assumption)
                                          have q104 : x6_2 < (l0.length : Int) := of_decide_eq_true (by first | (with_reducible assumption) | assumption)
                                          obtain ⟨ad104, A104_1, c104_1, A104_3, c104_3, e104, hx104_0, hx104_1, hx104_2, hx104_3, hl104_1, hi104_1, hl104_3, hi104_3⟩ := at_T32 HR0.out x6_2 p104 q104
                                          cases e104
                                          have HR104_1 := Aside0.mk hi104_1
                                          have HC104_1 := Aside0.mk hl104_1
                                          clear hi104_1 hl104_1
                                          have HR104_3 := Aside0.mk hi104_3
                                          have HC104_3 := Aside0.mk hl104_3
                                          clear hi104_3 hl104_3
                                          replace p104 := eq_true p104
                                          replace q104 := eq_true q104
                                          have p105 : 0 ≤ (x6_2 : Int) := of_decide_eq_true (by first | (with_reducible assumption) | assumption)
                                          have q105 : x6_2 < (l0.length : Int) := of_decide_eq_true (by first | (with_reducible assumption) | assumption)
                                          obtain ⟨ad105, A105_1, c105_1, A105_3, c105_3, e105, hx105_0, hx105_1, hx105_2, hx105_3, hl105_1, hi105_1, hl105_3, hi105_3⟩ := at_T32 HR0.out x6_2 p105 q105
                                          obtain rfl : ad104 = ad105 := (by injection e105)
                                          have HR105_1 := Aside0.mk hi105_1
                                          have HC105_1 := Aside0.mk hl105_1
                                          clear hi105_1 hl105_1
                                          have HR105_3 := Aside0.mk hi105_3
                                          have HC105_3 := Aside0.mk hl105_3
                                          clear hi105_3 hl105_3
                                          replace p105 := eq_true p105
                                          replace q105 := eq_true q105
                                          have ea_ := Option.some.inj (hx104_1.symm.trans hx105_1)
                                          injection ea_ with ea_ en_ ec_
                                          subst ea_
                                          subst ec_
                                          clear en_
                                          have ea_ := Option.some.inj (hx104_3.symm.trans hx105_3)
                                          injection ea_ with ea_ en_ ec_
                                          subst ea_
                                          subst ec_
                                          clear en_
                                          have p106 : 0 ≤ (x7_5 : Int) := of_decide_eq_true (by first | (with_reducible assumption) | assumption)
                                          have q106 : x7_5 < (((rd_T32 l0 x6_2).f1).length : Int) := of_decide_eq_true (by first | (with_reducible assumption) | assumption)
                                          obtain ⟨ad106, e106, hx106_0, hx106_1⟩ := at_T41 HR105_1.out x7_5 p106 q106
                                          cases e106
                                          replace p106 := eq_true p106
                                          replace q106 := eq_true q106
                                          have p107 : 0 ≤ (x6_2 : Int) := of_decide_eq_true (by first | (with_reducible assumption) | assumption)
                                          have q107 : x6_2 < (l0.length : Int) := of_decide_eq_true (by first | (with_reducible assumption) | assumption)
                                          obtain ⟨ad107, A107_1, c107_1, A107_3, c107_3, e107, hx107_0, hx107_1, hx107_2, hx107_3, hl107_1, hi107_1, hl107_3, hi107_3⟩ := at_T32 HR0.out x6_2 p107 q107
                                          obtain rfl : ad104 = ad107 := (by injection e107)
                                          have HR107_1 := Aside0.mk hi107_1
                                          have HC107_1 := Aside0.mk hl107_1
                                          clear hi107_1 hl107_1
                                          have HR107_3 := Aside0.mk hi107_3
                                          have HC107_3 := Aside0.mk hl107_3
                                          clear hi107_3 hl107_3
                                          replace p107 := eq_true p107
                                          replace q107 := eq_true q107
                                          have ea_ := Option.some.inj (hx104_1.symm.trans hx107_1)
                                          injection ea_ with ea_ en_ ec_
                                          subst ea_
                                          subst ec_
                                          clear en_
                                          have ea_ := Option.some.inj (hx104_3.symm.trans hx107_3)
                                          injection ea_ with ea_ en_ ec_
                                          subst ea_
                                          subst ec_
                                          clear en_
                                          have p108 : 0 ≤ (x7_5 : Int) := of_decide_eq_true (by first | (with_reducible assumption) | assumption)
                                          have q108 : x7_5 < (((rd_T32 l0 x6_2).f1).length : Int) := of_decide_eq_true (by first | (with_reducible assumption) | assumption)
                                          obtain ⟨ad108, e108, hx108_0, hx108_1⟩ := at_T41 HR107_1.out x7_5 p108 q108
                                          cases e108
                                          replace p108 := eq_true p108
                                          replace q108 := eq_true q108
                                          go_wp2
                                          go_ret
                                          exact ⟨by first | rfl | (simp; done) | (simp [*]; done), by repeat (first | exact Drawn0.refl _ | apply Drawn0.step)⟩
                                        · rw [if_neg c21] at H
                                          have c21b0 : decide (300 < (((rd_T41 ((rd_T32 l0 x6_2).f1) x7_5).f1).size : Int)) = false := decide_eq_false c21
                                          have c21b1 : decide (300 < ((rd_T41 ((rd_T32 l0 x6_2).f1) x7_5).f1).size) = false := decide_eq_false (by omega)
                                          clear c21
                                          have H' := Aside0.mk H
                                          clear H
                                          have p104 : 0 ≤ (x6_2 : Int) := of_decide_eq_true (by first | (with_reducible assumption) | assumption)
                                          have q104 : x6_2 < (l0.length : Int) := of_decide_eq_true (by first | (with_reducible assumption) | assumption)
                                          obtain ⟨ad104, A104_1, c104_1, A104_3, c104_3, e104, hx104_0, hx104_1, hx104_2, hx104_3, hl104_1, hi104_1, hl104_3, hi104_3⟩ := at_T32 HR0.out x6_2 p104 q104
                                          cases e104
                                          have HR104_1 := Aside0.mk hi104_1
                                          have HC104_1 := Aside0.mk hl104_1
                                          clear hi104_1 hl104_1
                                          have HR104_3 := Aside0.mk hi104_3
                                          have HC104_3 := Aside0.mk hl104_3
                                          clear hi104_3 hl104_3
                                          replace p104 := eq_true p104
                                          replace q104 := eq_true q104
                                          have p105 : 0 ≤ (x6_2 : Int) := of_decide_eq_true (by first | (with_reducible assumption) | assumption)
                                          have q105 : x6_2 < (l0.length : Int) := of_decide_eq_true (by first | (with_reducible assumption) | assumption)
                                          obtain ⟨ad105, A105_1, c105_1, A105_3, c105_3, e105, hx105_0, hx105_1, hx105_2, hx105_3, hl105_1, hi105_1, hl105_3, hi105_3⟩ := at_T32 HR0.out x6_2 p105 q105
                                          obtain rfl : ad104 = ad105 := (by injection e105)
                                          have HR105_1 := Aside0.mk hi105_1
                                          have HC105_1 := Aside0.mk hl105_1
                                          clear hi105_1 hl105_1
                                          have HR105_3 := Aside0.mk hi105_3
                                          have HC105_3 := Aside0.mk hl105_3
                                          clear hi105_3 hl105_3
                                          replace p105 := eq_true p105
                                          replace q105 := eq_true q105
                                          have ea_ := Option.some.inj (hx104_1.symm.trans hx105_1)
                                          injection ea_ with ea_ en_ ec_
                                          subst ea_
                                          subst ec_
                                          clear en_
                                          have ea_ := Option.some.inj (hx104_3.symm.trans hx105_3)
                                          injection ea_ with ea_ en_ ec_
                                          subst ea_
                                          subst ec_
                                          clear en_
                                          have p106 : 0 ≤ (x7_5 : Int) := of_decide_eq_true (by first | (with_reducible assumption) | assumption)
                                          have q106 : x7_5 < (((rd_T32 l0 x6_2).f1).length : Int) := of_decide_eq_true (by first | (with_reducible assumption) | assumption)
                                          obtain ⟨ad106, e106, hx106_0, hx106_1⟩ := at_T41 HR105_1.out x7_5 p106 q106
                                          cases e106
                                          replace p106 := eq_true p106
                                          replace q106 := eq_true q106
                                          have p107 : 0 ≤ (x6_2 : Int) := of_decide_eq_true (by first | (with_reducible assumption) | assumption)
                                          have q107 : x6_2 < (l0.length : Int) := of_decide_eq_true (by first | (with_reducible assumption) | assumption)
                                          obtain ⟨ad107, A107_1, c107_1, A107_3, c107_3, e107, hx107_0, hx107_1, hx107_2, hx107_3, hl107_1, hi107_1, hl107_3, hi107_3⟩ := at_T32 HR0.out x6_2 p107 q107
                                          obtain rfl : ad104 = ad107 := (by injection e107)
                                          have HR107_1 := Aside0.mk hi107_1
                                          have HC107_1 := Aside0.mk hl107_1
                                          clear hi107_1 hl107_1
                                          have HR107_3 := Aside0.mk hi107_3
                                          have HC107_3 := Aside0.mk hl107_3
                                          clear hi107_3 hl107_3
                                          replace p107 := eq_true p107
                                          replace q107 := eq_true q107
                                          have ea_ := Option.some.inj (hx104_1.symm.trans hx107_1)
                                          injection ea_ with ea_ en_ ec_
                                          subst ea_
                                          subst ec_
                                          clear en_
                                          have ea_ := Option.some.inj (hx104_3.symm.trans hx107_3)
                                          injection ea_ with ea_ en_ ec_
                                          subst ea_
                                          subst ec_
                                          clear en_
                                          have p108 : 0 ≤ (x7_5 : Int) := of_decide_eq_true (by first | (with_reducible assumption) | assumption)
                                          have q108 : x7_5 < (((rd_T32 l0 x6_2).f1).length : Int) := of_decide_eq_true (by first | (with_reducible assumption) | assumption)
                                          obtain ⟨ad108, e108, hx108_0, hx108_1⟩ := at_T41 HR107_1.out x7_5 p108 q108
                                          cases e108
                                          replace p108 := eq_true p108
                                          replace q108 := eq_true q108
                                          go_wp2
                                          go_roundg k5
                                          case measure => have := HJ3.out; have := HK2.out; have := HJ6.out; have := HJ9.out; have := HK5.out; omega
                                          case rel => exact ⟨(wrap64 (x7_5 + 1)), (by first | rfl | (simp; done) | (simp [*]; done)), H', ⟨by have := HJ3.out; have := HK2.out; have := HJ6.out; have := HJ9.out; have := HK5.out; omega⟩, by repeat (first | exact Drawn0.refl _ | apply Drawn0.step)⟩
                                    · rw [if_neg c19] at H
                                      exact absurd H (by simp)
                                  · rw [if_neg c18] at H
                                    have c18b0 : decide (x7_5 < (((rd_T32 l0 x6_2).f1).length : Int)) = false := decide_eq_false c18
                                    clear c18
                                    replace H := Option.bind_eq_some_iff.mp H
                                    obtain ⟨t110, A220, H⟩ := H
                                    replace H : (muslinref14_walk.l0 k5 l0 a1 (wrap64 ((wrap64 (x5_2 + 1)) + t110)) (wrap64 (x6_2 + 1))) = some r := H
                                    have A22 := Aside0.mk A220
                                    clear A220
                                    have H' := Aside0.mk H
                                    clear H
                                    have p104 : 0 ≤ (x6_2 : Int) := of_decide_eq_true (by first | (with_reducible assumption) | assumption)
                                    have q104 : x6_2 < (l0.length : Int) := of_decide_eq_true (by first | (with_reducible assumption) | assumption)
                                    obtain ⟨ad104, A104_1, c104_1, A104_3, c104_3, e104, hx104_0, hx104_1, hx104_2, hx104_3, hl104_1, hi104_1, hl104_3, hi104_3⟩ := at_T32 HR0.out x6_2 p104 q104
                                    cases e104
                                    have HR104_1 := Aside0.mk hi104_1
                                    have HC104_1 := Aside0.mk hl104_1
                                    clear hi104_1 hl104_1
                                    have HR104_3 := Aside0.mk hi104_3
                                    have HC104_3 := Aside0.mk hl104_3
                                    clear hi104_3 hl104_3
                                    replace p104 := eq_true p104
                                    replace q104 := eq_true q104
                                    have p109 : 0 ≤ (x6_2 : Int) := of_decide_eq_true (by first | (with_reducible assumption) | assumption)
                                    have q109 : x6_2 < (l0.length : Int) := of_decide_eq_true (by first | (with_reducible assumption) | assumption)
                                    obtain ⟨ad109, A109_1, c109_1, A109_3, c109_3, e109, hx109_0, hx109_1, hx109_2, hx109_3, hl109_1, hi109_1, hl109_3, hi109_3⟩ := at_T32 HR0.out x6_2 p109 q109
                                    obtain rfl : ad104 = ad109 := (by injection e109)
                                    have HR109_1 := Aside0.mk hi109_1
                                    have HC109_1 := Aside0.mk hl109_1
                                    clear hi109_1 hl109_1
                                    have HR109_3 := Aside0.mk hi109_3
                                    have HC109_3 := Aside0.mk hl109_3
                                    clear hi109_3 hl109_3
                                    replace p109 := eq_true p109
                                    replace q109 := eq_true q109
                                    have ea_ := Option.some.inj (hx104_1.symm.trans hx109_1)
                                    injection ea_ with ea_ en_ ec_
                                    subst ea_
                                    subst ec_
                                    clear en_
                                    have ea_ := Option.some.inj (hx104_3.symm.trans hx109_3)
                                    injection ea_ with ea_ en_ ec_
                                    subst ea_
                                    subst ec_
                                    clear en_
                                    go_wp2_with (first | ((with_reducible refine gate_callee (f := 19) rfl ?_); refine goesL_ (some 96) rfl rfl Tryd.func19 (by kernel_rfl) rfl #[.slice A104_3 ((rd_T32 l0 x6_2).f3).length c104_3, .int .i64 (wrap64 (a1 - 1))] rfl (by (try simp only [List.map_toArray, List.map_cons, List.map_nil]); first | done | rfl | (simp only [List.length_drop, List.length_take]; rfl)) ?_; (with_reducible refine (ih k5 (by have := HJ3.out; have := HK2.out; have := HJ6.out; have := HJ9.out; have := HK5.out; omega) _ _ ((rd_T32 l0 x6_2).f3) (wrap64 (a1 - 1)) t110 _ ?side1 ?side2 A22.out).mono ?_); (case side1 => repeat (first | exact HR109_3.out | (with_reducible refine Kd.C_alloc ?_ _) | (with_reducible refine Kd.C_drewN ?_ _) | (with_reducible refine Kd.C_drew ?_))); (case side2 => exact HC109_3.out); rintro e w' ⟨rfl, ⟨nd, rfl⟩⟩; refine ⟨_, rfl, ?_⟩))
                                    go_roundg k5
                                    case measure => have := HJ3.out; have := HK2.out; have := HJ6.out; have := HJ9.out; have := HK5.out; omega
                                    case rel => exact ⟨(wrap64 ((wrap64 (x5_2 + 1)) + t110)), (wrap64 (x6_2 + 1)), (by first | rfl | (simp; done) | (simp [*]; done)), (by first | rfl | (simp; done) | (simp [*]; done)), H', ⟨by have := HJ3.out; have := HK2.out; have := HJ6.out; have := HJ9.out; have := HK5.out; omega⟩, by repeat (first | exact Drawn0.refl _ | apply Drawn0.step)⟩
                                · rw [if_neg c17] at H
                                  exact absurd H (by simp)
                              · rw [if_neg c16] at H
                                exact absurd H (by simp)
                  · replace c9 := Bool.eq_false_iff.mpr c9
                    subst c9
                    have H1 : (some x5_2) = some r := by rw [if_neg (show ¬ (false = true) by decide)] at H; exact H
                    clear H
                    have H := H1
                    clear H1
                    obtain rfl := Option.some.inj H
                    go_wp2
                    go_ret
                    exact ⟨by first | rfl | (simp; done) | (simp [*]; done), by repeat (first | exact Drawn0.refl _ | apply Drawn0.step)⟩

end Go.Proofs.YtdgdilbbpnlplaaDoor.Pr
