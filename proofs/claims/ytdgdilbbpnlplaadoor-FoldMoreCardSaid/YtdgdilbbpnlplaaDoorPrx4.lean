/- Written by a program of this session (printa.py), with functions proved by hand counted as printed; Lean checks it. -/
import Derived.Test.YtdgdilbbpnlplaaDoorPrx0
import Derived.Test.YtdgdilbbpnlplaaDoorPrx1
import Derived.Test.YtdgdilbbpnlplaaDoorPrx3
namespace Go.Proofs.YtdgdilbbpnlplaaDoor.Pr
open Go.RowKit Go.Proofs.YtdgdilbbpnlplaaDoorW.PrintWords Go.Proofs.YtdgdilbbpnlplaaDoorW.PrintLast Go.Proofs.YtdgdilbbpnlplaaDoorW.PrintMore
attribute [local go_sem] max2_int min2_int max_two min_two max_three min_three max_four min_four   -- for this text's walks alone
set_option linter.unusedVariables false
set_option linter.unusedSimpArgs false

attribute [local go_sem high] eqA41
/-! ### muslinref21_Where: function 12 -/
mutual
def muslinref21_Where.l0 : Nat → List (S32) → Int → Int → Option (Int × Bool)
  | 0, _, _, _ => none
  | k + 1, x0, x4, x5 => if x4 > 0 then (if 0 ≤ (wrap64 (x4 - 1)) then (if (wrap64 (x4 - 1)) < (x0.length : Int) then ((muslinref21_blank.f k ((rd_T32 x0 (wrap64 (x4 - 1))).f0) ((rd_T32 x0 (wrap64 (x4 - 1))).f1) ((rd_T32 x0 (wrap64 (x4 - 1))).f2) ((rd_T32 x0 (wrap64 (x4 - 1))).f3)).bind fun t115 => (if t115 = true then (muslinref21_Where.j1 k x0 x4 x5 true) else (muslinref21_Where.j1 k x0 x4 x5 (((rd_T32 x0 (wrap64 (x4 - 1))).f0).toList == ([98, 108, 111, 99, 107, 113, 117, 111, 116, 101] : List UInt8))))) else (none)) else (none)) else (muslinref21_Where.j1 k x0 x4 x5 false)
def muslinref21_Where.j1 : Nat → List (S32) → Int → Int → Bool → Option (Int × Bool)
  | 0, _, _, _, _ => none
  | k + 1, x0, x4, x5, x27 => if x27 = true then (if 0 ≤ (wrap64 (x4 - 1)) then (if (wrap64 (x4 - 1)) < (x0.length : Int) then (if ((rd_T32 x0 (wrap64 (x4 - 1))).f0).toList = ([98, 108, 111, 99, 107, 113, 117, 111, 116, 101] : List UInt8) then (muslinref21_Where.l0 k x0 (wrap64 (x4 - 1)) (wrap64 (x4 - 1))) else (muslinref21_Where.l0 k x0 (wrap64 (x4 - 1)) x5)) else (none)) else (none)) else (if x5 < 0 then (some (0, false)) else (muslinref21_Where.l1 k x0 x5 0))
def muslinref21_Where.l1 : Nat → List (S32) → Int → Int → Option (Int × Bool)
  | 0, _, _, _ => none
  | k + 1, x0, x5, x6 => if x6 < x5 then (if 0 ≤ x6 then (if x6 < (x0.length : Int) then ((muslinref21_blank.f k ((rd_T32 x0 x6).f0) ((rd_T32 x0 x6).f1) ((rd_T32 x0 x6).f2) ((rd_T32 x0 x6).f3)).bind fun t119 => (if t119 = true then (muslinref21_Where.l1 k x0 x5 (wrap64 (x6 + 1))) else (some (x5, true)))) else (none)) else (none)) else (some (0, false))
end
def muslinref21_Where.f (k : Nat) (l0 : List (S32)) : Option (Int × Bool) := muslinref21_Where.l0 k l0 (l0.length : Int) (-1)
theorem muslinref21_Where.mono_l : ∀ k, (∀ y0 y1 y2, LeO (muslinref21_Where.l0 k y0 y1 y2) (muslinref21_Where.l0 (k + 1) y0 y1 y2)) ∧ (∀ y0 y1 y2 y3, LeO (muslinref21_Where.j1 k y0 y1 y2 y3) (muslinref21_Where.j1 (k + 1) y0 y1 y2 y3)) ∧ (∀ y0 y1 y2, LeO (muslinref21_Where.l1 k y0 y1 y2) (muslinref21_Where.l1 (k + 1) y0 y1 y2))
  | 0 => ⟨fun _ _ _ r h => by simp [muslinref21_Where.l0] at h, fun _ _ _ _ r h => by simp [muslinref21_Where.j1] at h, fun _ _ _ r h => by simp [muslinref21_Where.l1] at h⟩
  | k + 1 => by
    obtain ⟨ih0, ih1, ih2⟩ := muslinref21_Where.mono_l k
    refine ⟨?_, ?_, ?_⟩
    · intro y0 y1 y2
      unfold muslinref21_Where.l0
      repeat' first
      | (with_reducible exact ih0 _ _ _)
      | (with_reducible exact ih1 _ _ _ _)
      | (with_reducible exact ih2 _ _ _)
      | (with_reducible exact muslinref21_blank.mono _ _ _ _ _)
      | (with_reducible exact LeO.refl _)
      | (with_reducible exact LeO.none _)
      | (with_reducible refine LeO.ite ?_ ?_)
      | (with_reducible refine LeO.bind ?_ (fun _ => ?_))
      | exact ih0 _ _ _
      | exact ih1 _ _ _ _
      | exact ih2 _ _ _
      | exact muslinref21_blank.mono _ _ _ _ _
      | exact LeO.none _
      | refine LeO.ite ?_ ?_
      | refine LeO.bind ?_ (fun _ => ?_)
    · intro y0 y1 y2 y3
      unfold muslinref21_Where.j1
      repeat' first
      | (with_reducible exact ih0 _ _ _)
      | (with_reducible exact ih1 _ _ _ _)
      | (with_reducible exact ih2 _ _ _)
      | (with_reducible exact muslinref21_blank.mono _ _ _ _ _)
      | (with_reducible exact LeO.refl _)
      | (with_reducible exact LeO.none _)
      | (with_reducible refine LeO.ite ?_ ?_)
      | (with_reducible refine LeO.bind ?_ (fun _ => ?_))
      | exact ih0 _ _ _
      | exact ih1 _ _ _ _
      | exact ih2 _ _ _
      | exact muslinref21_blank.mono _ _ _ _ _
      | exact LeO.none _
      | refine LeO.ite ?_ ?_
      | refine LeO.bind ?_ (fun _ => ?_)
    · intro y0 y1 y2
      unfold muslinref21_Where.l1
      repeat' first
      | (with_reducible exact ih0 _ _ _)
      | (with_reducible exact ih1 _ _ _ _)
      | (with_reducible exact ih2 _ _ _)
      | (with_reducible exact muslinref21_blank.mono _ _ _ _ _)
      | (with_reducible exact LeO.refl _)
      | (with_reducible exact LeO.none _)
      | (with_reducible refine LeO.ite ?_ ?_)
      | (with_reducible refine LeO.bind ?_ (fun _ => ?_))
      | exact ih0 _ _ _
      | exact ih1 _ _ _ _
      | exact ih2 _ _ _
      | exact muslinref21_blank.mono _ _ _ _ _
      | exact LeO.none _
      | refine LeO.ite ?_ ?_
      | refine LeO.bind ?_ (fun _ => ?_)
theorem muslinref21_Where.mono : ∀ a0 k, LeO (muslinref21_Where.f k a0) (muslinref21_Where.f (k + 1) a0) := by
  intro a0 k
  obtain ⟨ih0, ih1, ih2⟩ := muslinref21_Where.mono_l k
  unfold muslinref21_Where.f
  repeat' first
      | (with_reducible exact ih0 _ _ _)
      | (with_reducible exact ih1 _ _ _ _)
      | (with_reducible exact ih2 _ _ _)
      | (with_reducible exact muslinref21_blank.mono _ _ _ _ _)
      | (with_reducible exact LeO.refl _)
      | (with_reducible exact LeO.none _)
      | (with_reducible refine LeO.ite ?_ ?_)
      | (with_reducible refine LeO.bind ?_ (fun _ => ?_))
      | exact ih0 _ _ _
      | exact ih1 _ _ _ _
      | exact ih2 _ _ _
      | exact muslinref21_blank.mono _ _ _ _ _
      | exact LeO.none _
      | refine LeO.ite ?_ ?_
      | refine LeO.bind ?_ (fun _ => ?_)
set_option maxHeartbeats 8000000 in
set_option maxRecDepth 100000 in
theorem muslinref21_Where.calls (k : Nat) (A0 : Option Addr) (c0 : Nat) (l0 : List (S32)) (r1 : Int) (r2 : Bool) (w : World) (hr0 : Kd.C k32 w A0 l0.length l0) (hc0 : l0.length ≤ c0) (h : muslinref21_Where.f k l0 = some (r1, r2)) :
    Calls Tryd.prog 12 #[.slice A0 l0.length c0] w fun e w' => e = .returned (.tuple #[.int .i64 r1, .bool r2]) ∧ Below w.heap.size w w' := by
  have hu32 := Tryd.underlying32
  have HR0 := Aside0.mk hr0
  have HC0 := Aside0.mk hc0
  clear hr0 hc0
  have HB := Aside0.mk (Below.refl w.heap.size w)
  have H : (muslinref21_Where.l0 k l0 (l0.length : Int) (-1)) = some (r1, r2) := h
  clear h
  have H' := Aside0.mk H
  clear H
  go_enter Tryd.func12, Tryd.ntmps12
  go_wp2
  go_loopg [4, 5] k (fun kq v4 v5 w' => ∃ (x4_1 : Int) (x5_1 : Int), v4 = .int .i64 x4_1 ∧ v5 = .int .i64 x5_1 ∧ Aside0 (muslinref21_Where.l0 kq l0 x4_1 x5_1 = some (r1, r2)) ∧ Aside0 (kq ≤ k) ∧ Aside0 (Below w.heap.size w w'))
  case atStart => exact ⟨((l0.length : Int)), ((-1)), (by first | rfl | (simp; done) | (simp [*]; done)), (by first | rfl | (simp; done) | (simp [*]; done)), H', ⟨Nat.le_refl _⟩, ⟨by repeat (first | (with_reducible first | exact HB.out | apply below_alloc | apply pw_below_drewN | apply below_drew1) | exact HB.out)⟩⟩
  case round =>
    clear H'
    try clear c1
    obtain ⟨x4_1, x5_1, rfl, rfl, HA, HK1, HB⟩ := hrel
    cases gk with
    | zero => exact absurd HA.out (by simp [muslinref21_Where.l0])
    | succ k1 =>
      have H := HA.out
      clear HA
      simp only [muslinref21_Where.l0] at H
      have HC2 := Aside0.mk H
      clear H
      go_upto_region 3 with (fail)
      go_cut [27] (fun v27 wc => ∃ (kq : Nat) (x27_1 : Bool), v27 = .bool x27_1 ∧ Aside0 (muslinref21_Where.j1 kq l0 x4_1 x5_1 x27_1 = some (r1, r2)) ∧ Aside0 (kq ≤ k1) ∧ Aside0 (Below w.heap.size w wc))
      case first =>
        have H := HC2.out
        clear HC2
        by_cases c3 : x4_1 > 0
        · rw [if_pos c3] at H
          have c3b0 : decide (0 < x4_1) = true := decide_eq_true c3
          clear c3
          (first | rw [c3b0] | (simp only [i64_w, i32_w]; rw [c3b0]) | skip)
          obtain ⟨ji4, hji4⟩ : ∃ j_ : Int, (wrap64 (x4_1 - 1)) = j_ := ⟨_, rfl⟩
          replace H : (if 0 ≤ (ji4) then (if (ji4) < (l0.length : Int) then ((muslinref21_blank.f k1 ((rd_T32 l0 (ji4)).f0) ((rd_T32 l0 (ji4)).f1) ((rd_T32 l0 (ji4)).f2) ((rd_T32 l0 (ji4)).f3)).bind fun t115 => (if t115 = true then (muslinref21_Where.j1 k1 l0 x4_1 x5_1 true) else (muslinref21_Where.j1 k1 l0 x4_1 x5_1 (((rd_T32 l0 (ji4)).f0).toList == ([98, 108, 111, 99, 107, 113, 117, 111, 116, 101] : List UInt8))))) else (none)) else (none)) = some (r1, r2) := by first | (rw [hji4] at H; exact H) | (simp only [hji4] at H ⊢; exact H)
          have hji4w : (IntKind.i64.wrap (x4_1 - 1)) = ji4 := (i64_w _).trans hji4
          by_cases c5 : 0 ≤ (ji4)
          · rw [if_pos c5] at H
            have c5b0 : decide (0 ≤ (ji4)) = true := decide_eq_true c5
            clear c5
            by_cases c6 : (ji4) < (l0.length : Int)
            · rw [if_pos c6] at H
              have c6b0 : decide ((ji4) < (l0.length : Int)) = true := decide_eq_true c6
              clear c6
              replace H := Option.bind_eq_some_iff.mp H
              obtain ⟨t115, A70, H⟩ := H
              replace H : (if t115 = true then (muslinref21_Where.j1 k1 l0 x4_1 x5_1 true) else (muslinref21_Where.j1 k1 l0 x4_1 x5_1 (((rd_T32 l0 (ji4)).f0).toList == ([98, 108, 111, 99, 107, 113, 117, 111, 116, 101] : List UInt8)))) = some (r1, r2) := H
              have A7 := Aside0.mk A70
              clear A70
              by_cases c8 : t115 = true
              · subst c8
                have H1 : (muslinref21_Where.j1 k1 l0 x4_1 x5_1 true) = some (r1, r2) := by rw [if_pos rfl] at H; exact H
                clear H
                have H := H1
                clear H1
                have H' := Aside0.mk H
                clear H
                have p114 : 0 ≤ ((ji4) : Int) := of_decide_eq_true (by first | (with_reducible assumption) | assumption)
                have q114 : (ji4) < (l0.length : Int) := of_decide_eq_true (by first | (with_reducible assumption) | assumption)
                obtain ⟨ad114, A114_1, c114_1, A114_3, c114_3, e114, hx114_0, hx114_1, hx114_2, hx114_3, hl114_1, hi114_1, hl114_3, hi114_3⟩ := at_T32 HR0.out (ji4) p114 q114
                cases e114
                replace hx114_0 := (HB.out.cell (World.block_lt_of_cell? w _ hx114_0)).trans hx114_0
                replace hx114_1 := (HB.out.cell (World.block_lt_of_cell? w _ hx114_1)).trans hx114_1
                replace hx114_2 := (HB.out.cell (World.block_lt_of_cell? w _ hx114_2)).trans hx114_2
                replace hx114_3 := (HB.out.cell (World.block_lt_of_cell? w _ hx114_3)).trans hx114_3
                have HR114_1 := Aside0.mk hi114_1
                have HC114_1 := Aside0.mk hl114_1
                clear hi114_1 hl114_1
                have HR114_3 := Aside0.mk hi114_3
                have HC114_3 := Aside0.mk hl114_3
                clear hi114_3 hl114_3
                replace p114 := eq_true p114
                replace q114 := eq_true q114
                go_wp2_with (first | (go_at_call 24; (with_reducible refine (muslinref21_blank.calls k1 ((rd_T32 l0 (ji4)).f0) _ _ ((rd_T32 l0 (ji4)).f1) ((rd_T32 l0 (ji4)).f2) _ _ ((rd_T32 l0 (ji4)).f3) true _ ?side1 ?side2 ?side3 ?side4 A7.out).mono ?_); (case side1 => repeat (first | exact (Kd.C_below HR114_1.out HB.out) | (with_reducible refine Kd.C_alloc ?_ _) | (with_reducible refine Kd.C_drewN ?_ _) | (with_reducible refine Kd.C_drew ?_))); (case side2 => exact HC114_1.out); (case side3 => repeat (first | exact (Kd.C_below HR114_3.out HB.out) | (with_reducible refine Kd.C_alloc ?_ _) | (with_reducible refine Kd.C_drewN ?_ _) | (with_reducible refine Kd.C_drew ?_))); (case side4 => exact HC114_3.out); rintro e w9 ⟨rfl, hb⟩; have n0_ := Aside0.mk (below_step (by repeat (first | (with_reducible first | exact HB.out | apply below_alloc | apply pw_below_drewN | apply below_drew1) | exact HB.out)) hb); clear HB; have HB := n0_; clear n0_; (try clear hb); (try clear hb2); (try clear hk); (try clear hi)))
                go_meet
                case rel => exact ⟨_, (true), (by first | rfl | (simp; done) | (simp [*]; done)), H', ⟨by have := HK1.out; first | omega | exact Nat.le_refl _⟩, ⟨by repeat (first | (with_reducible first | exact HB.out | apply below_alloc | apply pw_below_drewN | apply below_drew1) | exact HB.out)⟩⟩
              · replace c8 := Bool.eq_false_iff.mpr c8
                subst c8
                have H1 : (muslinref21_Where.j1 k1 l0 x4_1 x5_1 (((rd_T32 l0 (ji4)).f0).toList == ([98, 108, 111, 99, 107, 113, 117, 111, 116, 101] : List UInt8))) = some (r1, r2) := by rw [if_neg (show ¬ (false = true) by decide)] at H; exact H
                clear H
                have H := H1
                clear H1
                have H' := Aside0.mk H
                clear H
                have p114 : 0 ≤ ((ji4) : Int) := of_decide_eq_true (by first | (with_reducible assumption) | assumption)
                have q114 : (ji4) < (l0.length : Int) := of_decide_eq_true (by first | (with_reducible assumption) | assumption)
                obtain ⟨ad114, A114_1, c114_1, A114_3, c114_3, e114, hx114_0, hx114_1, hx114_2, hx114_3, hl114_1, hi114_1, hl114_3, hi114_3⟩ := at_T32 HR0.out (ji4) p114 q114
                cases e114
                replace hx114_0 := (HB.out.cell (World.block_lt_of_cell? w _ hx114_0)).trans hx114_0
                replace hx114_1 := (HB.out.cell (World.block_lt_of_cell? w _ hx114_1)).trans hx114_1
                replace hx114_2 := (HB.out.cell (World.block_lt_of_cell? w _ hx114_2)).trans hx114_2
                replace hx114_3 := (HB.out.cell (World.block_lt_of_cell? w _ hx114_3)).trans hx114_3
                have HR114_1 := Aside0.mk hi114_1
                have HC114_1 := Aside0.mk hl114_1
                clear hi114_1 hl114_1
                have HR114_3 := Aside0.mk hi114_3
                have HC114_3 := Aside0.mk hl114_3
                clear hi114_3 hl114_3
                replace p114 := eq_true p114
                replace q114 := eq_true q114
                go_wp2_with (first | (go_at_call 24; (with_reducible refine (muslinref21_blank.calls k1 ((rd_T32 l0 (ji4)).f0) _ _ ((rd_T32 l0 (ji4)).f1) ((rd_T32 l0 (ji4)).f2) _ _ ((rd_T32 l0 (ji4)).f3) false _ ?side1 ?side2 ?side3 ?side4 A7.out).mono ?_); (case side1 => repeat (first | exact (Kd.C_below HR114_1.out HB.out) | (with_reducible refine Kd.C_alloc ?_ _) | (with_reducible refine Kd.C_drewN ?_ _) | (with_reducible refine Kd.C_drew ?_))); (case side2 => exact HC114_1.out); (case side3 => repeat (first | exact (Kd.C_below HR114_3.out HB.out) | (with_reducible refine Kd.C_alloc ?_ _) | (with_reducible refine Kd.C_drewN ?_ _) | (with_reducible refine Kd.C_drew ?_))); (case side4 => exact HC114_3.out); rintro e w10 ⟨rfl, hb⟩; have n0_ := Aside0.mk (below_step (by repeat (first | (with_reducible first | exact HB.out | apply below_alloc | apply pw_below_drewN | apply below_drew1) | exact HB.out)) hb); clear HB; have HB := n0_; clear n0_; (try clear hb); (try clear hb2); (try clear hk); (try clear hi); have p116 : 0 ≤ ((ji4) : Int) := of_decide_eq_true (by first | (with_reducible assumption) | assumption); have q116 : (ji4) < (l0.length : Int) := of_decide_eq_true (by first | (with_reducible assumption) | assumption); obtain ⟨ad116, A116_1, c116_1, A116_3, c116_3, e116, hx116_0, hx116_1, hx116_2, hx116_3, hl116_1, hi116_1, hl116_3, hi116_3⟩ := at_T32 HR0.out (ji4) p116 q116; obtain rfl : ad114 = ad116 := (by injection e116); replace hx116_0 := (HB.out.cell (World.block_lt_of_cell? w _ hx116_0)).trans hx116_0; replace hx116_1 := (HB.out.cell (World.block_lt_of_cell? w _ hx116_1)).trans hx116_1; replace hx116_2 := (HB.out.cell (World.block_lt_of_cell? w _ hx116_2)).trans hx116_2; replace hx116_3 := (HB.out.cell (World.block_lt_of_cell? w _ hx116_3)).trans hx116_3; have HR116_1 := Aside0.mk hi116_1; have HC116_1 := Aside0.mk hl116_1; clear hi116_1 hl116_1; have HR116_3 := Aside0.mk hi116_3; have HC116_3 := Aside0.mk hl116_3; clear hi116_3 hl116_3; replace p116 := eq_true p116; replace q116 := eq_true q116))
                go_meet
                case rel => exact ⟨_, ((((rd_T32 l0 (ji4)).f0).toList == ([98, 108, 111, 99, 107, 113, 117, 111, 116, 101] : List UInt8))), (by first | rfl | (simp; done) | (simp only [← hji4] <;> (first | rfl | simp)) | (simp [*]; done)), H', ⟨by have := HK1.out; first | omega | exact Nat.le_refl _⟩, ⟨by repeat (first | (with_reducible first | exact HB.out | apply below_alloc | apply pw_below_drewN | apply below_drew1) | exact HB.out)⟩⟩
            · rw [if_neg c6] at H
              exact absurd H (by simp)
          · rw [if_neg c5] at H
            exact absurd H (by simp)
        · rw [if_neg c3] at H
          have c3b0 : decide (0 < x4_1) = false := decide_eq_false c3
          clear c3
          (first | rw [c3b0] | (simp only [i64_w, i32_w]; rw [c3b0]) | skip)
          have H' := Aside0.mk H
          clear H
          go_wp2
          go_meet
          case rel => exact ⟨_, (false), (by first | rfl | (simp; done) | (simp [*]; done)), H', ⟨by have := HK1.out; first | omega | exact Nat.le_refl _⟩, ⟨by repeat (first | (with_reducible first | exact HB.out | apply below_alloc | apply pw_below_drewN | apply below_drew1) | exact HB.out)⟩⟩
      case rest =>
        clear HC2
        try clear c1
        try clear p1
        try clear q1
        try clear hx1
        try clear p2
        try clear c3
        try clear c3b0
        try clear c5
        try clear c5b0
        try clear c6
        try clear c6b0
        try clear p6
        try clear c8
        try clear hx114_0
        try clear hx114_1
        try clear hx114_2
        try clear hx114_3
        try clear hx116_0
        try clear hx116_1
        try clear hx116_2
        try clear hx116_3
        try clear p114
        try clear p116
        try clear q114
        try clear q116
        obtain ⟨kq, x27_1, rfl, HA, HJ1, HB⟩ := hcut
        cases kq with
        | zero => exact absurd HA.out (by simp [muslinref21_Where.j1])
        | succ kj1 =>
          have H := HA.out
          clear HA
          simp only [muslinref21_Where.j1] at H
          by_cases c11 : x27_1 = true
          · subst c11
            have H1 : (if 0 ≤ (wrap64 (x4_1 - 1)) then (if (wrap64 (x4_1 - 1)) < (l0.length : Int) then (if ((rd_T32 l0 (wrap64 (x4_1 - 1))).f0).toList = ([98, 108, 111, 99, 107, 113, 117, 111, 116, 101] : List UInt8) then (muslinref21_Where.l0 kj1 l0 (wrap64 (x4_1 - 1)) (wrap64 (x4_1 - 1))) else (muslinref21_Where.l0 kj1 l0 (wrap64 (x4_1 - 1)) x5_1)) else (none)) else (none)) = some (r1, r2) := by rw [if_pos rfl] at H; exact H
            clear H
            have H := H1
            clear H1
            obtain ⟨ji12, hji12⟩ : ∃ j_ : Int, (wrap64 (x4_1 - 1)) = j_ := ⟨_, rfl⟩
            replace H : (if 0 ≤ (ji12) then (if (ji12) < (l0.length : Int) then (if ((rd_T32 l0 (ji12)).f0).toList = ([98, 108, 111, 99, 107, 113, 117, 111, 116, 101] : List UInt8) then (muslinref21_Where.l0 kj1 l0 ji12 ji12) else (muslinref21_Where.l0 kj1 l0 ji12 x5_1)) else (none)) else (none)) = some (r1, r2) := by first | (rw [hji12] at H; exact H) | (simp only [hji12] at H ⊢; exact H)
            have hji12w : (IntKind.i64.wrap (x4_1 - 1)) = ji12 := (i64_w _).trans hji12
            by_cases c13 : 0 ≤ (ji12)
            · rw [if_pos c13] at H
              have c13b0 : decide (0 ≤ (ji12)) = true := decide_eq_true c13
              clear c13
              by_cases c14 : (ji12) < (l0.length : Int)
              · rw [if_pos c14] at H
                have c14b0 : decide ((ji12) < (l0.length : Int)) = true := decide_eq_true c14
                clear c14
                by_cases c15 : ((rd_T32 l0 (ji12)).f0).toList = ([98, 108, 111, 99, 107, 113, 117, 111, 116, 101] : List UInt8)
                · rw [if_pos c15] at H
                  have c15b0 : (((rd_T32 l0 (ji12)).f0).toList == ([98, 108, 111, 99, 107, 113, 117, 111, 116, 101] : List UInt8)) = true := beq_iff_eq.mpr c15
                  have c15b1 : (((rd_T32 l0 (ji12)).f0).toList != ([98, 108, 111, 99, 107, 113, 117, 111, 116, 101] : List UInt8)) = false := bne_eq_false_iff_eq.mpr c15
                  clear c15
                  have H' := Aside0.mk H
                  clear H
                  have p117 : 0 ≤ ((ji12) : Int) := of_decide_eq_true (by first | (with_reducible assumption) | assumption)
                  have q117 : (ji12) < (l0.length : Int) := of_decide_eq_true (by first | (with_reducible assumption) | assumption)
                  obtain ⟨ad117, A117_1, c117_1, A117_3, c117_3, e117, hx117_0, hx117_1, hx117_2, hx117_3, hl117_1, hi117_1, hl117_3, hi117_3⟩ := at_T32 HR0.out (ji12) p117 q117
                  cases e117
                  replace hx117_0 := (HB.out.cell (World.block_lt_of_cell? w _ hx117_0)).trans hx117_0
                  replace hx117_1 := (HB.out.cell (World.block_lt_of_cell? w _ hx117_1)).trans hx117_1
                  replace hx117_2 := (HB.out.cell (World.block_lt_of_cell? w _ hx117_2)).trans hx117_2
                  replace hx117_3 := (HB.out.cell (World.block_lt_of_cell? w _ hx117_3)).trans hx117_3
                  have HR117_1 := Aside0.mk hi117_1
                  have HC117_1 := Aside0.mk hl117_1
                  clear hi117_1 hl117_1
                  have HR117_3 := Aside0.mk hi117_3
                  have HC117_3 := Aside0.mk hl117_3
                  clear hi117_3 hl117_3
                  replace p117 := eq_true p117
                  replace q117 := eq_true q117
                  go_wp2
                  go_roundg kj1
                  case measure => have := HK1.out; have := HJ1.out; omega
                  case rel => exact ⟨(ji12), (ji12), (by first | rfl | (simp; done) | (simp only [← hji12] <;> (first | rfl | simp)) | (simp [*]; done)), (by first | rfl | (simp; done) | (simp only [← hji12] <;> (first | rfl | simp)) | (simp [*]; done)), H', ⟨by have := HK1.out; have := HJ1.out; omega⟩, ⟨by repeat (first | (with_reducible first | exact HB.out | apply below_alloc | apply pw_below_drewN | apply below_drew1) | exact HB.out)⟩⟩
                · rw [if_neg c15] at H
                  have c15b0 : (((rd_T32 l0 (ji12)).f0).toList == ([98, 108, 111, 99, 107, 113, 117, 111, 116, 101] : List UInt8)) = false := beq_eq_false_iff_ne.mpr c15
                  have c15b1 : (((rd_T32 l0 (ji12)).f0).toList != ([98, 108, 111, 99, 107, 113, 117, 111, 116, 101] : List UInt8)) = true := bne_iff_ne.mpr c15
                  have H' := Aside0.mk H
                  clear H
                  have p117 : 0 ≤ ((ji12) : Int) := of_decide_eq_true (by first | (with_reducible assumption) | assumption)
                  have q117 : (ji12) < (l0.length : Int) := of_decide_eq_true (by first | (with_reducible assumption) | assumption)
                  obtain ⟨ad117, A117_1, c117_1, A117_3, c117_3, e117, hx117_0, hx117_1, hx117_2, hx117_3, hl117_1, hi117_1, hl117_3, hi117_3⟩ := at_T32 HR0.out (ji12) p117 q117
                  cases e117
                  replace hx117_0 := (HB.out.cell (World.block_lt_of_cell? w _ hx117_0)).trans hx117_0
                  replace hx117_1 := (HB.out.cell (World.block_lt_of_cell? w _ hx117_1)).trans hx117_1
                  replace hx117_2 := (HB.out.cell (World.block_lt_of_cell? w _ hx117_2)).trans hx117_2
                  replace hx117_3 := (HB.out.cell (World.block_lt_of_cell? w _ hx117_3)).trans hx117_3
                  have HR117_1 := Aside0.mk hi117_1
                  have HC117_1 := Aside0.mk hl117_1
                  clear hi117_1 hl117_1
                  have HR117_3 := Aside0.mk hi117_3
                  have HC117_3 := Aside0.mk hl117_3
                  clear hi117_3 hl117_3
                  replace p117 := eq_true p117
                  replace q117 := eq_true q117
                  go_wp2
                  go_roundg kj1
                  case measure => have := HK1.out; have := HJ1.out; omega
                  case rel => exact ⟨(ji12), (x5_1), (by first | rfl | (simp; done) | (simp only [← hji12] <;> (first | rfl | simp)) | (simp [*]; done)), (by first | rfl | (simp; done) | (simp [*]; done)), H', ⟨by have := HK1.out; have := HJ1.out; omega⟩, ⟨by repeat (first | (with_reducible first | exact HB.out | apply below_alloc | apply pw_below_drewN | apply below_drew1) | exact HB.out)⟩⟩
              · rw [if_neg c14] at H
                exact absurd H (by simp)
            · rw [if_neg c13] at H
              exact absurd H (by simp)
          · replace c11 := Bool.eq_false_iff.mpr c11
            subst c11
            have H1 : (if x5_1 < 0 then (some (0, false)) else (muslinref21_Where.l1 kj1 l0 x5_1 0)) = some (r1, r2) := by rw [if_neg (show ¬ (false = true) by decide)] at H; exact H
            clear H
            have H := H1
            clear H1
            by_cases c16 : x5_1 < 0
            · rw [if_pos c16] at H
              have c16b0 : decide (x5_1 < 0) = true := decide_eq_true c16
              clear c16
              simp only [Option.some.injEq, Prod.mk.injEq] at H
              obtain ⟨rfl, rfl⟩ := H
              go_wp2
              go_ret2
              exact ⟨by first | rfl | (simp [errW_none, errW_some] <;> rfl) | (simp [*, errW_none, errW_some] <;> rfl), by repeat (first | (with_reducible first | exact HB.out | apply below_alloc | apply pw_below_drewN | apply below_drew1) | exact HB.out)⟩
            · rw [if_neg c16] at H
              have c16b0 : decide (x5_1 < 0) = false := decide_eq_false c16
              clear c16
              have H' := Aside0.mk H
              clear H
              go_wp2
              go_loopg [6] kj1 (fun kq v6 w' => ∃ (x6_3 : Int), v6 = .int .i64 x6_3 ∧ Aside0 (muslinref21_Where.l1 kq l0 x5_1 x6_3 = some (r1, r2)) ∧ Aside0 (kq ≤ kj1) ∧ Aside0 (Below w.heap.size w w'))
              case atStart => exact ⟨(0), (by first | rfl | (simp; done) | (simp [*]; done)), H', ⟨Nat.le_refl _⟩, ⟨by repeat (first | (with_reducible first | exact HB.out | apply below_alloc | apply pw_below_drewN | apply below_drew1) | exact HB.out)⟩⟩
              case round =>
                clear H'
                try clear c1
                try clear p1
                try clear q1
                try clear hx1
                try clear p2
                try clear c3
                try clear c3b0
                try clear c5
                try clear c5b0
                try clear c6
                try clear c6b0
                try clear p6
                try clear c8
                try clear c11
                try clear p11
                try clear q11
                try clear hx11
                try clear c12
                try clear c13
                try clear c13b0
                try clear c14
                try clear c14b0
                try clear c15
                try clear c15b0
                try clear c15b1
                try clear c16
                try clear c16b0
                try clear hx114_0
                try clear hx114_1
                try clear hx114_2
                try clear hx114_3
                try clear hx116_0
                try clear hx116_1
                try clear hx116_2
                try clear hx116_3
                try clear hx117_0
                try clear hx117_1
                try clear hx117_2
                try clear hx117_3
                try clear p1
                try clear p114
                try clear p116
                try clear p117
                try clear p2
                try clear p6
                try clear q1
                try clear q114
                try clear q116
                try clear q117
                obtain ⟨x6_3, rfl, HA, HK3, HB⟩ := hrel
                cases gk with
                | zero => exact absurd HA.out (by simp [muslinref21_Where.l1])
                | succ k3 =>
                  have H := HA.out
                  clear HA
                  simp only [muslinref21_Where.l1] at H
                  by_cases c17 : x6_3 < x5_1
                  · rw [if_pos c17] at H
                    have c17b0 : decide (x6_3 < x5_1) = true := decide_eq_true c17
                    clear c17
                    by_cases c18 : 0 ≤ x6_3
                    · rw [if_pos c18] at H
                      have c18b0 : decide (0 ≤ x6_3) = true := decide_eq_true c18
                      clear c18
                      by_cases c19 : x6_3 < (l0.length : Int)
                      · rw [if_pos c19] at H
                        have c19b0 : decide (x6_3 < (l0.length : Int)) = true := decide_eq_true c19
                        clear c19
                        replace H := Option.bind_eq_some_iff.mp H
                        obtain ⟨t119, A200, H⟩ := H
                        replace H : (if t119 = true then (muslinref21_Where.l1 k3 l0 x5_1 (wrap64 (x6_3 + 1))) else (some (x5_1, true))) = some (r1, r2) := H
                        have A20 := Aside0.mk A200
                        clear A200
                        by_cases c21 : t119 = true
                        · subst c21
                          have H1 : (muslinref21_Where.l1 k3 l0 x5_1 (wrap64 (x6_3 + 1))) = some (r1, r2) := by rw [if_pos rfl] at H; exact H
                          clear H
                          have H := H1
                          clear H1
                          have H' := Aside0.mk H
                          clear H
                          have p118 : 0 ≤ (x6_3 : Int) := of_decide_eq_true (by first | (with_reducible assumption) | assumption)
                          have q118 : x6_3 < (l0.length : Int) := of_decide_eq_true (by first | (with_reducible assumption) | assumption)
                          obtain ⟨ad118, A118_1, c118_1, A118_3, c118_3, e118, hx118_0, hx118_1, hx118_2, hx118_3, hl118_1, hi118_1, hl118_3, hi118_3⟩ := at_T32 HR0.out x6_3 p118 q118
                          cases e118
                          replace hx118_0 := (HB.out.cell (World.block_lt_of_cell? w _ hx118_0)).trans hx118_0
                          replace hx118_1 := (HB.out.cell (World.block_lt_of_cell? w _ hx118_1)).trans hx118_1
                          replace hx118_2 := (HB.out.cell (World.block_lt_of_cell? w _ hx118_2)).trans hx118_2
                          replace hx118_3 := (HB.out.cell (World.block_lt_of_cell? w _ hx118_3)).trans hx118_3
                          have HR118_1 := Aside0.mk hi118_1
                          have HC118_1 := Aside0.mk hl118_1
                          clear hi118_1 hl118_1
                          have HR118_3 := Aside0.mk hi118_3
                          have HC118_3 := Aside0.mk hl118_3
                          clear hi118_3 hl118_3
                          replace p118 := eq_true p118
                          replace q118 := eq_true q118
                          go_wp2_with (first | ((with_reducible refine gate_callee (f := 24) rfl ?_); refine goesL_ (some 48) rfl rfl Tryd.func24 (by kernel_rfl) rfl #[.agg #[.string ((rd_T32 l0 x6_3).f0), .slice A118_1 ((rd_T32 l0 x6_3).f1).length c118_1, .string ((rd_T32 l0 x6_3).f2), .slice A118_3 ((rd_T32 l0 x6_3).f3).length c118_3]] rfl (by (try simp only [List.map_toArray, List.map_cons, List.map_nil]); first | done | rfl | (simp only [List.length_drop, List.length_take]; rfl)) ?_; (with_reducible refine (muslinref21_blank.calls k3 ((rd_T32 l0 x6_3).f0) _ _ ((rd_T32 l0 x6_3).f1) ((rd_T32 l0 x6_3).f2) _ _ ((rd_T32 l0 x6_3).f3) true _ ?side1 ?side2 ?side3 ?side4 A20.out).mono ?_); (case side1 => repeat (first | exact (Kd.C_below HR118_1.out HB.out) | (with_reducible refine Kd.C_alloc ?_ _) | (with_reducible refine Kd.C_drewN ?_ _) | (with_reducible refine Kd.C_drew ?_))); (case side2 => exact HC118_1.out); (case side3 => repeat (first | exact (Kd.C_below HR118_3.out HB.out) | (with_reducible refine Kd.C_alloc ?_ _) | (with_reducible refine Kd.C_drewN ?_ _) | (with_reducible refine Kd.C_drew ?_))); (case side4 => exact HC118_3.out); rintro e w22 ⟨rfl, hb⟩; refine ⟨_, rfl, ?_⟩; have n0_ := Aside0.mk (below_step (by repeat (first | (with_reducible first | exact HB.out | apply below_alloc | apply pw_below_drewN | apply below_drew1) | exact HB.out)) hb); clear HB; have HB := n0_; clear n0_; (try clear hb); (try clear hb2); (try clear hk); (try clear hi)))
                          go_roundg k3
                          case measure => have := HK1.out; have := HJ1.out; have := HK3.out; omega
                          case rel => exact ⟨(wrap64 (x6_3 + 1)), (by first | rfl | (simp; done) | (simp [*]; done)), H', ⟨by have := HK1.out; have := HJ1.out; have := HK3.out; omega⟩, ⟨by repeat (first | (with_reducible first | exact HB.out | apply below_alloc | apply pw_below_drewN | apply below_drew1) | exact HB.out)⟩⟩
                        · replace c21 := Bool.eq_false_iff.mpr c21
                          subst c21
                          have H1 : (some (x5_1, true)) = some (r1, r2) := by rw [if_neg (show ¬ (false = true) by decide)] at H; exact H
                          clear H
                          have H := H1
                          clear H1
                          simp only [Option.some.injEq, Prod.mk.injEq] at H
                          obtain ⟨rfl, rfl⟩ := H
                          have p118 : 0 ≤ (x6_3 : Int) := of_decide_eq_true (by first | (with_reducible assumption) | assumption)
                          have q118 : x6_3 < (l0.length : Int) := of_decide_eq_true (by first | (with_reducible assumption) | assumption)
                          obtain ⟨ad118, A118_1, c118_1, A118_3, c118_3, e118, hx118_0, hx118_1, hx118_2, hx118_3, hl118_1, hi118_1, hl118_3, hi118_3⟩ := at_T32 HR0.out x6_3 p118 q118
                          cases e118
                          replace hx118_0 := (HB.out.cell (World.block_lt_of_cell? w _ hx118_0)).trans hx118_0
                          replace hx118_1 := (HB.out.cell (World.block_lt_of_cell? w _ hx118_1)).trans hx118_1
                          replace hx118_2 := (HB.out.cell (World.block_lt_of_cell? w _ hx118_2)).trans hx118_2
                          replace hx118_3 := (HB.out.cell (World.block_lt_of_cell? w _ hx118_3)).trans hx118_3
                          have HR118_1 := Aside0.mk hi118_1
                          have HC118_1 := Aside0.mk hl118_1
                          clear hi118_1 hl118_1
                          have HR118_3 := Aside0.mk hi118_3
                          have HC118_3 := Aside0.mk hl118_3
                          clear hi118_3 hl118_3
                          replace p118 := eq_true p118
                          replace q118 := eq_true q118
                          go_wp2_with (first | ((with_reducible refine gate_callee (f := 24) rfl ?_); refine goesL_ (some 48) rfl rfl Tryd.func24 (by kernel_rfl) rfl #[.agg #[.string ((rd_T32 l0 x6_3).f0), .slice A118_1 ((rd_T32 l0 x6_3).f1).length c118_1, .string ((rd_T32 l0 x6_3).f2), .slice A118_3 ((rd_T32 l0 x6_3).f3).length c118_3]] rfl (by (try simp only [List.map_toArray, List.map_cons, List.map_nil]); first | done | rfl | (simp only [List.length_drop, List.length_take]; rfl)) ?_; (with_reducible refine (muslinref21_blank.calls k3 ((rd_T32 l0 x6_3).f0) _ _ ((rd_T32 l0 x6_3).f1) ((rd_T32 l0 x6_3).f2) _ _ ((rd_T32 l0 x6_3).f3) false _ ?side1 ?side2 ?side3 ?side4 A20.out).mono ?_); (case side1 => repeat (first | exact (Kd.C_below HR118_1.out HB.out) | (with_reducible refine Kd.C_alloc ?_ _) | (with_reducible refine Kd.C_drewN ?_ _) | (with_reducible refine Kd.C_drew ?_))); (case side2 => exact HC118_1.out); (case side3 => repeat (first | exact (Kd.C_below HR118_3.out HB.out) | (with_reducible refine Kd.C_alloc ?_ _) | (with_reducible refine Kd.C_drewN ?_ _) | (with_reducible refine Kd.C_drew ?_))); (case side4 => exact HC118_3.out); rintro e w23 ⟨rfl, hb⟩; refine ⟨_, rfl, ?_⟩; have n0_ := Aside0.mk (below_step (by repeat (first | (with_reducible first | exact HB.out | apply below_alloc | apply pw_below_drewN | apply below_drew1) | exact HB.out)) hb); clear HB; have HB := n0_; clear n0_; (try clear hb); (try clear hb2); (try clear hk); (try clear hi)))
                          go_ret2
                          exact ⟨by first | rfl | (simp [errW_none, errW_some] <;> rfl) | (simp [*, errW_none, errW_some] <;> rfl), by repeat (first | (with_reducible first | exact HB.out | apply below_alloc | apply pw_below_drewN | apply below_drew1) | exact HB.out)⟩
                      · rw [if_neg c19] at H
                        exact absurd H (by simp)
                    · rw [if_neg c18] at H
                      exact absurd H (by simp)
                  · rw [if_neg c17] at H
                    have c17b0 : decide (x6_3 < x5_1) = false := decide_eq_false c17
                    clear c17
                    simp only [Option.some.injEq, Prod.mk.injEq] at H
                    obtain ⟨rfl, rfl⟩ := H
                    go_wp2
                    go_ret2
                    exact ⟨by first | rfl | (simp [errW_none, errW_some] <;> rfl) | (simp [*, errW_none, errW_some] <;> rfl), by repeat (first | (with_reducible first | exact HB.out | apply below_alloc | apply pw_below_drewN | apply below_drew1) | exact HB.out)⟩

/-! ### muslinref13_SameAttrs: function 25 -/
def muslinref13_SameAttrs.l0 : Nat → List (S41) → List (S41) → Int → Option (Bool)
  | 0, _, _, _ => none
  | k + 1, x0, x1, x5 => if x5 < (x0.length : Int) then (if 0 ≤ x5 then (if x5 < (x1.length : Int) then (if (!((((rd_T41 x0 x5).f0).toList) == (((rd_T41 x1 x5).f0).toList)) || (!((((rd_T41 x0 x5).f1).toList) == (((rd_T41 x1 x5).f1).toList)))) = true then (some false) else (muslinref13_SameAttrs.l0 k x0 x1 (wrap64 (x5 + 1)))) else (none)) else (none)) else (some true)
def muslinref13_SameAttrs.f (k : Nat) (l0 : List (S41)) (l1 : List (S41)) : Option (Bool) := if (l0.length : Int) = (l1.length : Int) then (muslinref13_SameAttrs.l0 k l0 l1 0) else (some false)
theorem muslinref13_SameAttrs.mono_l : ∀ k, (∀ y0 y1 y2, LeO (muslinref13_SameAttrs.l0 k y0 y1 y2) (muslinref13_SameAttrs.l0 (k + 1) y0 y1 y2))
  | 0 => fun _ _ _ r h => by simp [muslinref13_SameAttrs.l0] at h
  | k + 1 => by
    have ih0 := muslinref13_SameAttrs.mono_l k
    · intro y0 y1 y2
      unfold muslinref13_SameAttrs.l0
      repeat' first
      | (with_reducible exact ih0 _ _ _)
      | (with_reducible exact LeO.refl _)
      | (with_reducible exact LeO.none _)
      | (with_reducible refine LeO.ite ?_ ?_)
      | (with_reducible refine LeO.bind ?_ (fun _ => ?_))
      | exact ih0 _ _ _
      | exact LeO.none _
      | refine LeO.ite ?_ ?_
      | refine LeO.bind ?_ (fun _ => ?_)
theorem muslinref13_SameAttrs.mono : ∀ a0 a1 k, LeO (muslinref13_SameAttrs.f k a0 a1) (muslinref13_SameAttrs.f (k + 1) a0 a1) := by
  intro a0 a1 k
  have ih0 := muslinref13_SameAttrs.mono_l k
  unfold muslinref13_SameAttrs.f
  repeat' first
      | (with_reducible exact ih0 _ _ _)
      | (with_reducible exact LeO.refl _)
      | (with_reducible exact LeO.none _)
      | (with_reducible refine LeO.ite ?_ ?_)
      | (with_reducible refine LeO.bind ?_ (fun _ => ?_))
      | exact ih0 _ _ _
      | exact LeO.none _
      | refine LeO.ite ?_ ?_
      | refine LeO.bind ?_ (fun _ => ?_)
set_option maxHeartbeats 8000000 in
set_option maxRecDepth 100000 in
theorem muslinref13_SameAttrs.calls (k : Nat) (A0 : Option Addr) (c0 : Nat) (l0 : List (S41)) (A1 : Option Addr) (c1 : Nat) (l1 : List (S41)) (r : Bool) (w : World) (hr0 : Kd.C k41 w A0 l0.length l0) (hc0 : l0.length ≤ c0) (hr1 : Kd.C k41 w A1 l1.length l1) (hc1 : l1.length ≤ c1) (h : muslinref13_SameAttrs.f k l0 l1 = some r) :
    Calls Tryd.prog 25 #[.slice A0 l0.length c0, .slice A1 l1.length c1] w fun e w' => e = .returned (.bool r) ∧ Drawn0 w w' := by
  have hu41 := Tryd.underlying41
  have HR0 := Aside0.mk hr0
  have HC0 := Aside0.mk hc0
  clear hr0 hc0
  have HR1 := Aside0.mk hr1
  have HC1 := Aside0.mk hc1
  clear hr1 hc1
  have H : (if (l0.length : Int) = (l1.length : Int) then (muslinref13_SameAttrs.l0 k l0 l1 0) else (some false)) = some r := h
  clear h
  by_cases c3 : (l0.length : Int) = (l1.length : Int)
  · rw [if_pos c3] at H
    have c3b0 : ((l0.length : Int) == (l1.length : Int)) = true := beq_iff_eq.mpr c3
    have c3b1 : ((l0.length : Int) != (l1.length : Int)) = false := bne_eq_false_iff_eq.mpr c3
    have c3b2 : (l0.length == l1.length) = true := by first | simpa using c3 | (simp at c3 ⊢; omega)
    clear c3
    have H' := Aside0.mk H
    clear H
    go_enter Tryd.func25, Tryd.ntmps25
    go_wp2
    repeat (go_quiet (fail); try go_wp2)
    go_loopg [5] k (fun kq v5 w' => ∃ (x5_1 : Int), v5 = .int .i64 x5_1 ∧ Aside0 (muslinref13_SameAttrs.l0 kq l0 l1 x5_1 = some r) ∧ Aside0 (kq ≤ k) ∧ Drawn0 w w')
    case atStart => exact ⟨(0), (by first | rfl | (simp; done) | (simp [*]; done)), H', ⟨Nat.le_refl _⟩, by repeat (first | exact Drawn0.refl _ | apply Drawn0.step)⟩
    case round =>
      clear H'
      try clear c1
      try clear c2
      try clear p2
      try clear c3
      try clear c3b0
      try clear c3b1
      try clear c3b2
      obtain ⟨x5_1, rfl, HA, HK1, ⟨m1, rfl⟩⟩ := hrel
      cases gk with
      | zero => exact absurd HA.out (by simp [muslinref13_SameAttrs.l0])
      | succ k1 =>
        have H := HA.out
        clear HA
        simp only [muslinref13_SameAttrs.l0] at H
        by_cases c4 : x5_1 < (l0.length : Int)
        · rw [if_pos c4] at H
          have c4b0 : decide (x5_1 < (l0.length : Int)) = true := decide_eq_true c4
          clear c4
          by_cases c5 : 0 ≤ x5_1
          · rw [if_pos c5] at H
            have c5b0 : decide (0 ≤ x5_1) = true := decide_eq_true c5
            clear c5
            by_cases c6 : x5_1 < (l1.length : Int)
            · rw [if_pos c6] at H
              have c6b0 : decide (x5_1 < (l1.length : Int)) = true := decide_eq_true c6
              clear c6
              by_cases c7 : (!((((rd_T41 l0 x5_1).f0).toList) == (((rd_T41 l1 x5_1).f0).toList)) || (!((((rd_T41 l0 x5_1).f1).toList) == (((rd_T41 l1 x5_1).f1).toList)))) = true
              · rw [if_pos c7] at H
                have c7b0 : (!((((rd_T41 l0 x5_1).f0).toList) == (((rd_T41 l1 x5_1).f0).toList)) || (!((((rd_T41 l0 x5_1).f1).toList) == (((rd_T41 l1 x5_1).f1).toList)))) = true := c7
                clear c7
                obtain rfl := Option.some.inj H
                have p120 : 0 ≤ (x5_1 : Int) := of_decide_eq_true (by first | (with_reducible assumption) | assumption)
                have q120 : x5_1 < (l0.length : Int) := of_decide_eq_true (by first | (with_reducible assumption) | assumption)
                obtain ⟨ad120, e120, hx120_0, hx120_1⟩ := at_T41 HR0.out x5_1 p120 q120
                cases e120
                replace p120 := eq_true p120
                replace q120 := eq_true q120
                have p121 : 0 ≤ (x5_1 : Int) := of_decide_eq_true (by first | (with_reducible assumption) | assumption)
                have q121 : x5_1 < (l1.length : Int) := of_decide_eq_true (by first | (with_reducible assumption) | assumption)
                obtain ⟨ad121, e121, hx121_0, hx121_1⟩ := at_T41 HR1.out x5_1 p121 q121
                cases e121
                replace p121 := eq_true p121
                replace q121 := eq_true q121
                go_wp2
                repeat (go_quiet (fail); try go_wp2)
                go_ret
                exact ⟨by first | rfl | (simp; done) | (simp [*]; done), by repeat (first | exact Drawn0.refl _ | apply Drawn0.step)⟩
              · rw [if_neg c7] at H
                have c7b0 : (!((((rd_T41 l0 x5_1).f0).toList) == (((rd_T41 l1 x5_1).f0).toList)) || (!((((rd_T41 l0 x5_1).f1).toList) == (((rd_T41 l1 x5_1).f1).toList)))) = false := by simpa using c7
                clear c7
                have H' := Aside0.mk H
                clear H
                have p120 : 0 ≤ (x5_1 : Int) := of_decide_eq_true (by first | (with_reducible assumption) | assumption)
                have q120 : x5_1 < (l0.length : Int) := of_decide_eq_true (by first | (with_reducible assumption) | assumption)
                obtain ⟨ad120, e120, hx120_0, hx120_1⟩ := at_T41 HR0.out x5_1 p120 q120
                cases e120
                replace p120 := eq_true p120
                replace q120 := eq_true q120
                have p121 : 0 ≤ (x5_1 : Int) := of_decide_eq_true (by first | (with_reducible assumption) | assumption)
                have q121 : x5_1 < (l1.length : Int) := of_decide_eq_true (by first | (with_reducible assumption) | assumption)
                obtain ⟨ad121, e121, hx121_0, hx121_1⟩ := at_T41 HR1.out x5_1 p121 q121
                cases e121
                replace p121 := eq_true p121
                replace q121 := eq_true q121
                go_wp2
                repeat (go_quiet (fail); try go_wp2)
                go_roundg k1
                case measure => have := HK1.out; omega
                case rel => exact ⟨(wrap64 (x5_1 + 1)), (by first | rfl | (simp; done) | (simp [*]; done)), H', ⟨by have := HK1.out; omega⟩, by repeat (first | exact Drawn0.refl _ | apply Drawn0.step)⟩
            · rw [if_neg c6] at H
              exact absurd H (by simp)
          · rw [if_neg c5] at H
            exact absurd H (by simp)
        · rw [if_neg c4] at H
          have c4b0 : decide (x5_1 < (l0.length : Int)) = false := decide_eq_false c4
          clear c4
          obtain rfl := Option.some.inj H
          go_wp2
          repeat (go_quiet (fail); try go_wp2)
          go_ret
          exact ⟨by first | rfl | (simp; done) | (simp [*]; done), by repeat (first | exact Drawn0.refl _ | apply Drawn0.step)⟩
  · rw [if_neg c3] at H
    have c3b0 : ((l0.length : Int) == (l1.length : Int)) = false := beq_eq_false_iff_ne.mpr c3
    have c3b1 : ((l0.length : Int) != (l1.length : Int)) = true := bne_iff_ne.mpr c3
    have c3b2 : (l0.length == l1.length) = false := by first | simpa using c3 | (simp at c3 ⊢; omega)
    obtain rfl := Option.some.inj H
    go_enter Tryd.func25, Tryd.ntmps25
    go_wp2
    repeat (go_quiet (fail); try go_wp2)
    go_ret
    exact ⟨by first | rfl | (simp; done) | (simp [*]; done), by repeat (first | exact Drawn0.refl _ | apply Drawn0.step)⟩

end Go.Proofs.YtdgdilbbpnlplaaDoor.Pr
